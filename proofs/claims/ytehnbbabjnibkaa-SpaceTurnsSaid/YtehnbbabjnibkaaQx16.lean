-- Written by mp.py (a program of this repo, over the print) for this seat: functions, contracts, walks.
import Derived.Test.YtehnbbabjnibkaaQx0
import Derived.Test.YtehnbbabjnibkaaQx3
import Derived.Test.YtehnbbabjnibkaaQx8
import Derived.Test.YtehnbbabjnibkaaQx9
import Derived.Test.YtehnbbabjnibkaaQx10
import Derived.Test.YtehnbbabjnibkaaQx11
import Derived.Test.YtehnbbabjnibkaaQx14
namespace Go.Proofs.Ytehnbbabjnibkaa.Q
open Go.RowKit Go.Proofs.YtehnbbabjnibkaaW.PrintWords Go.Proofs.YtehnbbabjnibkaaW.PrintLast Go.Proofs.YtehnbbabjnibkaaW.PrintMore
attribute [local go_sem] max2_int min2_int max_two min_two max_three min_three max_four min_four   -- for this text's walks alone
set_option linter.unusedVariables false
set_option linter.unusedSimpArgs false

/-! ### lockgatelaw17_SpaceTurns: function 5 -/
open List (setIfInBounds_toArray set_cons_zero set_cons_succ)
mutual
def lockgatelaw17_SpaceTurns.j0 : Nat → List (S32) → Bool → Int → Option (Bool)
 | 0, _, _, _ => none
 | k + 1, x1, x5, x6 => (lockgatelaw17_fresh.f k (wrap64 (140 + x6))).bind fun bt324 => ((space_Free.f k bt324.1 bt324.2.1 bt324.2.2.1 bt324.2.2.2.1 bt324.2.2.2.2).bind fun t332 => (lockgatelaw17_SpaceTurns.l0 k x1 x5 bt324.2.2.2.2 bt324.2.2.2.2 t332 ([] : List Int) 0 bt324.1 bt324.2.1 bt324.2.2.1 bt324.2.2.2.1))
def lockgatelaw17_SpaceTurns.l0 : Nat → List (S32) → Bool → List ByteArray → List ByteArray → Int → List Int → Int → Int → Int → Int → Int → Option (Bool)
 | 0, _, _, _, _, _, _, _, _, _, _, _ => none
 | k + 1, x1, x5, x8, x9, x10, x11, x12, x332000, x332001, x332002, x332003 => if x12 < (x1.length : Int) then (lockgatelaw17_SpaceTurns.j2 k x1 x5 x8 x9 x10 x11 x12 (decide (x12 < 12)) x332000 x332001 x332002 x332003) else (lockgatelaw17_SpaceTurns.j2 k x1 x5 x8 x9 x10 x11 x12 false x332000 x332001 x332002 x332003)
def lockgatelaw17_SpaceTurns.j2 : Nat → List (S32) → Bool → List ByteArray → List ByteArray → Int → List Int → Int → Bool → Int → Int → Int → Int → Option (Bool)
 | 0, _, _, _, _, _, _, _, _, _, _, _, _ => none
 | k + 1, x1, x5, x8, x9, x10, x11, x12, x46, x332000, x332001, x332002, x332003 => if x46 = true then (if 0 ≤ x12 then (if x12 < (x1.length : Int) then (if (Int.tmod ((rd_T32 x1 x12).f1) 20) < 0 then (lockgatelaw17_SpaceTurns.j3 k x1 x5 x8 x9 x10 x11 x12 (wrap64 (-(Int.tmod ((rd_T32 x1 x12).f1) 20))) x332000 x332001 x332002 x332003) else (lockgatelaw17_SpaceTurns.j3 k x1 x5 x8 x9 x10 x11 x12 (Int.tmod ((rd_T32 x1 x12).f1) 20) x332000 x332001 x332002 x332003)) else (none)) else (none)) else (lockgatelaw17_SpaceTurns.l2 k x5 x8 x9 x10 x11 (wrap64 ((x11.length : Int) - 1)) x332000 x332001 x332002 x332003)
def lockgatelaw17_SpaceTurns.j3 : Nat → List (S32) → Bool → List ByteArray → List ByteArray → Int → List Int → Int → Int → Int → Int → Int → Int → Option (Bool)
 | 0, _, _, _, _, _, _, _, _, _, _, _, _ => none
 | k + 1, x1, x5, x8, x9, x10, x11, x12, x13, x332000, x332001, x332002, x332003 => if 0 ≤ x12 then (if x12 < (x1.length : Int) then ((space_Take.f k x332000 x332001 x332002 x332003 x8 (Go.bits .and .i64 ((rd_T32 x1 x12).f0) 3) x13).bind fun bt335 => (if (bt335.2.2 != (decide (x13 ≤ x10))) = true then (lockgatelaw17_SpaceTurns.j4 k x1 x5 x8 x9 x10 x11 x12 bt335.1 bt335.2.1 true x332000 x332001 x332002 x332003) else (if bt335.2.2 = true then (if (bt335.2.1.length : Int) = x13 then (lockgatelaw17_SpaceTurns.j4 k x1 x5 x8 x9 x10 x11 x12 bt335.1 bt335.2.1 false x332000 x332001 x332002 x332003) else (lockgatelaw17_SpaceTurns.j4 k x1 x5 x8 x9 x10 x11 x12 bt335.1 bt335.2.1 true x332000 x332001 x332002 x332003)) else (lockgatelaw17_SpaceTurns.j4 k x1 x5 x8 x9 x10 x11 x12 bt335.1 bt335.2.1 ((bt335.2.1.length : Int) != 0) x332000 x332001 x332002 x332003)))) else (none)) else (none)
def lockgatelaw17_SpaceTurns.j4 : Nat → List (S32) → Bool → List ByteArray → List ByteArray → Int → List Int → Int → List ByteArray → List Int → Bool → Int → Int → Int → Int → Option (Bool)
 | 0, _, _, _, _, _, _, _, _, _, _, _, _, _, _ => none
 | k + 1, x1, x5, x8, x9, x10, x11, x12, x14, x15, x95, x332000, x332001, x332002, x332003 => if x95 = true then (some false) else (lockgatelaw17_SpaceTurns.l1 k x1 x5 x8 x9 x10 x11 x12 x14 x15 0 x332000 x332001 x332002 x332003)
def lockgatelaw17_SpaceTurns.l1 : Nat → List (S32) → Bool → List ByteArray → List ByteArray → Int → List Int → Int → List ByteArray → List Int → Int → Int → Int → Int → Int → Option (Bool)
 | 0, _, _, _, _, _, _, _, _, _, _, _, _, _, _ => none
 | k + 1, x1, x5, x8, x9, x10, x11, x12, x14, x15, x17, x332000, x332001, x332002, x332003 => if x17 < (x15.length : Int) then (if 0 ≤ x17 then ((space_Taken.f k x332000 x332001 x332002 x332003 x8 (rd x15 x17)).bind fun t343 => (if t343 = true then (some false) else ((space_Taken.f k x332000 x332001 x332002 x332003 x14 (rd x15 x17)).bind fun t345 => (if t345 = true then (lockgatelaw17_SpaceTurns.l1 k x1 x5 x8 x9 x10 x11 x12 x14 x15 (wrap64 (x17 + 1)) x332000 x332001 x332002 x332003) else (some false))))) else (none)) else (if x11.length + x15.length < 17592186044416 then ((space_Free.f k x332000 x332001 x332002 x332003 x14).bind fun t349 => (if t349 = (wrap64 (x10 - (x15.length : Int))) then ((space_Right.f k x332000 x332001 x332002 x332003 x14).bind fun t350 => (if t350 = true then (lockgatelaw17_SpaceTurns.l0 k x1 x5 x14 x9 (wrap64 (x10 - (x15.length : Int))) (x11 ++ x15) (wrap64 (x12 + 1)) x332000 x332001 x332002 x332003) else (some false))) else (some false))) else (none))
def lockgatelaw17_SpaceTurns.l2 : Nat → Bool → List ByteArray → List ByteArray → Int → List Int → Int → Int → Int → Int → Int → Option (Bool)
 | 0, _, _, _, _, _, _, _, _, _, _ => none
 | k + 1, x5, x8, x9, x10, x11, x18, x332000, x332001, x332002, x332003 => if x18 ≥ 0 then (if 0 ≤ x18 then (if x18 < (x11.length : Int) then ((space_Give.f k x332000 x332001 x332002 x332003 x8 (([rd x11 x18] : List Int))).bind fun bt356 => (if bt356.2 = true then ((space_Free.f k x332000 x332001 x332002 x332003 bt356.1).bind fun t360 => (if t360 = (wrap64 (x10 + 1)) then (lockgatelaw17_SpaceTurns.l2 k x5 bt356.1 x9 (wrap64 (x10 + 1)) x11 (wrap64 (x18 - 1)) x332000 x332001 x332002 x332003) else (some false))) else (some false))) else (none)) else (none)) else ((lockgateref15_SameNames.f k x8 x9).bind fun t351 => (if x5 = true then (some t351) else (some false)))
end
def lockgatelaw17_SpaceTurns.f (k : Nat) (a0 : Int) (l1 : List (S32)) : Option (Bool) := (lockgatelaw17_awake.f k).bind fun t323 => (if (Int.tmod a0 101) < 0 then (lockgatelaw17_SpaceTurns.j0 k l1 t323 (wrap64 (-(Int.tmod a0 101)))) else (lockgatelaw17_SpaceTurns.j0 k l1 t323 (Int.tmod a0 101)))
theorem lockgatelaw17_SpaceTurns.mono_l : ∀ k, (∀ y0 y1 y2, LeO (lockgatelaw17_SpaceTurns.j0 k y0 y1 y2) (lockgatelaw17_SpaceTurns.j0 (k + 1) y0 y1 y2)) ∧ (∀ y0 y1 y2 y3 y4 y5 y6 y7 y8 y9 y10, LeO (lockgatelaw17_SpaceTurns.l0 k y0 y1 y2 y3 y4 y5 y6 y7 y8 y9 y10) (lockgatelaw17_SpaceTurns.l0 (k + 1) y0 y1 y2 y3 y4 y5 y6 y7 y8 y9 y10)) ∧ (∀ y0 y1 y2 y3 y4 y5 y6 y7 y8 y9 y10 y11, LeO (lockgatelaw17_SpaceTurns.j2 k y0 y1 y2 y3 y4 y5 y6 y7 y8 y9 y10 y11) (lockgatelaw17_SpaceTurns.j2 (k + 1) y0 y1 y2 y3 y4 y5 y6 y7 y8 y9 y10 y11)) ∧ (∀ y0 y1 y2 y3 y4 y5 y6 y7 y8 y9 y10 y11, LeO (lockgatelaw17_SpaceTurns.j3 k y0 y1 y2 y3 y4 y5 y6 y7 y8 y9 y10 y11) (lockgatelaw17_SpaceTurns.j3 (k + 1) y0 y1 y2 y3 y4 y5 y6 y7 y8 y9 y10 y11)) ∧ (∀ y0 y1 y2 y3 y4 y5 y6 y7 y8 y9 y10 y11 y12 y13, LeO (lockgatelaw17_SpaceTurns.j4 k y0 y1 y2 y3 y4 y5 y6 y7 y8 y9 y10 y11 y12 y13) (lockgatelaw17_SpaceTurns.j4 (k + 1) y0 y1 y2 y3 y4 y5 y6 y7 y8 y9 y10 y11 y12 y13)) ∧ (∀ y0 y1 y2 y3 y4 y5 y6 y7 y8 y9 y10 y11 y12 y13, LeO (lockgatelaw17_SpaceTurns.l1 k y0 y1 y2 y3 y4 y5 y6 y7 y8 y9 y10 y11 y12 y13) (lockgatelaw17_SpaceTurns.l1 (k + 1) y0 y1 y2 y3 y4 y5 y6 y7 y8 y9 y10 y11 y12 y13)) ∧ (∀ y0 y1 y2 y3 y4 y5 y6 y7 y8 y9, LeO (lockgatelaw17_SpaceTurns.l2 k y0 y1 y2 y3 y4 y5 y6 y7 y8 y9) (lockgatelaw17_SpaceTurns.l2 (k + 1) y0 y1 y2 y3 y4 y5 y6 y7 y8 y9))
 | 0 => ⟨fun _ _ _ r h => by simp [lockgatelaw17_SpaceTurns.j0] at h, fun _ _ _ _ _ _ _ _ _ _ _ r h => by simp [lockgatelaw17_SpaceTurns.l0] at h, fun _ _ _ _ _ _ _ _ _ _ _ _ r h => by simp [lockgatelaw17_SpaceTurns.j2] at h, fun _ _ _ _ _ _ _ _ _ _ _ _ r h => by simp [lockgatelaw17_SpaceTurns.j3] at h, fun _ _ _ _ _ _ _ _ _ _ _ _ _ _ r h => by simp [lockgatelaw17_SpaceTurns.j4] at h, fun _ _ _ _ _ _ _ _ _ _ _ _ _ _ r h => by simp [lockgatelaw17_SpaceTurns.l1] at h, fun _ _ _ _ _ _ _ _ _ _ r h => by simp [lockgatelaw17_SpaceTurns.l2] at h⟩
 | k + 1 => by
  obtain ⟨ih0, ih1, ih2, ih3, ih4, ih5, ih6⟩ := lockgatelaw17_SpaceTurns.mono_l k
  refine ⟨?_, ?_, ?_, ?_, ?_, ?_, ?_⟩
  ·intro y0 y1 y2
   unfold lockgatelaw17_SpaceTurns.j0
   repeat' first
   | (with_reducible exact ih0 _ _ _)
   | (with_reducible exact ih1 _ _ _ _ _ _ _ _ _ _ _)
   | (with_reducible exact ih2 _ _ _ _ _ _ _ _ _ _ _ _)
   | (with_reducible exact ih3 _ _ _ _ _ _ _ _ _ _ _ _)
   | (with_reducible exact ih4 _ _ _ _ _ _ _ _ _ _ _ _ _ _)
   | (with_reducible exact ih5 _ _ _ _ _ _ _ _ _ _ _ _ _ _)
   | (with_reducible exact ih6 _ _ _ _ _ _ _ _ _ _)
   | (with_reducible exact lockgatelaw17_awake.mono _)
   | (with_reducible exact lockgatelaw17_fresh.mono _ _)
   | (with_reducible exact lockgateref15_SameNames.mono _ _ _)
   | (with_reducible exact space_Free.mono _ _ _ _ _ _)
   | (with_reducible exact space_Give.mono _ _ _ _ _ _ _)
   | (with_reducible exact space_Right.mono _ _ _ _ _ _)
   | (with_reducible exact space_Take.mono _ _ _ _ _ _ _ _)
   | (with_reducible exact space_Taken.mono _ _ _ _ _ _ _)
   | (with_reducible exact LeO.refl _)
   | (with_reducible exact LeO.none _)
   | (with_reducible refine LeO.ite ?_ ?_)
   | (with_reducible refine LeO.bind ?_ (fun _ => ?_))
   | exact ih0 _ _ _
   | exact ih1 _ _ _ _ _ _ _ _ _ _ _
   | exact ih2 _ _ _ _ _ _ _ _ _ _ _ _
   | exact ih3 _ _ _ _ _ _ _ _ _ _ _ _
   | exact ih4 _ _ _ _ _ _ _ _ _ _ _ _ _ _
   | exact ih5 _ _ _ _ _ _ _ _ _ _ _ _ _ _
   | exact ih6 _ _ _ _ _ _ _ _ _ _
   | exact lockgatelaw17_awake.mono _
   | exact lockgatelaw17_fresh.mono _ _
   | exact lockgateref15_SameNames.mono _ _ _
   | exact space_Free.mono _ _ _ _ _ _
   | exact space_Give.mono _ _ _ _ _ _ _
   | exact space_Right.mono _ _ _ _ _ _
   | exact space_Take.mono _ _ _ _ _ _ _ _
   | exact space_Taken.mono _ _ _ _ _ _ _
   | exact LeO.none _
   | refine LeO.ite ?_ ?_
   | refine LeO.bind ?_ (fun _ => ?_)
  ·intro y0 y1 y2 y3 y4 y5 y6 y7 y8 y9 y10
   unfold lockgatelaw17_SpaceTurns.l0
   repeat' first
   | (with_reducible exact ih0 _ _ _)
   | (with_reducible exact ih1 _ _ _ _ _ _ _ _ _ _ _)
   | (with_reducible exact ih2 _ _ _ _ _ _ _ _ _ _ _ _)
   | (with_reducible exact ih3 _ _ _ _ _ _ _ _ _ _ _ _)
   | (with_reducible exact ih4 _ _ _ _ _ _ _ _ _ _ _ _ _ _)
   | (with_reducible exact ih5 _ _ _ _ _ _ _ _ _ _ _ _ _ _)
   | (with_reducible exact ih6 _ _ _ _ _ _ _ _ _ _)
   | (with_reducible exact lockgatelaw17_awake.mono _)
   | (with_reducible exact lockgatelaw17_fresh.mono _ _)
   | (with_reducible exact lockgateref15_SameNames.mono _ _ _)
   | (with_reducible exact space_Free.mono _ _ _ _ _ _)
   | (with_reducible exact space_Give.mono _ _ _ _ _ _ _)
   | (with_reducible exact space_Right.mono _ _ _ _ _ _)
   | (with_reducible exact space_Take.mono _ _ _ _ _ _ _ _)
   | (with_reducible exact space_Taken.mono _ _ _ _ _ _ _)
   | (with_reducible exact LeO.refl _)
   | (with_reducible exact LeO.none _)
   | (with_reducible refine LeO.ite ?_ ?_)
   | (with_reducible refine LeO.bind ?_ (fun _ => ?_))
   | exact ih0 _ _ _
   | exact ih1 _ _ _ _ _ _ _ _ _ _ _
   | exact ih2 _ _ _ _ _ _ _ _ _ _ _ _
   | exact ih3 _ _ _ _ _ _ _ _ _ _ _ _
   | exact ih4 _ _ _ _ _ _ _ _ _ _ _ _ _ _
   | exact ih5 _ _ _ _ _ _ _ _ _ _ _ _ _ _
   | exact ih6 _ _ _ _ _ _ _ _ _ _
   | exact lockgatelaw17_awake.mono _
   | exact lockgatelaw17_fresh.mono _ _
   | exact lockgateref15_SameNames.mono _ _ _
   | exact space_Free.mono _ _ _ _ _ _
   | exact space_Give.mono _ _ _ _ _ _ _
   | exact space_Right.mono _ _ _ _ _ _
   | exact space_Take.mono _ _ _ _ _ _ _ _
   | exact space_Taken.mono _ _ _ _ _ _ _
   | exact LeO.none _
   | refine LeO.ite ?_ ?_
   | refine LeO.bind ?_ (fun _ => ?_)
  ·intro y0 y1 y2 y3 y4 y5 y6 y7 y8 y9 y10 y11
   unfold lockgatelaw17_SpaceTurns.j2
   repeat' first
   | (with_reducible exact ih0 _ _ _)
   | (with_reducible exact ih1 _ _ _ _ _ _ _ _ _ _ _)
   | (with_reducible exact ih2 _ _ _ _ _ _ _ _ _ _ _ _)
   | (with_reducible exact ih3 _ _ _ _ _ _ _ _ _ _ _ _)
   | (with_reducible exact ih4 _ _ _ _ _ _ _ _ _ _ _ _ _ _)
   | (with_reducible exact ih5 _ _ _ _ _ _ _ _ _ _ _ _ _ _)
   | (with_reducible exact ih6 _ _ _ _ _ _ _ _ _ _)
   | (with_reducible exact lockgatelaw17_awake.mono _)
   | (with_reducible exact lockgatelaw17_fresh.mono _ _)
   | (with_reducible exact lockgateref15_SameNames.mono _ _ _)
   | (with_reducible exact space_Free.mono _ _ _ _ _ _)
   | (with_reducible exact space_Give.mono _ _ _ _ _ _ _)
   | (with_reducible exact space_Right.mono _ _ _ _ _ _)
   | (with_reducible exact space_Take.mono _ _ _ _ _ _ _ _)
   | (with_reducible exact space_Taken.mono _ _ _ _ _ _ _)
   | (with_reducible exact LeO.refl _)
   | (with_reducible exact LeO.none _)
   | (with_reducible refine LeO.ite ?_ ?_)
   | (with_reducible refine LeO.bind ?_ (fun _ => ?_))
   | exact ih0 _ _ _
   | exact ih1 _ _ _ _ _ _ _ _ _ _ _
   | exact ih2 _ _ _ _ _ _ _ _ _ _ _ _
   | exact ih3 _ _ _ _ _ _ _ _ _ _ _ _
   | exact ih4 _ _ _ _ _ _ _ _ _ _ _ _ _ _
   | exact ih5 _ _ _ _ _ _ _ _ _ _ _ _ _ _
   | exact ih6 _ _ _ _ _ _ _ _ _ _
   | exact lockgatelaw17_awake.mono _
   | exact lockgatelaw17_fresh.mono _ _
   | exact lockgateref15_SameNames.mono _ _ _
   | exact space_Free.mono _ _ _ _ _ _
   | exact space_Give.mono _ _ _ _ _ _ _
   | exact space_Right.mono _ _ _ _ _ _
   | exact space_Take.mono _ _ _ _ _ _ _ _
   | exact space_Taken.mono _ _ _ _ _ _ _
   | exact LeO.none _
   | refine LeO.ite ?_ ?_
   | refine LeO.bind ?_ (fun _ => ?_)
  ·intro y0 y1 y2 y3 y4 y5 y6 y7 y8 y9 y10 y11
   unfold lockgatelaw17_SpaceTurns.j3
   repeat' first
   | (with_reducible exact ih0 _ _ _)
   | (with_reducible exact ih1 _ _ _ _ _ _ _ _ _ _ _)
   | (with_reducible exact ih2 _ _ _ _ _ _ _ _ _ _ _ _)
   | (with_reducible exact ih3 _ _ _ _ _ _ _ _ _ _ _ _)
   | (with_reducible exact ih4 _ _ _ _ _ _ _ _ _ _ _ _ _ _)
   | (with_reducible exact ih5 _ _ _ _ _ _ _ _ _ _ _ _ _ _)
   | (with_reducible exact ih6 _ _ _ _ _ _ _ _ _ _)
   | (with_reducible exact lockgatelaw17_awake.mono _)
   | (with_reducible exact lockgatelaw17_fresh.mono _ _)
   | (with_reducible exact lockgateref15_SameNames.mono _ _ _)
   | (with_reducible exact space_Free.mono _ _ _ _ _ _)
   | (with_reducible exact space_Give.mono _ _ _ _ _ _ _)
   | (with_reducible exact space_Right.mono _ _ _ _ _ _)
   | (with_reducible exact space_Take.mono _ _ _ _ _ _ _ _)
   | (with_reducible exact space_Taken.mono _ _ _ _ _ _ _)
   | (with_reducible exact LeO.refl _)
   | (with_reducible exact LeO.none _)
   | (with_reducible refine LeO.ite ?_ ?_)
   | (with_reducible refine LeO.bind ?_ (fun _ => ?_))
   | exact ih0 _ _ _
   | exact ih1 _ _ _ _ _ _ _ _ _ _ _
   | exact ih2 _ _ _ _ _ _ _ _ _ _ _ _
   | exact ih3 _ _ _ _ _ _ _ _ _ _ _ _
   | exact ih4 _ _ _ _ _ _ _ _ _ _ _ _ _ _
   | exact ih5 _ _ _ _ _ _ _ _ _ _ _ _ _ _
   | exact ih6 _ _ _ _ _ _ _ _ _ _
   | exact lockgatelaw17_awake.mono _
   | exact lockgatelaw17_fresh.mono _ _
   | exact lockgateref15_SameNames.mono _ _ _
   | exact space_Free.mono _ _ _ _ _ _
   | exact space_Give.mono _ _ _ _ _ _ _
   | exact space_Right.mono _ _ _ _ _ _
   | exact space_Take.mono _ _ _ _ _ _ _ _
   | exact space_Taken.mono _ _ _ _ _ _ _
   | exact LeO.none _
   | refine LeO.ite ?_ ?_
   | refine LeO.bind ?_ (fun _ => ?_)
  ·intro y0 y1 y2 y3 y4 y5 y6 y7 y8 y9 y10 y11 y12 y13
   unfold lockgatelaw17_SpaceTurns.j4
   repeat' first
   | (with_reducible exact ih0 _ _ _)
   | (with_reducible exact ih1 _ _ _ _ _ _ _ _ _ _ _)
   | (with_reducible exact ih2 _ _ _ _ _ _ _ _ _ _ _ _)
   | (with_reducible exact ih3 _ _ _ _ _ _ _ _ _ _ _ _)
   | (with_reducible exact ih4 _ _ _ _ _ _ _ _ _ _ _ _ _ _)
   | (with_reducible exact ih5 _ _ _ _ _ _ _ _ _ _ _ _ _ _)
   | (with_reducible exact ih6 _ _ _ _ _ _ _ _ _ _)
   | (with_reducible exact lockgatelaw17_awake.mono _)
   | (with_reducible exact lockgatelaw17_fresh.mono _ _)
   | (with_reducible exact lockgateref15_SameNames.mono _ _ _)
   | (with_reducible exact space_Free.mono _ _ _ _ _ _)
   | (with_reducible exact space_Give.mono _ _ _ _ _ _ _)
   | (with_reducible exact space_Right.mono _ _ _ _ _ _)
   | (with_reducible exact space_Take.mono _ _ _ _ _ _ _ _)
   | (with_reducible exact space_Taken.mono _ _ _ _ _ _ _)
   | (with_reducible exact LeO.refl _)
   | (with_reducible exact LeO.none _)
   | (with_reducible refine LeO.ite ?_ ?_)
   | (with_reducible refine LeO.bind ?_ (fun _ => ?_))
   | exact ih0 _ _ _
   | exact ih1 _ _ _ _ _ _ _ _ _ _ _
   | exact ih2 _ _ _ _ _ _ _ _ _ _ _ _
   | exact ih3 _ _ _ _ _ _ _ _ _ _ _ _
   | exact ih4 _ _ _ _ _ _ _ _ _ _ _ _ _ _
   | exact ih5 _ _ _ _ _ _ _ _ _ _ _ _ _ _
   | exact ih6 _ _ _ _ _ _ _ _ _ _
   | exact lockgatelaw17_awake.mono _
   | exact lockgatelaw17_fresh.mono _ _
   | exact lockgateref15_SameNames.mono _ _ _
   | exact space_Free.mono _ _ _ _ _ _
   | exact space_Give.mono _ _ _ _ _ _ _
   | exact space_Right.mono _ _ _ _ _ _
   | exact space_Take.mono _ _ _ _ _ _ _ _
   | exact space_Taken.mono _ _ _ _ _ _ _
   | exact LeO.none _
   | refine LeO.ite ?_ ?_
   | refine LeO.bind ?_ (fun _ => ?_)
  ·intro y0 y1 y2 y3 y4 y5 y6 y7 y8 y9 y10 y11 y12 y13
   unfold lockgatelaw17_SpaceTurns.l1
   repeat' first
   | (with_reducible exact ih0 _ _ _)
   | (with_reducible exact ih1 _ _ _ _ _ _ _ _ _ _ _)
   | (with_reducible exact ih2 _ _ _ _ _ _ _ _ _ _ _ _)
   | (with_reducible exact ih3 _ _ _ _ _ _ _ _ _ _ _ _)
   | (with_reducible exact ih4 _ _ _ _ _ _ _ _ _ _ _ _ _ _)
   | (with_reducible exact ih5 _ _ _ _ _ _ _ _ _ _ _ _ _ _)
   | (with_reducible exact ih6 _ _ _ _ _ _ _ _ _ _)
   | (with_reducible exact lockgatelaw17_awake.mono _)
   | (with_reducible exact lockgatelaw17_fresh.mono _ _)
   | (with_reducible exact lockgateref15_SameNames.mono _ _ _)
   | (with_reducible exact space_Free.mono _ _ _ _ _ _)
   | (with_reducible exact space_Give.mono _ _ _ _ _ _ _)
   | (with_reducible exact space_Right.mono _ _ _ _ _ _)
   | (with_reducible exact space_Take.mono _ _ _ _ _ _ _ _)
   | (with_reducible exact space_Taken.mono _ _ _ _ _ _ _)
   | (with_reducible exact LeO.refl _)
   | (with_reducible exact LeO.none _)
   | (with_reducible refine LeO.ite ?_ ?_)
   | (with_reducible refine LeO.bind ?_ (fun _ => ?_))
   | exact ih0 _ _ _
   | exact ih1 _ _ _ _ _ _ _ _ _ _ _
   | exact ih2 _ _ _ _ _ _ _ _ _ _ _ _
   | exact ih3 _ _ _ _ _ _ _ _ _ _ _ _
   | exact ih4 _ _ _ _ _ _ _ _ _ _ _ _ _ _
   | exact ih5 _ _ _ _ _ _ _ _ _ _ _ _ _ _
   | exact ih6 _ _ _ _ _ _ _ _ _ _
   | exact lockgatelaw17_awake.mono _
   | exact lockgatelaw17_fresh.mono _ _
   | exact lockgateref15_SameNames.mono _ _ _
   | exact space_Free.mono _ _ _ _ _ _
   | exact space_Give.mono _ _ _ _ _ _ _
   | exact space_Right.mono _ _ _ _ _ _
   | exact space_Take.mono _ _ _ _ _ _ _ _
   | exact space_Taken.mono _ _ _ _ _ _ _
   | exact LeO.none _
   | refine LeO.ite ?_ ?_
   | refine LeO.bind ?_ (fun _ => ?_)
  ·intro y0 y1 y2 y3 y4 y5 y6 y7 y8 y9
   unfold lockgatelaw17_SpaceTurns.l2
   repeat' first
   | (with_reducible exact ih0 _ _ _)
   | (with_reducible exact ih1 _ _ _ _ _ _ _ _ _ _ _)
   | (with_reducible exact ih2 _ _ _ _ _ _ _ _ _ _ _ _)
   | (with_reducible exact ih3 _ _ _ _ _ _ _ _ _ _ _ _)
   | (with_reducible exact ih4 _ _ _ _ _ _ _ _ _ _ _ _ _ _)
   | (with_reducible exact ih5 _ _ _ _ _ _ _ _ _ _ _ _ _ _)
   | (with_reducible exact ih6 _ _ _ _ _ _ _ _ _ _)
   | (with_reducible exact lockgatelaw17_awake.mono _)
   | (with_reducible exact lockgatelaw17_fresh.mono _ _)
   | (with_reducible exact lockgateref15_SameNames.mono _ _ _)
   | (with_reducible exact space_Free.mono _ _ _ _ _ _)
   | (with_reducible exact space_Give.mono _ _ _ _ _ _ _)
   | (with_reducible exact space_Right.mono _ _ _ _ _ _)
   | (with_reducible exact space_Take.mono _ _ _ _ _ _ _ _)
   | (with_reducible exact space_Taken.mono _ _ _ _ _ _ _)
   | (with_reducible exact LeO.refl _)
   | (with_reducible exact LeO.none _)
   | (with_reducible refine LeO.ite ?_ ?_)
   | (with_reducible refine LeO.bind ?_ (fun _ => ?_))
   | exact ih0 _ _ _
   | exact ih1 _ _ _ _ _ _ _ _ _ _ _
   | exact ih2 _ _ _ _ _ _ _ _ _ _ _ _
   | exact ih3 _ _ _ _ _ _ _ _ _ _ _ _
   | exact ih4 _ _ _ _ _ _ _ _ _ _ _ _ _ _
   | exact ih5 _ _ _ _ _ _ _ _ _ _ _ _ _ _
   | exact ih6 _ _ _ _ _ _ _ _ _ _
   | exact lockgatelaw17_awake.mono _
   | exact lockgatelaw17_fresh.mono _ _
   | exact lockgateref15_SameNames.mono _ _ _
   | exact space_Free.mono _ _ _ _ _ _
   | exact space_Give.mono _ _ _ _ _ _ _
   | exact space_Right.mono _ _ _ _ _ _
   | exact space_Take.mono _ _ _ _ _ _ _ _
   | exact space_Taken.mono _ _ _ _ _ _ _
   | exact LeO.none _
   | refine LeO.ite ?_ ?_
   | refine LeO.bind ?_ (fun _ => ?_)
theorem lockgatelaw17_SpaceTurns.mono : ∀ a0 a1 k, LeO (lockgatelaw17_SpaceTurns.f k a0 a1) (lockgatelaw17_SpaceTurns.f (k + 1) a0 a1) := by
 intro a0 a1 k
 obtain ⟨ih0, ih1, ih2, ih3, ih4, ih5, ih6⟩ := lockgatelaw17_SpaceTurns.mono_l k
 unfold lockgatelaw17_SpaceTurns.f
 repeat' first
   | (with_reducible exact ih0 _ _ _)
   | (with_reducible exact ih1 _ _ _ _ _ _ _ _ _ _ _)
   | (with_reducible exact ih2 _ _ _ _ _ _ _ _ _ _ _ _)
   | (with_reducible exact ih3 _ _ _ _ _ _ _ _ _ _ _ _)
   | (with_reducible exact ih4 _ _ _ _ _ _ _ _ _ _ _ _ _ _)
   | (with_reducible exact ih5 _ _ _ _ _ _ _ _ _ _ _ _ _ _)
   | (with_reducible exact ih6 _ _ _ _ _ _ _ _ _ _)
   | (with_reducible exact lockgatelaw17_awake.mono _)
   | (with_reducible exact lockgatelaw17_fresh.mono _ _)
   | (with_reducible exact lockgateref15_SameNames.mono _ _ _)
   | (with_reducible exact space_Free.mono _ _ _ _ _ _)
   | (with_reducible exact space_Give.mono _ _ _ _ _ _ _)
   | (with_reducible exact space_Right.mono _ _ _ _ _ _)
   | (with_reducible exact space_Take.mono _ _ _ _ _ _ _ _)
   | (with_reducible exact space_Taken.mono _ _ _ _ _ _ _)
   | (with_reducible exact LeO.refl _)
   | (with_reducible exact LeO.none _)
   | (with_reducible refine LeO.ite ?_ ?_)
   | (with_reducible refine LeO.bind ?_ (fun _ => ?_))
   | exact ih0 _ _ _
   | exact ih1 _ _ _ _ _ _ _ _ _ _ _
   | exact ih2 _ _ _ _ _ _ _ _ _ _ _ _
   | exact ih3 _ _ _ _ _ _ _ _ _ _ _ _
   | exact ih4 _ _ _ _ _ _ _ _ _ _ _ _ _ _
   | exact ih5 _ _ _ _ _ _ _ _ _ _ _ _ _ _
   | exact ih6 _ _ _ _ _ _ _ _ _ _
   | exact lockgatelaw17_awake.mono _
   | exact lockgatelaw17_fresh.mono _ _
   | exact lockgateref15_SameNames.mono _ _ _
   | exact space_Free.mono _ _ _ _ _ _
   | exact space_Give.mono _ _ _ _ _ _ _
   | exact space_Right.mono _ _ _ _ _ _
   | exact space_Take.mono _ _ _ _ _ _ _ _
   | exact space_Taken.mono _ _ _ _ _ _ _
   | exact LeO.none _
   | refine LeO.ite ?_ ?_
   | refine LeO.bind ?_ (fun _ => ?_)
def lockgatelaw17_SpaceTurns.T15 : Bool × List (List Nat × List Nat) := (true, [([], []), ([], []), ([], []), ([], []), ([2, 3], [2, 3]), ([4], [4]), ([5], [5]), ([6], [6]), ([], []), ([0, 1, 7, 8], [0, 1, 7, 8]), ([9], [9]), ([10], [10]), ([10], [10]), ([10], [10]), ([11, 9, 0, 1, 2, 3, 4, 5, 6, 7, 8, 9, 10, 11], [11]), ([12, 14, 0, 1, 2, 3, 4, 5, 6, 7, 8, 9, 10, 11, 12, 14], [12]), ([13, 15, 0, 1, 2, 3, 4, 5, 6, 7, 8, 9, 10, 11, 12, 13, 14, 15], [13])])
def lockgatelaw17_SpaceTurns.B15 : List Nat := [0, 0, 0, 0, 12, 28, 60, 124, 0, 511, 1023, 2047, 2047, 2047, 4095, 24575, 65535]
theorem lockgatelaw17_SpaceTurns.tab15 : rtab .any (opsOf Try.f5 15) = lockgatelaw17_SpaceTurns.T15 := by kernel_rfl
theorem lockgatelaw17_SpaceTurns.bits15 : waitsOk lockgatelaw17_SpaceTurns.T15.2 lockgatelaw17_SpaceTurns.B15 = true := by kernel_rfl
def lockgatelaw17_SpaceTurns.T21 : Bool × List (List Nat × List Nat) := (true, [([], []), ([], []), ([], []), ([], []), ([2, 3], [2, 3]), ([4], [4]), ([0, 1, 5], [0, 1, 5]), ([6, 6], [6]), ([7], [7]), ([7], [7]), ([7], [7]), ([7], [7]), ([10, 11, 7], [7, 10, 11]), ([12, 7], [7, 12]), ([8, 9, 13, 7, 7], [7, 8, 9, 13]), ([14, 7], [7, 14]), ([7, 15], [7, 15])])
def lockgatelaw17_SpaceTurns.B21 : List Nat := [0, 0, 0, 0, 12, 28, 63, 127, 255, 255, 255, 255, 3327, 7423, 16383, 32767, 65535]
theorem lockgatelaw17_SpaceTurns.tab21 : rtab .any (opsOf Try.f5 21) = lockgatelaw17_SpaceTurns.T21 := by kernel_rfl
theorem lockgatelaw17_SpaceTurns.bits21 : waitsOk lockgatelaw17_SpaceTurns.T21.2 lockgatelaw17_SpaceTurns.B21 = true := by kernel_rfl
def lockgatelaw17_SpaceTurns.T31 : Bool × List (List Nat × List Nat) := (true, [([], []), ([], []), ([], []), ([], []), ([2, 3], [2, 3]), ([4], [4]), ([5], [5]), ([0, 1, 6], [0, 1, 6]), ([7], [7]), ([8], [8]), ([8], [8]), ([9, 7, 0, 1, 2, 3, 4, 5, 6, 7, 8, 9], [9]), ([10, 11, 0, 1, 2, 3, 4, 5, 6, 7, 8, 9, 10, 11], [10])])
def lockgatelaw17_SpaceTurns.B31 : List Nat := [0, 0, 0, 0, 12, 28, 60, 127, 255, 511, 511, 1023, 4095]
theorem lockgatelaw17_SpaceTurns.tab31 : rtab .any (opsOf Try.f5 31) = lockgatelaw17_SpaceTurns.T31 := by kernel_rfl
theorem lockgatelaw17_SpaceTurns.bits31 : waitsOk lockgatelaw17_SpaceTurns.T31.2 lockgatelaw17_SpaceTurns.B31 = true := by kernel_rfl
set_option maxHeartbeats 8000000 in
set_option maxRecDepth 100000 in
theorem lockgatelaw17_SpaceTurns.calls (k : Nat) (a0 : Int) (A1 : Option Addr) (c1 : Nat) (l1 : List (S32)) (r : Bool) (w : World) (hr1 : Kd.C k32 w A1 l1.length l1) (hc1 : l1.length ≤ c1) (h : lockgatelaw17_SpaceTurns.f k a0 l1 = some r) :
  Calls Try.prog 5 #[.int .i64 a0, .slice A1 l1.length c1] w fun e w' => e = .returned (.bool r) ∧ Below w.heap.size w w' := by
 have hu23 := Try.underlying23
 have HR1 := Aside0.mk hr1
 have HC1 := Aside0.mk hc1
 clear hr1 hc1
 have HB := Aside0.mk (Below.refl w.heap.size w)
 have H : ((lockgatelaw17_awake.f k).bind fun t323 => (if (Int.tmod a0 101) < 0 then (lockgatelaw17_SpaceTurns.j0 k l1 t323 (wrap64 (-(Int.tmod a0 101)))) else (lockgatelaw17_SpaceTurns.j0 k l1 t323 (Int.tmod a0 101)))) = some r := h
 clear h
 replace H := Option.bind_eq_some_iff.mp H
 obtain ⟨t323, A30, H⟩ := H
 replace H : (if (Int.tmod a0 101) < 0 then (lockgatelaw17_SpaceTurns.j0 k l1 t323 (wrap64 (-(Int.tmod a0 101)))) else (lockgatelaw17_SpaceTurns.j0 k l1 t323 (Int.tmod a0 101))) = some r := H
 have A3 := Aside0.mk A30
 clear A30
 have HC4 := Aside0.mk H
 clear H
 go_enter Try.func5, Try.ntmps5
 go_upto_if 26 with (first | ((with_reducible refine gate_callee (f := 8) rfl ?_); refine goesL_ (some 22) rfl rfl Try.func8 (by kernel_rfl) rfl #[] rfl (by (try simp only [List.map_toArray, List.map_cons, List.map_nil]); first | done | rfl | (simp only [List.length_drop, List.length_take]; rfl)) ?_; (with_reducible refine (lockgatelaw17_awake.calls k  t323 _ A3.out).mono ?_); rintro e w5 ⟨rfl, hb⟩; refine ⟨_, rfl, ?_⟩; have n0_ := Aside0.mk (below_step (by repeat (first | (with_reducible first | exact HB.out | apply below_alloc | apply pw_below_drewN | apply below_drew1) | exact HB.out)) hb); clear HB; have HB := n0_; clear n0_; (try clear hb); (try clear hb2); (try clear hk); (try clear hi)))
 (try simp only [Act.put, setIfInBounds_toArray, set_cons_zero, set_cons_succ])
 go_cut [6] (fun v6 wc => ∃ (kq : Nat) (x6_3 : Int), v6 = .int .i64 x6_3 ∧ Aside0 (lockgatelaw17_SpaceTurns.j0 kq l1 t323 x6_3 = some r) ∧ Aside0 (kq ≤ k) ∧ Aside0 (Below w.heap.size w wc))
 case first =>
  have H := HC4.out
  clear HC4
  by_cases c6 : (Int.tmod a0 101) < 0
  ·rw [if_pos c6] at H
   have c6b0 : decide ((Int.tmod a0 101) < 0) = true := decide_eq_true c6
   clear c6
   (first | rw [c6b0] | (simp only [i64_w, i32_w]; rw [c6b0]) | skip)
   have H' := Aside0.mk H
   clear H
   go_wp2
   go_meet
   case rel => exact ⟨_, (wrap64 (-(Int.tmod a0 101))), (by first | rfl | (simp; done) | (simp [*]; done)), H', ⟨by first | omega | exact Nat.le_refl _⟩, ⟨by repeat (first | (with_reducible first | exact HB.out | apply below_alloc | apply pw_below_drewN | apply below_drew1) | exact HB.out)⟩⟩
  ·rw [if_neg c6] at H
   have c6b0 : decide ((Int.tmod a0 101) < 0) = false := decide_eq_false c6
   clear c6
   (first | rw [c6b0] | (simp only [i64_w, i32_w]; rw [c6b0]) | skip)
   have H' := Aside0.mk H
   clear H
   go_wp2
   go_meet
   case rel => exact ⟨_, (Int.tmod a0 101), (by first | rfl | (simp; done) | (simp [*]; done)), H', ⟨by first | omega | exact Nat.le_refl _⟩, ⟨by repeat (first | (with_reducible first | exact HB.out | apply below_alloc | apply pw_below_drewN | apply below_drew1) | exact HB.out)⟩⟩
 case rest =>
  clear HC4
  try clear c1
  try clear p2
  try clear c5
  try clear c6
  try clear c6b0
  try clear p6
  obtain ⟨kq, x6_3, rfl, HA, HJ3, HB⟩ := hcut
  cases kq with
  | zero => exact absurd HA.out (by simp [lockgatelaw17_SpaceTurns.j0])
  | succ kj3 =>
   have H := HA.out
   clear HA
   simp only [lockgatelaw17_SpaceTurns.j0] at H
   replace H := Option.bind_eq_some_iff.mp H
   obtain ⟨⟨t324, t325, t326, t327, t328⟩, A70, H⟩ := H
   replace H : ((space_Free.f kj3 t324 t325 t326 t327 t328).bind fun t332 => (lockgatelaw17_SpaceTurns.l0 kj3 l1 t323 t328 t328 t332 ([] : List Int) 0 t324 t325 t326 t327)) = some r := H
   have A7 := Aside0.mk A70
   clear A70
   replace H := Option.bind_eq_some_iff.mp H
   obtain ⟨t332, A80, H⟩ := H
   replace H : (lockgatelaw17_SpaceTurns.l0 kj3 l1 t323 t328 t328 t332 ([] : List Int) 0 t324 t325 t326 t327) = some r := H
   have A8 := Aside0.mk A80
   clear A80
   have H' := Aside0.mk H
   clear H
   go_wp2_with (first | ((with_reducible refine gate_callee (f := 22) rfl ?_); refine goesL_ (some 32) rfl rfl Try.func22 (by kernel_rfl) rfl #[.int .i64 (wrap64 (140 + x6_3))] rfl (by (try simp only [List.map_toArray, List.map_cons, List.map_nil]); first | done | rfl | (simp only [List.length_drop, List.length_take]; rfl)) ?_; (with_reducible refine (lockgatelaw17_fresh.calls kj3 (wrap64 (140 + x6_3)) t324 t325 t326 t327 t328 _ A7.out).mono ?_); rintro e w9 ⟨v329, rfl, ho0, hb⟩; refine ⟨_, rfl, ?_⟩; have n0_ := Aside0.mk (Kd.V_lower (Kd.V_mono (ok' := fun k_ => True) ho0 (fun k_ hk_ => trivial)) (below_size (by repeat (first | (with_reducible first | exact HB.out | apply below_alloc | apply pw_below_drewN | apply below_drew1) | exact HB.out)))); have n1_ := Aside0.mk (below_step (by repeat (first | (with_reducible first | exact HB.out | apply below_alloc | apply pw_below_drewN | apply below_drew1) | exact HB.out)) hb); clear HB; have HO330 := n0_; have HB := n1_; clear n0_ n1_; (try clear hb); (try clear hb2); (try clear hk); (try clear hi); (try clear ho0)) | ((with_reducible refine gate_callee (f := 22) rfl ?_); refine goesL_ (some 32) rfl rfl Try.func22 (by kernel_rfl) rfl #[.int .i64 (140 + x6_3)] rfl (by (try simp only [List.map_toArray, List.map_cons, List.map_nil]); first | done | rfl | (simp only [List.length_drop, List.length_take]; rfl)) ?_; (have h_ := A7.out); (repeat (first | rw [IntWalk.wrap64_in _ ⟨by (try simp only [decide_eq_true_eq, decide_eq_false_iff_not] at *); omega, by (try simp only [decide_eq_true_eq, decide_eq_false_iff_not] at *); omega⟩] at h_)); (with_reducible refine (lockgatelaw17_fresh.calls kj3 (140 + x6_3) t324 t325 t326 t327 t328 _ h_).mono ?_); clear h_; rintro e w9 ⟨v329, rfl, ho0, hb⟩; refine ⟨_, rfl, ?_⟩; have n0_ := Aside0.mk (Kd.V_lower (Kd.V_mono (ok' := fun k_ => True) ho0 (fun k_ hk_ => trivial)) (below_size (by repeat (first | (with_reducible first | exact HB.out | apply below_alloc | apply pw_below_drewN | apply below_drew1) | exact HB.out)))); have n1_ := Aside0.mk (below_step (by repeat (first | (with_reducible first | exact HB.out | apply below_alloc | apply pw_below_drewN | apply below_drew1) | exact HB.out)) hb); clear HB; have HO330 := n0_; have HB := n1_; clear n0_ n1_; (try clear hb); (try clear hb2); (try clear hk); (try clear hi); (try clear ho0)) | ((with_reducible refine gate_dst (N := 7) rfl ?_); (try (refine gate_guard (by rfl) ?_; dsimp only)); refine box_event ?hg (N := 7) ?hd (cs := #[.int .i64 0, .int .i64 0, .int .i64 0, .int .i64 0]) (t := 23) ?hr ?_; (case hd => rfl); (case hg => rfl); (case hr => first | (go_simp; done) | (go_simp; rfl)); intro gb331 hg w10 hbox hb; have n0_ := Aside0.mk (Kd.V_below (Kd.V_elderB (by (with_reducible repeat (first | apply Kd.V_alloc | apply Kd.V_drewN | apply Kd.V_drew)); exact HO330.out) gb331 (Nat.le_of_eq hg.symm)) hb); have n1_ := Aside0.mk (below_step (by repeat (first | (with_reducible first | exact HB.out | apply below_alloc | apply pw_below_drewN | apply below_drew1) | exact HB.out)) hb); have n2_ := Aside0.mk (hbox); have n3_ := Aside0.mk ((by rw [hg]; exact (below_size (by repeat (first | (with_reducible first | exact HB.out | apply below_alloc | apply pw_below_drewN | apply below_drew1) | exact HB.out))) : w.heap.size ≤ gb331)); have n4_ := Aside0.mk ((by rw [hg]; exact (below_size (by repeat (first | (with_reducible first | exact HB.out | apply below_alloc | apply pw_below_drewN | apply below_drew1) | exact HB.out))) : w.heap.size ≤ gb331)); clear HO330; clear HB; have HO330 := n0_; have HB := n1_; have BK331 := n2_; have GW331 := n3_; have GE331 := n4_; clear n0_ n1_ n2_ n3_ n4_; clear hb hbox hg; have hcz11_0 : w10.cell? ⟨gb331, 0, none⟩ = some (.int .i64 0) := (blk_cell BK331.out 0).trans rfl; have hcz11_1 : w10.cell? ⟨gb331, 1, none⟩ = some (.int .i64 0) := (blk_cell BK331.out 1).trans rfl; have hcz11_2 : w10.cell? ⟨gb331, 2, none⟩ = some (.int .i64 0) := (blk_cell BK331.out 2).trans rfl; have hcz11_3 : w10.cell? ⟨gb331, 3, none⟩ = some (.int .i64 0) := (blk_cell BK331.out 3).trans rfl; have hfz11_0 := blk_frozen BK331.out 0; have hfz11_1 := blk_frozen BK331.out 1; have hfz11_2 := blk_frozen BK331.out 2; have hfz11_3 := blk_frozen BK331.out 3; obtain ⟨Ao12, co12, eo12⟩ := Kd.V_slice HO330.out; subst eo12) | ((with_reducible refine gate_callee (f := 12) rfl ?_); refine goesL_ (some 38) rfl rfl Try.func12 (by kernel_rfl) rfl #[.agg #[.int .i64 t324, .int .i64 t325, .int .i64 t326, .int .i64 t327], .slice Ao12 t328.length co12] rfl (by (try simp only [List.map_toArray, List.map_cons, List.map_nil]); first | done | rfl | (simp only [List.length_drop, List.length_take]; rfl)) ?_; (with_reducible refine (space_Free.calls kj3 t324 t325 t326 t327 _ _ t328 t332 _ ?side1 ?side2 A8.out).mono ?_); (case side1 => refine (Kd.V_reads' (e := 9) (base := w.heap.size) (ok := fun k_ => (True ∧ k_ ≠ gb331)) (n := t328.length) (c := co12) ?_).2.2; exact (by (with_reducible repeat (first | apply Kd.V_alloc | apply Kd.V_drewN | apply Kd.V_drew)); exact (Kd.V_mono (Kd.V_far (p := ⟨gb331, 3, none⟩) (Kd.V_far (p := ⟨gb331, 2, none⟩) (Kd.V_far (p := ⟨gb331, 1, none⟩) (Kd.V_far (p := ⟨gb331, 0, none⟩) (Kd.V_mono HO330.out (fun k_ hk => (⟨hk, hk.2⟩ : _ ∧ k_ ≠ gb331))) (fun _ hk => hk.2) (.int .i64 t324)) (fun _ hk => hk.2) (.int .i64 t325)) (fun _ hk => hk.2) (.int .i64 t326)) (fun _ hk => hk.2) (.int .i64 t327)) (fun _ h_ => h_.1)))); (case side2 => exact (Kd.V_reads' HO330.out).2.1); rintro e w13 ⟨rfl, hb⟩; refine ⟨_, rfl, ?_⟩; have n0_ := Aside0.mk (Kd.V_below (by (with_reducible repeat (first | apply Kd.V_alloc | apply Kd.V_drewN | apply Kd.V_drew)); exact (Kd.V_mono (Kd.V_far (p := ⟨gb331, 3, none⟩) (Kd.V_far (p := ⟨gb331, 2, none⟩) (Kd.V_far (p := ⟨gb331, 1, none⟩) (Kd.V_far (p := ⟨gb331, 0, none⟩) (Kd.V_mono HO330.out (fun k_ hk => (⟨hk, hk.2⟩ : _ ∧ k_ ≠ gb331))) (fun _ hk => hk.2) (.int .i64 t324)) (fun _ hk => hk.2) (.int .i64 t325)) (fun _ hk => hk.2) (.int .i64 t326)) (fun _ hk => hk.2) (.int .i64 t327)) (fun _ h_ => h_.1))) hb); have n1_ := Aside0.mk (blk_below (g := gb331) (o := .cells #[.int .i64 t324, .int .i64 t325, .int .i64 t326, .int .i64 t327] 23 (0, 0)) (by (with_reducible repeat (first | refine blk_drewN ?_ _ | refine blk_drew ?_ | refine blk_alloc ?_ _)); refine blk_put (cs := #[.int .i64 t324, .int .i64 t325, .int .i64 t326, .int .i64 0]) ?_ 3 _ rfl; (with_reducible repeat (first | refine blk_drewN ?_ _ | refine blk_drew ?_ | refine blk_alloc ?_ _)); refine blk_put (cs := #[.int .i64 t324, .int .i64 t325, .int .i64 0, .int .i64 0]) ?_ 2 _ rfl; (with_reducible repeat (first | refine blk_drewN ?_ _ | refine blk_drew ?_ | refine blk_alloc ?_ _)); refine blk_put (cs := #[.int .i64 t324, .int .i64 0, .int .i64 0, .int .i64 0]) ?_ 1 _ rfl; (with_reducible repeat (first | refine blk_drewN ?_ _ | refine blk_drew ?_ | refine blk_alloc ?_ _)); refine blk_put (cs := #[.int .i64 0, .int .i64 0, .int .i64 0, .int .i64 0]) ?_ 0 _ rfl; (with_reducible repeat (first | refine blk_drewN ?_ _ | refine blk_drew ?_ | refine blk_alloc ?_ _)); exact BK331.out) hb); have n2_ := Aside0.mk (below_step (by repeat (first | (with_reducible first | exact HB.out | apply below_alloc | apply pw_below_drewN | apply below_drew1 | refine below_set ?_ GE331.out) | exact HB.out)) hb); clear HO330; clear BK331; clear HB; have HO330 := n0_; have BK331 := n1_; have HB := n2_; clear n0_ n1_ n2_; (try clear hb); (try clear hb2); (try clear hk); (try clear hi)))
   go_loopg [8, 10, 11, 12] kj3 (fun kq v8 v10 v11 v12 w' => ∃ (x8_2 : List ByteArray) (x10_2 : Int) (x11_2 : List Int) (x12_2 : Int), v10 = .int .i64 x10_2 ∧ v12 = .int .i64 x12_2 ∧ Aside0 (lockgatelaw17_SpaceTurns.l0 kq l1 t323 x8_2 t328 x10_2 x11_2 x12_2 t324 t325 t326 t327 = some r) ∧ Aside0 (kq ≤ kj3) ∧ Aside0 (Kd.V Kd.string 9 w' w.heap.size (fun k_ => some k_ ≠ (v11 : Value).ownBlock ∧ k_ ≠ gb331) v8 x8_2) ∧ Aside0 (Kd.V Kd.string 9 w' w.heap.size (fun k_ => some k_ ≠ (v11 : Value).ownBlock ∧ k_ ≠ gb331) (.slice Ao12 t328.length co12) t328) ∧ Aside0 (Kd.R (Kd.int .i64) 3 w' w.heap.size (fun _ => True) v11 x11_2) ∧ Aside0 (w'.heap[gb331]? = some (.cells #[.int .i64 t324, .int .i64 t325, .int .i64 t326, .int .i64 t327] 23 (0, 0))) ∧ Aside0 (Below w.heap.size w w'))
   case atStart => exact ⟨(t328), (t332), (([] : List Int)), (0), (by first | rfl | (simp; done) | (simp [*]; done)), (by first | rfl | (simp; done) | (simp [*]; done)), H', ⟨Nat.le_refl _⟩, ⟨by (with_reducible repeat (first | apply Kd.V_alloc | apply Kd.V_drewN | apply Kd.V_drew)); exact Kd.V_mono HO330.out (fun _ hk => ⟨(by simp [Value.ownBlock]), hk.2⟩)⟩, ⟨by (with_reducible repeat (first | apply Kd.V_alloc | apply Kd.V_drewN | apply Kd.V_drew)); exact Kd.V_mono HO330.out (fun _ hk => ⟨(by simp [Value.ownBlock]), hk.2⟩)⟩, ⟨by first | exact Kd.R_nil _ _ _ _ _ | exact Kd.N_nil _ _ _ _ _ | exact Kd.V_nil _ _ _ _ _ | exact Kd.Q_nil _ _ _ _ _ | exact Kd.S_nil _ _ _ _ _⟩, ⟨by (with_reducible repeat (first | refine blk_drewN ?_ _ | refine blk_drew ?_ | refine blk_alloc ?_ _)); exact BK331.out⟩, ⟨by repeat (first | (with_reducible first | exact HB.out | apply below_alloc | apply pw_below_drewN | apply below_drew1 | refine below_set ?_ GE331.out) | exact HB.out)⟩⟩
   case round =>
    clear H'
    try clear c1
    try clear c2
    try clear p2
    try clear c5
    try clear c6
    try clear c6b0
    try clear p6
    try clear c8
    try clear c12
    try clear hcz11_0
    try clear hcz11_1
    try clear hcz11_2
    try clear hcz11_3
    try clear hfz11_0
    try clear hfz11_1
    try clear hfz11_2
    try clear hfz11_3
    try clear p2
    try clear p6
    obtain ⟨x8_2, x10_2, x11_2, x12_2, rfl, rfl, HA, HK2, HO_8, HO_9, HO_11, BK331, HB⟩ := hrel
    cases gk with
    | zero => exact absurd HA.out (by simp [lockgatelaw17_SpaceTurns.l0])
    | succ k2 =>
     have H := HA.out
     clear HA
     simp only [lockgatelaw17_SpaceTurns.l0] at H
     have HC14 := Aside0.mk H
     clear H
     go_upto_region 10 with (fail)
     go_cut [46] (fun v46 wc => ∃ (kq : Nat) (x46_13 : Bool), v46 = .bool x46_13 ∧ Aside0 (lockgatelaw17_SpaceTurns.j2 kq l1 t323 x8_2 t328 x10_2 x11_2 x12_2 x46_13 t324 t325 t326 t327 = some r) ∧ Aside0 (kq ≤ k2) ∧ Aside0 (Kd.V Kd.string 9 wc w.heap.size (fun k_ => some k_ ≠ (u11 : Value).ownBlock ∧ k_ ≠ gb331) u8 x8_2) ∧ Aside0 (Kd.V Kd.string 9 wc w.heap.size (fun k_ => some k_ ≠ (u11 : Value).ownBlock ∧ k_ ≠ gb331) (.slice Ao12 t328.length co12) t328) ∧ Aside0 (Kd.R (Kd.int .i64) 3 wc w.heap.size (fun _ => True) u11 x11_2) ∧ Aside0 (wc.heap[gb331]? = some (.cells #[.int .i64 t324, .int .i64 t325, .int .i64 t326, .int .i64 t327] 23 (0, 0))) ∧ Aside0 (Below w.heap.size w wc))
     case first =>
      have H := HC14.out
      clear HC14
      by_cases c15 : x12_2 < (l1.length : Int)
      ·rw [if_pos c15] at H
       have c15b0 : decide (x12_2 < (l1.length : Int)) = true := decide_eq_true c15
       clear c15
       (first | rw [c15b0] | (simp only [i64_w, i32_w]; rw [c15b0]) | skip)
       have H' := Aside0.mk H
       clear H
       go_wp2
       go_meet
       case rel => exact ⟨_, (decide (x12_2 < 12)), (by first | rfl | (simp; done) | (simp [*]; done)), H', ⟨by have := HJ3.out; have := HK2.out; first | omega | exact Nat.le_refl _⟩, ⟨by (with_reducible repeat (first | apply Kd.V_alloc | apply Kd.V_drewN | apply Kd.V_drew)); exact HO_8.out⟩, ⟨by (with_reducible repeat (first | apply Kd.V_alloc | apply Kd.V_drewN | apply Kd.V_drew)); exact HO_9.out⟩, ⟨by (with_reducible repeat (first | apply Kd.R_alloc | apply Kd.R_drewN | apply Kd.R_drew)); exact HO_11.out⟩, ⟨by (with_reducible repeat (first | refine blk_drewN ?_ _ | refine blk_drew ?_ | refine blk_alloc ?_ _)); exact BK331.out⟩, ⟨by repeat (first | (with_reducible first | exact HB.out | apply below_alloc | apply pw_below_drewN | apply below_drew1 | refine below_set ?_ GE331.out) | exact HB.out)⟩⟩
      ·rw [if_neg c15] at H
       have c15b0 : decide (x12_2 < (l1.length : Int)) = false := decide_eq_false c15
       clear c15
       (first | rw [c15b0] | (simp only [i64_w, i32_w]; rw [c15b0]) | skip)
       have H' := Aside0.mk H
       clear H
       go_wp2
       go_meet
       case rel => exact ⟨_, (false), (by first | rfl | (simp; done) | (simp [*]; done)), H', ⟨by have := HJ3.out; have := HK2.out; first | omega | exact Nat.le_refl _⟩, ⟨by (with_reducible repeat (first | apply Kd.V_alloc | apply Kd.V_drewN | apply Kd.V_drew)); exact HO_8.out⟩, ⟨by (with_reducible repeat (first | apply Kd.V_alloc | apply Kd.V_drewN | apply Kd.V_drew)); exact HO_9.out⟩, ⟨by (with_reducible repeat (first | apply Kd.R_alloc | apply Kd.R_drewN | apply Kd.R_drew)); exact HO_11.out⟩, ⟨by (with_reducible repeat (first | refine blk_drewN ?_ _ | refine blk_drew ?_ | refine blk_alloc ?_ _)); exact BK331.out⟩, ⟨by repeat (first | (with_reducible first | exact HB.out | apply below_alloc | apply pw_below_drewN | apply below_drew1 | refine below_set ?_ GE331.out) | exact HB.out)⟩⟩
     case rest =>
      clear HC14
      try clear c1
      try clear c2
      try clear p2
      try clear c5
      try clear c6
      try clear c6b0
      try clear p6
      try clear c8
      try clear c12
      try clear c15
      try clear c15b0
      try clear hcz11_0
      try clear hcz11_1
      try clear hcz11_2
      try clear hcz11_3
      try clear hfz11_0
      try clear hfz11_1
      try clear hfz11_2
      try clear hfz11_3
      try clear p2
      try clear p6
      obtain ⟨kq, x46_13, rfl, HA, HJ13, HO_8, HO_9, HO_11, BK331, HB⟩ := hcut
      cases kq with
      | zero => exact absurd HA.out (by simp [lockgatelaw17_SpaceTurns.j2])
      | succ kj13 =>
       have H := HA.out
       clear HA
       simp only [lockgatelaw17_SpaceTurns.j2] at H
       by_cases c16 : x46_13 = true
       ·subst c16
        have H1 : (if 0 ≤ x12_2 then (if x12_2 < (l1.length : Int) then (if (Int.tmod ((rd_T32 l1 x12_2).f1) 20) < 0 then (lockgatelaw17_SpaceTurns.j3 kj13 l1 t323 x8_2 t328 x10_2 x11_2 x12_2 (wrap64 (-(Int.tmod ((rd_T32 l1 x12_2).f1) 20))) t324 t325 t326 t327) else (lockgatelaw17_SpaceTurns.j3 kj13 l1 t323 x8_2 t328 x10_2 x11_2 x12_2 (Int.tmod ((rd_T32 l1 x12_2).f1) 20) t324 t325 t326 t327)) else (none)) else (none)) = some r := by rw [if_pos rfl] at H; exact H
        clear H
        have H := H1
        clear H1
        by_cases c17 : 0 ≤ x12_2
        ·rw [if_pos c17] at H
         have c17b0 : decide (0 ≤ x12_2) = true := decide_eq_true c17
         clear c17
         by_cases c18 : x12_2 < (l1.length : Int)
         ·rw [if_pos c18] at H
          have c18b0 : decide (x12_2 < (l1.length : Int)) = true := decide_eq_true c18
          clear c18
          have HC19 := Aside0.mk H
          clear H
          have p333 : 0 ≤ (x12_2 : Int) := of_decide_eq_true (by first | (with_reducible assumption) | assumption)
          have q333 : x12_2 < (l1.length : Int) := of_decide_eq_true (by first | (with_reducible assumption) | assumption)
          obtain ⟨ad333, A333_2, c333_2, e333, hx333_0, hx333_1, hx333_2, hl333_2, hi333_2⟩ := at_T32 HR1.out x12_2 p333 q333
          cases e333
          replace hx333_0 := (HB.out.cell (World.block_lt_of_cell? w _ hx333_0)).trans hx333_0
          replace hx333_1 := (HB.out.cell (World.block_lt_of_cell? w _ hx333_1)).trans hx333_1
          replace hx333_2 := (HB.out.cell (World.block_lt_of_cell? w _ hx333_2)).trans hx333_2
          have HR333_2 := Aside0.mk hi333_2
          have HC333_2 := Aside0.mk hl333_2
          clear hi333_2 hl333_2
          replace p333 := eq_true p333
          replace q333 := eq_true q333
          go_upto_if 56 with (fail)
          go_cut [13] (fun v13 wc => ∃ (kq : Nat) (x13_18 : Int), v13 = .int .i64 x13_18 ∧ Aside0 (lockgatelaw17_SpaceTurns.j3 kq l1 t323 x8_2 t328 x10_2 x11_2 x12_2 x13_18 t324 t325 t326 t327 = some r) ∧ Aside0 (kq ≤ kj13) ∧ Aside0 (Kd.V Kd.string 9 wc w.heap.size (fun k_ => some k_ ≠ (u11 : Value).ownBlock ∧ k_ ≠ gb331) u8 x8_2) ∧ Aside0 (Kd.V Kd.string 9 wc w.heap.size (fun k_ => some k_ ≠ (u11 : Value).ownBlock ∧ k_ ≠ gb331) (.slice Ao12 t328.length co12) t328) ∧ Aside0 (Kd.R (Kd.int .i64) 3 wc w.heap.size (fun _ => True) u11 x11_2) ∧ Aside0 (wc.heap[gb331]? = some (.cells #[.int .i64 t324, .int .i64 t325, .int .i64 t326, .int .i64 t327] 23 (0, 0))) ∧ Aside0 (Below w.heap.size w wc))
          case first =>
           have H := HC19.out
           clear HC19
           by_cases c20 : (Int.tmod ((rd_T32 l1 x12_2).f1) 20) < 0
           ·rw [if_pos c20] at H
            have c20b0 : decide ((Int.tmod ((rd_T32 l1 x12_2).f1) 20) < 0) = true := decide_eq_true c20
            clear c20
            (first | rw [c20b0] | (simp only [i64_w, i32_w]; rw [c20b0]) | skip)
            have H' := Aside0.mk H
            clear H
            go_wp2
            go_meet
            case rel => exact ⟨_, (wrap64 (-(Int.tmod ((rd_T32 l1 x12_2).f1) 20))), (by first | rfl | (simp; done) | (simp [*]; done)), H', ⟨by have := HJ3.out; have := HK2.out; have := HJ13.out; first | omega | exact Nat.le_refl _⟩, ⟨by (with_reducible repeat (first | apply Kd.V_alloc | apply Kd.V_drewN | apply Kd.V_drew)); exact HO_8.out⟩, ⟨by (with_reducible repeat (first | apply Kd.V_alloc | apply Kd.V_drewN | apply Kd.V_drew)); exact HO_9.out⟩, ⟨by (with_reducible repeat (first | apply Kd.R_alloc | apply Kd.R_drewN | apply Kd.R_drew)); exact HO_11.out⟩, ⟨by (with_reducible repeat (first | refine blk_drewN ?_ _ | refine blk_drew ?_ | refine blk_alloc ?_ _)); exact BK331.out⟩, ⟨by repeat (first | (with_reducible first | exact HB.out | apply below_alloc | apply pw_below_drewN | apply below_drew1 | refine below_set ?_ GE331.out) | exact HB.out)⟩⟩
           ·rw [if_neg c20] at H
            have c20b0 : decide ((Int.tmod ((rd_T32 l1 x12_2).f1) 20) < 0) = false := decide_eq_false c20
            clear c20
            (first | rw [c20b0] | (simp only [i64_w, i32_w]; rw [c20b0]) | skip)
            have H' := Aside0.mk H
            clear H
            go_wp2
            go_meet
            case rel => exact ⟨_, (Int.tmod ((rd_T32 l1 x12_2).f1) 20), (by first | rfl | (simp; done) | (simp [*]; done)), H', ⟨by have := HJ3.out; have := HK2.out; have := HJ13.out; first | omega | exact Nat.le_refl _⟩, ⟨by (with_reducible repeat (first | apply Kd.V_alloc | apply Kd.V_drewN | apply Kd.V_drew)); exact HO_8.out⟩, ⟨by (with_reducible repeat (first | apply Kd.V_alloc | apply Kd.V_drewN | apply Kd.V_drew)); exact HO_9.out⟩, ⟨by (with_reducible repeat (first | apply Kd.R_alloc | apply Kd.R_drewN | apply Kd.R_drew)); exact HO_11.out⟩, ⟨by (with_reducible repeat (first | refine blk_drewN ?_ _ | refine blk_drew ?_ | refine blk_alloc ?_ _)); exact BK331.out⟩, ⟨by repeat (first | (with_reducible first | exact HB.out | apply below_alloc | apply pw_below_drewN | apply below_drew1 | refine below_set ?_ GE331.out) | exact HB.out)⟩⟩
          case rest =>
           clear HC19
           try clear c1
           try clear c2
           try clear p2
           try clear c3
           try clear p3
           try clear q3
           try clear hx3
           try clear c5
           try clear c6
           try clear c6b0
           try clear p6
           try clear c8
           try clear c12
           try clear c15
           try clear c15b0
           try clear c16
           try clear c17
           try clear c17b0
           try clear c18
           try clear c18b0
           try clear c20
           try clear c20b0
           try clear hcz11_0
           try clear hcz11_1
           try clear hcz11_2
           try clear hcz11_3
           try clear hfz11_0
           try clear hfz11_1
           try clear hfz11_2
           try clear hfz11_3
           try clear hx333_0
           try clear hx333_1
           try clear hx333_2
           try clear p2
           try clear p333
           try clear p6
           try clear q333
           obtain ⟨kq, x13_18, rfl, HA, HJ18, HO_8, HO_9, HO_11, BK331, HB⟩ := hcut
           cases kq with
           | zero => exact absurd HA.out (by simp [lockgatelaw17_SpaceTurns.j3])
           | succ kj18 =>
            have H := HA.out
            clear HA
            simp only [lockgatelaw17_SpaceTurns.j3] at H
            by_cases c21 : 0 ≤ x12_2
            ·rw [if_pos c21] at H
             have c21b0 : decide (0 ≤ x12_2) = true := decide_eq_true c21
             clear c21
             by_cases c22 : x12_2 < (l1.length : Int)
             ·rw [if_pos c22] at H
              have c22b0 : decide (x12_2 < (l1.length : Int)) = true := decide_eq_true c22
              clear c22
              replace H := Option.bind_eq_some_iff.mp H
              obtain ⟨⟨t335, t338, t341⟩, A230, H⟩ := H
              replace H : (if (t341 != (decide (x13_18 ≤ x10_2))) = true then (lockgatelaw17_SpaceTurns.j4 kj18 l1 t323 x8_2 t328 x10_2 x11_2 x12_2 t335 t338 true t324 t325 t326 t327) else (if t341 = true then (if (t338.length : Int) = x13_18 then (lockgatelaw17_SpaceTurns.j4 kj18 l1 t323 x8_2 t328 x10_2 x11_2 x12_2 t335 t338 false t324 t325 t326 t327) else (lockgatelaw17_SpaceTurns.j4 kj18 l1 t323 x8_2 t328 x10_2 x11_2 x12_2 t335 t338 true t324 t325 t326 t327)) else (lockgatelaw17_SpaceTurns.j4 kj18 l1 t323 x8_2 t328 x10_2 x11_2 x12_2 t335 t338 ((t338.length : Int) != 0) t324 t325 t326 t327))) = some r := H
              have A23 := Aside0.mk A230
              clear A230
              have HC24 := Aside0.mk H
              clear H
              try go_wp2
              have n0_ := Aside0.mk (Kd.V_drew HO_8.out)
              have n1_ := Aside0.mk (Kd.V_drew HO_9.out)
              have n2_ := Aside0.mk (Kd.R_drew HO_11.out)
              have n3_ := Aside0.mk (blk_drew BK331.out)
              have n4_ := Aside0.mk (below_drew1 HB.out)
              clear HO_8
              clear HO_9
              clear HO_11
              clear BK331
              clear HB
              have HO_8 := n0_
              have HO_9 := n1_
              have HO_11 := n2_
              have BK331 := n3_
              have HB := n4_
              clear n0_ n1_ n2_ n3_ n4_
              have p334 : 0 ≤ (x12_2 : Int) := of_decide_eq_true (by first | (with_reducible assumption) | assumption)
              have q334 : x12_2 < (l1.length : Int) := of_decide_eq_true (by first | (with_reducible assumption) | assumption)
              obtain ⟨ad334, A334_2, c334_2, e334, hx334_0, hx334_1, hx334_2, hl334_2, hi334_2⟩ := at_T32 HR1.out x12_2 p334 q334
              have hw334_2 := hx334_2
              have hw334_1 := hx334_1
              have hw334_0 := hx334_0
              obtain rfl : ad333 = ad334 := (by injection e334)
              replace hx334_0 := (HB.out.cell (World.block_lt_of_cell? w _ hx334_0)).trans hx334_0
              replace hx334_1 := (HB.out.cell (World.block_lt_of_cell? w _ hx334_1)).trans hx334_1
              replace hx334_2 := (HB.out.cell (World.block_lt_of_cell? w _ hx334_2)).trans hx334_2
              have HR334_2 := Aside0.mk hi334_2
              have HC334_2 := Aside0.mk hl334_2
              clear hi334_2 hl334_2
              replace p334 := eq_true p334
              replace q334 := eq_true q334
              obtain ⟨Ao26, co26, eo26⟩ := Kd.V_slice HO_8.out
              (first | subst eo26 | (injection eo26 with f1_ f2_ f3_; have f4_ := f1_.symm; have f5_ := f3_.symm; clear f1_ f2_ f3_; subst f4_; subst f5_))
              refine start_ (n := 17) (S := fun w' => w'.cell? ⟨gb331, 0, none⟩ = some (.int .i64 t324) ∧ w'.cell? ⟨gb331, 1, none⟩ = some (.int .i64 t325) ∧ w'.cell? ⟨gb331, 2, none⟩ = some (.int .i64 t326) ∧ w'.cell? ⟨gb331, 3, none⟩ = some (.int .i64 t327) ∧ w'.cell? (ad333.add ((x12_2).toNat * 3)) = some (.int .i64 ((rd_T32 l1 x12_2).f0)) ∧ w'.cell? ⟨(ad333.add ((x12_2).toNat * 3)).block, (ad333.add ((x12_2).toNat * 3)).off + 1, none⟩ = some (.int .i64 ((rd_T32 l1 x12_2).f1)) ∧ w'.cell? ⟨(ad333.add ((x12_2).toNat * 3)).block, (ad333.add ((x12_2).toNat * 3)).off + 2, none⟩ = some (.slice A334_2 ((rd_T32 l1 x12_2).f2).length c334_2)) (ds := []) #[false, false, false, false, false, false, false, false, false, false, false, false, false, false, false, false, false] (by kernel_rfl) rfl rfl ⟨(blk_cell BK331.out 0).trans rfl, (blk_cell BK331.out 1).trans rfl, (blk_cell BK331.out 2).trans rfl, (blk_cell BK331.out 3).trans rfl, ((HB.out.cell (World.block_lt_of_cell? w _ hw334_0)).trans hw334_0), ((HB.out.cell (World.block_lt_of_cell? w _ hw334_1)).trans hw334_1), ((HB.out.cell (World.block_lt_of_cell? w _ hw334_2)).trans hw334_2)⟩ (fun hHeld => ?_); refine with_tabW lockgatelaw17_SpaceTurns.tab15 lockgatelaw17_SpaceTurns.bits15 (fun HT_ HW_ => ?_)
              generalize wc.drew = w25 at HO_8 HO_9 HO_11 BK331 HB HR334_2 hx334_0 hx334_1 hx334_2 hHeld ⊢
              refine pure_ (i := 1) (N := some 61) (v := ?_) (a' := ?_) #[false, true, false, false, false, false, false, false, false, false, false, false, false, false, false, false, false] rfl rfl (any_of HT_.out (by kernel_rfl)) (fun _ _ _ h => h) (Or.inl ⟨by rfl, ?_⟩) ?_ ?_
              rotate_left
              ·intro w'
               go_simp
               first | with_reducible rfl | (rw [if_neg (by first | omega | (simp only [eq_iff_iff, iff_true, iff_false, decide_eq_true_eq, ByteArray.size_append, ByteArray.size_extract] at *; omega))])
              rotate_left
              ·simp only [Act.put, setIfInBounds_toArray, set_cons_zero, set_cons_succ, i64_w, i32_w]; rfl
              refine pure_ (i := 2) (N := some 62) (v := ?_) (a' := ?_) #[false, true, true, false, false, false, false, false, false, false, false, false, false, false, false, false, false] rfl rfl (any_of HT_.out (by kernel_rfl)) (fun _ _ _ h => h) (Or.inl ⟨by rfl, ?_⟩) ?_ ?_
              rotate_left
              ·intro w'
               go_simp
               first | with_reducible rfl | (rw [if_neg (by first | omega | (simp only [eq_iff_iff, iff_true, iff_false, decide_eq_true_eq, ByteArray.size_append, ByteArray.size_extract] at *; omega))])
              rotate_left
              ·simp only [Act.put, setIfInBounds_toArray, set_cons_zero, set_cons_succ, i64_w, i32_w]; rfl
              refine pure_ (i := 3) (N := some 63) (v := ?_) (a' := ?_) #[false, true, true, true, false, false, false, false, false, false, false, false, false, false, false, false, false] rfl rfl (any_of HT_.out (by kernel_rfl)) (fun _ _ _ h => h) (Or.inl ⟨by rfl, ?_⟩) ?_ ?_
              rotate_left
              ·intro w'
               go_simp
               first | with_reducible rfl | (rw [if_neg (by first | omega | (simp only [eq_iff_iff, iff_true, iff_false, decide_eq_true_eq, ByteArray.size_append, ByteArray.size_extract] at *; omega))])
              rotate_left
              ·simp only [Act.put, setIfInBounds_toArray, set_cons_zero, set_cons_succ, i64_w, i32_w]; rfl
              refine pure_ (i := 4) (N := some 64) (v := ?_) (a' := ?_) #[false, true, true, true, true, false, false, false, false, false, false, false, false, false, false, false, false] rfl rfl (any_of HT_.out (by kernel_rfl)) (fun _ _ _ h => h) (Or.inl ⟨by rfl, ?_⟩) ?_ ?_
              rotate_left
              ·intro w'
               go_simp
               first | with_reducible rfl | (rw [if_neg (by first | omega | (simp only [eq_iff_iff, iff_true, iff_false, decide_eq_true_eq, ByteArray.size_append, ByteArray.size_extract] at *; omega))])
              rotate_left
              ·simp only [Act.put, setIfInBounds_toArray, set_cons_zero, set_cons_succ, i64_w, i32_w]; rfl
              refine pure_ (i := 5) (N := some 65) (v := ?_) (a' := ?_) #[false, true, true, true, true, true, false, false, false, false, false, false, false, false, false, false, false] rfl rfl (any_of HT_.out (by kernel_rfl)) (fun _ _ _ h => h) (Or.inl ⟨by rfl, ?_⟩) ?_ ?_
              rotate_left
              ·intro w'
               go_simp
               first | with_reducible rfl | (rw [if_neg (by first | omega | (simp only [eq_iff_iff, iff_true, iff_false, decide_eq_true_eq, ByteArray.size_append, ByteArray.size_extract] at *; omega))])
              rotate_left
              ·simp only [Act.put, setIfInBounds_toArray, set_cons_zero, set_cons_succ, i64_w, i32_w]; rfl
              refine pure_ (i := 8) (N := some 68) (v := ?_) (a' := ?_) #[false, true, true, true, true, true, false, false, true, false, false, false, false, false, false, false, false] rfl rfl (any_of HT_.out (by kernel_rfl)) (fun _ _ _ h => h) (Or.inl ⟨by rfl, ?_⟩) ?_ ?_
              rotate_left
              ·intro w'
               go_simp
               first | with_reducible rfl | (rw [if_neg (by first | omega | (simp only [eq_iff_iff, iff_true, iff_false, decide_eq_true_eq, ByteArray.size_append, ByteArray.size_extract] at *; omega))])
              rotate_left
              ·simp only [Act.put, setIfInBounds_toArray, set_cons_zero, set_cons_succ, i64_w, i32_w]; rfl
              refine take_ (i := 0) (N := some 60) (v := ?_) (a' := ?_) #[true, true, true, true, true, true, false, false, true, false, false, false, false, false, false, false, false] rfl rfl (take_ofW HT_.out HW_.out (by kernel_rfl)) (fun _ _ _ h => h) (Or.inl ⟨by rfl, ?_⟩) hHeld ?_ ?_
              rotate_left
              ·rintro w' ⟨s0, s1, s2, s3, s4, s5, s6⟩
               go_simp
               first | with_reducible rfl | (rw [if_neg (by first | omega | (simp only [eq_iff_iff, iff_true, iff_false, decide_eq_true_eq, ByteArray.size_append, ByteArray.size_extract] at *; omega))])
              rotate_left
              ·simp only [Act.put, setIfInBounds_toArray, set_cons_zero, set_cons_succ, i64_w, i32_w]; rfl
              refine take_ (i := 6) (N := some 66) (v := ?_) (a' := ?_) #[true, true, true, true, true, true, true, false, true, false, false, false, false, false, false, false, false] rfl rfl (take_ofW HT_.out HW_.out (by kernel_rfl)) (fun _ _ _ h => h) (Or.inl ⟨by rfl, ?_⟩) hHeld ?_ ?_
              rotate_left
              ·rintro w' ⟨s0, s1, s2, s3, s4, s5, s6⟩
               go_simp
               first | with_reducible rfl | (rw [if_neg (by first | omega | (simp only [eq_iff_iff, iff_true, iff_false, decide_eq_true_eq, ByteArray.size_append, ByteArray.size_extract] at *; omega))])
              rotate_left
              ·simp only [Act.put, setIfInBounds_toArray, set_cons_zero, set_cons_succ, i64_w, i32_w]; rfl
              refine pure_ (i := 7) (N := some 67) (v := ?_) (a' := ?_) #[true, true, true, true, true, true, true, true, true, false, false, false, false, false, false, false, false] rfl rfl (any_of HT_.out (by kernel_rfl)) (fun _ _ _ h => h) (Or.inl ⟨by rfl, ?_⟩) ?_ ?_
              rotate_left
              ·intro w'
               go_simp
               first | with_reducible rfl | (rw [if_neg (by first | omega | (simp only [eq_iff_iff, iff_true, iff_false, decide_eq_true_eq, ByteArray.size_append, ByteArray.size_extract] at *; omega))])
              rotate_left
              ·simp only [Act.put, setIfInBounds_toArray, set_cons_zero, set_cons_succ, i64_w, i32_w]; rfl
              refine one_ (i := 9) (N := some 69) #[true, true, true, true, true, true, true, true, true, true, false, false, false, false, false, false, false] rfl rfl (one_of HT_.out (by kernel_rfl)) (by decide) (fun K hK => ?_)
              refine goes_ Try.func16 (by kernel_rfl) rfl #[.agg #[.int .i64 t324, .int .i64 t325, .int .i64 t326, .int .i64 t327], .slice Ao26 x8_2.length co26, .int .i64 (Go.bits .and .i64 ((rd_T32 l1 x12_2).f0) 3), .int .i64 x13_18] (by rfl) rfl rfl (by (try simp only [List.map_toArray, List.map_cons, List.map_nil]); first | done | rfl | (simp only [List.length_drop, List.length_take]; rfl)) ?_
              with_reducible refine (space_Take.calls kj18 t324 t325 t326 t327 (fun k_ => (some k_ ≠ (u11 : Value).ownBlock ∧ k_ ≠ gb331)) _ _ x8_2 (Go.bits .and .i64 ((rd_T32 l1 x12_2).f0) 3) x13_18 t335 t338 t341 _ ?side1 A23.out).mono ?_
              (case side1 => exact HO_8.out)
              rintro e w27 ⟨v336, v339, rfl, ho0, ho1, hb⟩
              refine ⟨_, rfl, ?_⟩
              have n0_ := Aside0.mk (Kd.V_elder' (by (with_reducible repeat (first | apply Kd.V_alloc | apply Kd.V_drewN | apply Kd.V_drew)); exact HO_8.out) (Kd.R_base ho1) hb)
              have n1_ := Aside0.mk (Kd.V_elder' (by (with_reducible repeat (first | apply Kd.V_alloc | apply Kd.V_drewN | apply Kd.V_drew)); exact HO_9.out) (Kd.R_base ho1) hb)
              have n2_ := Aside0.mk (Kd.R_elder' (by (with_reducible repeat (first | apply Kd.R_alloc | apply Kd.R_drewN | apply Kd.R_drew)); exact HO_11.out) (Kd.R_base ho1) hb)
              have n3_ := Aside0.mk (Kd.V_lower (Kd.V_mono (ok' := fun k_ => some k_ ≠ (v339 : Value).ownBlock ∧ some k_ ≠ (u11 : Value).ownBlock ∧ k_ ≠ gb331) ho0 (fun k_ hk_ => ⟨hk_.2, Or.elim hk_.1 (fun hs_ => hs_.1) (fun hn_ => (Kd.fresh' (Kd.R_lt (by (with_reducible repeat (first | apply Kd.R_alloc | apply Kd.R_drewN | apply Kd.R_drew)); exact HO_11.out)) k_ hn_)), Or.elim hk_.1 (fun hs_ => hs_.2) (fun hn_ => (Kd.freshB (g := gb331) (o := .cells #[.int .i64 t324, .int .i64 t325, .int .i64 t326, .int .i64 t327] 23 (0, 0)) (by (with_reducible repeat (first | refine blk_drewN ?_ _ | refine blk_drew ?_ | refine blk_alloc ?_ _)); exact BK331.out) k_ hn_))⟩)) (below_size (by repeat (first | (with_reducible first | exact HB.out | apply below_alloc | apply pw_below_drewN | apply below_drew1 | refine below_set ?_ GE331.out) | exact HB.out))))
              have n4_ := Aside0.mk (Kd.R_lower (Kd.R_new' (Kd.R_mono (ok' := fun k_ => True) ho1 (fun _ hk_ => trivial)) (Kd.R_lt (by (with_reducible repeat (first | apply Kd.R_alloc | apply Kd.R_drewN | apply Kd.R_drew)); exact HO_11.out))) (below_size (by repeat (first | (with_reducible first | exact HB.out | apply below_alloc | apply pw_below_drewN | apply below_drew1 | refine below_set ?_ GE331.out) | exact HB.out))))
              have n5_ := Aside0.mk (blk_below (g := gb331) (o := .cells #[.int .i64 t324, .int .i64 t325, .int .i64 t326, .int .i64 t327] 23 (0, 0)) (by (with_reducible repeat (first | refine blk_drewN ?_ _ | refine blk_drew ?_ | refine blk_alloc ?_ _)); exact BK331.out) hb)
              have n6_ := Aside0.mk (below_step (by repeat (first | (with_reducible first | exact HB.out | apply below_alloc | apply pw_below_drewN | apply below_drew1 | refine below_set ?_ GE331.out) | exact HB.out)) hb)
              clear HO_8
              clear HO_9
              clear HO_11
              clear BK331
              clear HB
              have HO_8 := n0_
              have HO_9 := n1_
              have HO_11 := n2_
              have HO337 := n3_
              have HO340 := n4_
              have BK331 := n5_
              have HB := n6_
              clear n0_ n1_ n2_ n3_ n4_ n5_ n6_
              (try clear hb)
              (try clear hb2)
              (try clear hk)
              (try clear hi)
              (try clear ho0)
              (try clear ho1)
              refine hK.out _ _ ⟨(blk_cell BK331.out 0).trans rfl, (blk_cell BK331.out 1).trans rfl, (blk_cell BK331.out 2).trans rfl, (blk_cell BK331.out 3).trans rfl, ((HB.out.cell (World.block_lt_of_cell? w _ hw334_0)).trans hw334_0), ((HB.out.cell (World.block_lt_of_cell? w _ hw334_1)).trans hw334_1), ((HB.out.cell (World.block_lt_of_cell? w _ hw334_2)).trans hw334_2)⟩ (fun hHeld => ?_)
              clear hK K
              refine norm_ (a' := ?_) ?_ ?_
              rotate_left
              ·show Act.put _ (some 69) _ = _
               simp only [Act.put, setIfInBounds_toArray, set_cons_zero, set_cons_succ, i64_w, i32_w]
               rfl
              refine pure_ (i := 10) (N := some 59) (v := ?_) (a' := ?_) #[true, true, true, true, true, true, true, true, true, true, true, false, false, false, false, false, false] rfl rfl (any_of HT_.out (by kernel_rfl)) (fun _ _ _ h => h) (Or.inl ⟨by rfl, ?_⟩) ?_ ?_
              rotate_left
              ·intro w'
               go_simp
               first | with_reducible rfl | (rw [if_neg (by first | omega | (simp only [eq_iff_iff, iff_true, iff_false, decide_eq_true_eq, ByteArray.size_append, ByteArray.size_extract] at *; omega))])
              rotate_left
              ·simp only [Act.put, setIfInBounds_toArray, set_cons_zero, set_cons_succ, i64_w, i32_w]; rfl
              refine pure_ (i := 11) (N := some 70) (v := ?_) (a' := ?_) #[true, true, true, true, true, true, true, true, true, true, true, true, false, false, false, false, false] rfl rfl (any_of HT_.out (by kernel_rfl)) (fun _ _ _ h => h) (Or.inl ⟨by rfl, ?_⟩) ?_ ?_
              rotate_left
              ·intro w'
               go_simp
               first | with_reducible rfl | (rw [if_neg (by first | omega | (simp only [eq_iff_iff, iff_true, iff_false, decide_eq_true_eq, ByteArray.size_append, ByteArray.size_extract] at *; omega))])
              rotate_left
              ·simp only [Act.put, setIfInBounds_toArray, set_cons_zero, set_cons_succ, i64_w, i32_w]; rfl
              refine pure_ (i := 12) (N := some 71) (v := ?_) (a' := ?_) #[true, true, true, true, true, true, true, true, true, true, true, true, true, false, false, false, false] rfl rfl (any_of HT_.out (by kernel_rfl)) (fun _ _ _ h => h) (Or.inl ⟨by rfl, ?_⟩) ?_ ?_
              rotate_left
              ·intro w'
               go_simp
               first | with_reducible rfl | (rw [if_neg (by first | omega | (simp only [eq_iff_iff, iff_true, iff_false, decide_eq_true_eq, ByteArray.size_append, ByteArray.size_extract] at *; omega))])
              rotate_left
              ·simp only [Act.put, setIfInBounds_toArray, set_cons_zero, set_cons_succ, i64_w, i32_w]; rfl
              refine pure_ (i := 13) (N := some 72) (v := ?_) (a' := ?_) #[true, true, true, true, true, true, true, true, true, true, true, true, true, true, false, false, false] rfl rfl (any_of HT_.out (by kernel_rfl)) (fun _ _ _ h => h) (Or.inl ⟨by rfl, ?_⟩) ?_ ?_
              rotate_left
              ·intro w'
               go_simp
               first | with_reducible rfl | (rw [if_neg (by first | omega | (simp only [eq_iff_iff, iff_true, iff_false, decide_eq_true_eq, ByteArray.size_append, ByteArray.size_extract] at *; omega))])
              rotate_left
              ·simp only [Act.put, setIfInBounds_toArray, set_cons_zero, set_cons_succ, i64_w, i32_w]; rfl
              refine pure_ (i := 14) (N := some 14) (v := ?_) (a' := ?_) #[true, true, true, true, true, true, true, true, true, true, true, true, true, true, true, false, false] rfl rfl (any_of HT_.out (by kernel_rfl)) (fun _ _ _ h => h) (Or.inl ⟨by rfl, ?_⟩) ?_ ?_
              rotate_left
              ·intro w'
               go_simp
               first | with_reducible rfl | (rw [if_neg (by first | omega | (simp only [eq_iff_iff, iff_true, iff_false, decide_eq_true_eq, ByteArray.size_append, ByteArray.size_extract] at *; omega))])
              rotate_left
              ·simp only [Act.put, setIfInBounds_toArray, set_cons_zero, set_cons_succ, i64_w, i32_w]; rfl
              refine pure_ (i := 15) (N := some 15) (v := ?_) (a' := ?_) #[true, true, true, true, true, true, true, true, true, true, true, true, true, true, true, true, false] rfl rfl (any_of HT_.out (by kernel_rfl)) (fun _ _ _ h => h) (Or.inl ⟨by rfl, ?_⟩) ?_ ?_
              rotate_left
              ·intro w'
               go_simp
               first | with_reducible rfl | (rw [if_neg (by first | omega | (simp only [eq_iff_iff, iff_true, iff_false, decide_eq_true_eq, ByteArray.size_append, ByteArray.size_extract] at *; omega))])
              rotate_left
              ·simp only [Act.put, setIfInBounds_toArray, set_cons_zero, set_cons_succ, i64_w, i32_w]; rfl
              refine pure_ (i := 16) (N := some 16) (v := ?_) (a' := ?_) #[true, true, true, true, true, true, true, true, true, true, true, true, true, true, true, true, true] rfl rfl (any_of HT_.out (by kernel_rfl)) (fun _ _ _ h => h) (Or.inl ⟨by rfl, ?_⟩) ?_ ?_
              rotate_left
              ·intro w'
               go_simp
               first | with_reducible rfl | (rw [if_neg (by first | omega | (simp only [eq_iff_iff, iff_true, iff_false, decide_eq_true_eq, ByteArray.size_append, ByteArray.size_extract] at *; omega))])
              rotate_left
              ·simp only [Act.put, setIfInBounds_toArray, set_cons_zero, set_cons_succ, i64_w, i32_w]; rfl
              refine done_ (done_of HT_.out (by kernel_rfl)) ?_
              go_upto_region 16 with (fail)
              go_cut [95] (fun v95 wc => ∃ (kq : Nat) (x95_23 : Bool), v95 = .bool x95_23 ∧ Aside0 (lockgatelaw17_SpaceTurns.j4 kq l1 t323 x8_2 t328 x10_2 x11_2 x12_2 t335 t338 x95_23 t324 t325 t326 t327 = some r) ∧ Aside0 (kq ≤ kj18) ∧ Aside0 (Kd.V Kd.string 9 wc w.heap.size (fun k_ => some k_ ≠ (u11 : Value).ownBlock ∧ some k_ ≠ (v339 : Value).ownBlock ∧ k_ ≠ gb331) (.slice Ao26 x8_2.length co26) x8_2) ∧ Aside0 (Kd.V Kd.string 9 wc w.heap.size (fun k_ => some k_ ≠ (u11 : Value).ownBlock ∧ some k_ ≠ (v339 : Value).ownBlock ∧ k_ ≠ gb331) (.slice Ao12 t328.length co12) t328) ∧ Aside0 (Kd.R (Kd.int .i64) 3 wc w.heap.size (fun k_ => some k_ ≠ (v339 : Value).ownBlock) u11 x11_2) ∧ Aside0 (Kd.V Kd.string 9 wc w.heap.size (fun k_ => some k_ ≠ (u11 : Value).ownBlock ∧ some k_ ≠ (v339 : Value).ownBlock ∧ k_ ≠ gb331) v336 t335) ∧ Aside0 (Kd.R (Kd.int .i64) 3 wc w.heap.size (fun k_ => some k_ ≠ (u11 : Value).ownBlock) v339 t338) ∧ Aside0 (wc.heap[gb331]? = some (.cells #[.int .i64 t324, .int .i64 t325, .int .i64 t326, .int .i64 t327] 23 (0, 0))) ∧ Aside0 (Below w.heap.size w wc))
              case first =>
               have H := HC24.out
               clear HC24
               by_cases c28 : (t341 != (decide (x13_18 ≤ x10_2))) = true
               ·rw [if_pos c28] at H
                have c28b0 : (t341 != (decide (x13_18 ≤ x10_2))) = true := c28
                (try (have c28b1 : decide (t341 = (decide (x13_18 ≤ x10_2))) = false := by simpa using c28))
                (try (have c28b2 : (t341 == (decide (x13_18 ≤ x10_2))) = false := by simpa using c28))
                (try (have c28b3 : ¬ (t341 = (decide (x13_18 ≤ x10_2))) := by simpa using c28))
                clear c28
                (first | rw [c28b0] | (simp only [i64_w, i32_w]; rw [c28b0]) | skip)
                have H' := Aside0.mk H
                clear H
                go_wp2
                go_meet
                case rel => exact ⟨_, (true), (by first | rfl | (simp; done) | (simp [*]; done)), H', ⟨by have := HJ3.out; have := HK2.out; have := HJ13.out; have := HJ18.out; first | omega | exact Nat.le_refl _⟩, ⟨by (with_reducible repeat (first | apply Kd.V_alloc | apply Kd.V_drewN | apply Kd.V_drew)); exact Kd.V_mono HO_8.out (fun _ hk => ⟨hk.1.1, ⟨hk.2, hk.1.2⟩⟩)⟩, ⟨by (with_reducible repeat (first | apply Kd.V_alloc | apply Kd.V_drewN | apply Kd.V_drew)); exact Kd.V_mono HO_9.out (fun _ hk => ⟨hk.1.1, ⟨hk.2, hk.1.2⟩⟩)⟩, ⟨by (with_reducible repeat (first | apply Kd.R_alloc | apply Kd.R_drewN | apply Kd.R_drew)); exact Kd.R_mono HO_11.out (fun _ hk => hk.2)⟩, ⟨by (with_reducible repeat (first | apply Kd.V_alloc | apply Kd.V_drewN | apply Kd.V_drew)); exact Kd.V_mono HO337.out (fun _ hk => ⟨hk.2.1, ⟨hk.1, hk.2.2⟩⟩)⟩, ⟨by (with_reducible repeat (first | apply Kd.R_alloc | apply Kd.R_drewN | apply Kd.R_drew)); exact Kd.R_mono HO340.out (fun _ hk => hk.2)⟩, ⟨by (with_reducible repeat (first | refine blk_drewN ?_ _ | refine blk_drew ?_ | refine blk_alloc ?_ _)); exact BK331.out⟩, ⟨by repeat (first | (with_reducible first | exact HB.out | apply below_alloc | apply pw_below_drewN | apply below_drew1 | refine below_set ?_ GE331.out) | exact HB.out)⟩⟩
               ·rw [if_neg c28] at H
                have c28b0 : (t341 != (decide (x13_18 ≤ x10_2))) = false := by simpa using c28
                (try (have c28b1 : decide (t341 = (decide (x13_18 ≤ x10_2))) = true := by simpa using c28))
                (try (have c28b2 : (t341 == (decide (x13_18 ≤ x10_2))) = true := by simpa using c28))
                clear c28
                (first | rw [c28b0] | (simp only [i64_w, i32_w]; rw [c28b0]) | skip)
                by_cases c29 : t341 = true
                ·subst c29
                 have H1 : (if (t338.length : Int) = x13_18 then (lockgatelaw17_SpaceTurns.j4 kj18 l1 t323 x8_2 t328 x10_2 x11_2 x12_2 t335 t338 false t324 t325 t326 t327) else (lockgatelaw17_SpaceTurns.j4 kj18 l1 t323 x8_2 t328 x10_2 x11_2 x12_2 t335 t338 true t324 t325 t326 t327)) = some r := by rw [if_pos rfl] at H; exact H
                 clear H
                 have H := H1
                 clear H1
                 by_cases c30 : (t338.length : Int) = x13_18
                 ·rw [if_pos c30] at H
                  have c30b0 : ((t338.length : Int) == x13_18) = true := beq_iff_eq.mpr c30
                  have c30b1 : ((t338.length : Int) != x13_18) = false := bne_eq_false_iff_eq.mpr c30
                  clear c30
                  have H' := Aside0.mk H
                  clear H
                  obtain ⟨Ao31, co31, eo31⟩ := Kd.R_slice HO340.out
                  subst eo31
                  go_wp2
                  go_meet
                  case rel => exact ⟨_, (false), (by first | rfl | (simp; done) | (simp [*]; done)), H', ⟨by have := HJ3.out; have := HK2.out; have := HJ13.out; have := HJ18.out; first | omega | exact Nat.le_refl _⟩, ⟨by (with_reducible repeat (first | apply Kd.V_alloc | apply Kd.V_drewN | apply Kd.V_drew)); exact Kd.V_mono HO_8.out (fun _ hk => ⟨hk.1.1, ⟨hk.2, hk.1.2⟩⟩)⟩, ⟨by (with_reducible repeat (first | apply Kd.V_alloc | apply Kd.V_drewN | apply Kd.V_drew)); exact Kd.V_mono HO_9.out (fun _ hk => ⟨hk.1.1, ⟨hk.2, hk.1.2⟩⟩)⟩, ⟨by (with_reducible repeat (first | apply Kd.R_alloc | apply Kd.R_drewN | apply Kd.R_drew)); exact Kd.R_mono HO_11.out (fun _ hk => hk.2)⟩, ⟨by (with_reducible repeat (first | apply Kd.V_alloc | apply Kd.V_drewN | apply Kd.V_drew)); exact Kd.V_mono HO337.out (fun _ hk => ⟨hk.2.1, ⟨hk.1, hk.2.2⟩⟩)⟩, ⟨by (with_reducible repeat (first | apply Kd.R_alloc | apply Kd.R_drewN | apply Kd.R_drew)); exact Kd.R_mono HO340.out (fun _ hk => hk.2)⟩, ⟨by (with_reducible repeat (first | refine blk_drewN ?_ _ | refine blk_drew ?_ | refine blk_alloc ?_ _)); exact BK331.out⟩, ⟨by repeat (first | (with_reducible first | exact HB.out | apply below_alloc | apply pw_below_drewN | apply below_drew1 | refine below_set ?_ GE331.out) | exact HB.out)⟩⟩
                 ·rw [if_neg c30] at H
                  have c30b0 : ((t338.length : Int) == x13_18) = false := beq_eq_false_iff_ne.mpr c30
                  have c30b1 : ((t338.length : Int) != x13_18) = true := bne_iff_ne.mpr c30
                  have H' := Aside0.mk H
                  clear H
                  obtain ⟨Ao32, co32, eo32⟩ := Kd.R_slice HO340.out
                  subst eo32
                  go_wp2
                  go_meet
                  case rel => exact ⟨_, (true), (by first | rfl | (simp; done) | (simp [*]; done)), H', ⟨by have := HJ3.out; have := HK2.out; have := HJ13.out; have := HJ18.out; first | omega | exact Nat.le_refl _⟩, ⟨by (with_reducible repeat (first | apply Kd.V_alloc | apply Kd.V_drewN | apply Kd.V_drew)); exact Kd.V_mono HO_8.out (fun _ hk => ⟨hk.1.1, ⟨hk.2, hk.1.2⟩⟩)⟩, ⟨by (with_reducible repeat (first | apply Kd.V_alloc | apply Kd.V_drewN | apply Kd.V_drew)); exact Kd.V_mono HO_9.out (fun _ hk => ⟨hk.1.1, ⟨hk.2, hk.1.2⟩⟩)⟩, ⟨by (with_reducible repeat (first | apply Kd.R_alloc | apply Kd.R_drewN | apply Kd.R_drew)); exact Kd.R_mono HO_11.out (fun _ hk => hk.2)⟩, ⟨by (with_reducible repeat (first | apply Kd.V_alloc | apply Kd.V_drewN | apply Kd.V_drew)); exact Kd.V_mono HO337.out (fun _ hk => ⟨hk.2.1, ⟨hk.1, hk.2.2⟩⟩)⟩, ⟨by (with_reducible repeat (first | apply Kd.R_alloc | apply Kd.R_drewN | apply Kd.R_drew)); exact Kd.R_mono HO340.out (fun _ hk => hk.2)⟩, ⟨by (with_reducible repeat (first | refine blk_drewN ?_ _ | refine blk_drew ?_ | refine blk_alloc ?_ _)); exact BK331.out⟩, ⟨by repeat (first | (with_reducible first | exact HB.out | apply below_alloc | apply pw_below_drewN | apply below_drew1 | refine below_set ?_ GE331.out) | exact HB.out)⟩⟩
                ·replace c29 := Bool.eq_false_iff.mpr c29
                 subst c29
                 have H1 : (lockgatelaw17_SpaceTurns.j4 kj18 l1 t323 x8_2 t328 x10_2 x11_2 x12_2 t335 t338 ((t338.length : Int) != 0) t324 t325 t326 t327) = some r := by rw [if_neg (show ¬ (false = true) by decide)] at H; exact H
                 clear H
                 have H := H1
                 clear H1
                 have H' := Aside0.mk H
                 clear H
                 obtain ⟨Ao33, co33, eo33⟩ := Kd.R_slice HO340.out
                 subst eo33
                 go_wp2
                 go_meet
                 case rel => exact ⟨_, (((t338.length : Int) != 0)), (by first | rfl | (simp; done) | (simp [*]; done)), H', ⟨by have := HJ3.out; have := HK2.out; have := HJ13.out; have := HJ18.out; first | omega | exact Nat.le_refl _⟩, ⟨by (with_reducible repeat (first | apply Kd.V_alloc | apply Kd.V_drewN | apply Kd.V_drew)); exact Kd.V_mono HO_8.out (fun _ hk => ⟨hk.1.1, ⟨hk.2, hk.1.2⟩⟩)⟩, ⟨by (with_reducible repeat (first | apply Kd.V_alloc | apply Kd.V_drewN | apply Kd.V_drew)); exact Kd.V_mono HO_9.out (fun _ hk => ⟨hk.1.1, ⟨hk.2, hk.1.2⟩⟩)⟩, ⟨by (with_reducible repeat (first | apply Kd.R_alloc | apply Kd.R_drewN | apply Kd.R_drew)); exact Kd.R_mono HO_11.out (fun _ hk => hk.2)⟩, ⟨by (with_reducible repeat (first | apply Kd.V_alloc | apply Kd.V_drewN | apply Kd.V_drew)); exact Kd.V_mono HO337.out (fun _ hk => ⟨hk.2.1, ⟨hk.1, hk.2.2⟩⟩)⟩, ⟨by (with_reducible repeat (first | apply Kd.R_alloc | apply Kd.R_drewN | apply Kd.R_drew)); exact Kd.R_mono HO340.out (fun _ hk => hk.2)⟩, ⟨by (with_reducible repeat (first | refine blk_drewN ?_ _ | refine blk_drew ?_ | refine blk_alloc ?_ _)); exact BK331.out⟩, ⟨by repeat (first | (with_reducible first | exact HB.out | apply below_alloc | apply pw_below_drewN | apply below_drew1 | refine below_set ?_ GE331.out) | exact HB.out)⟩⟩
              case rest =>
               clear HC24
               try clear c1
               try clear c2
               try clear p2
               try clear c3
               try clear p3
               try clear q3
               try clear hx3
               try clear c5
               try clear c6
               try clear c6b0
               try clear p6
               try clear c8
               try clear c12
               try clear c15
               try clear c15b0
               try clear c16
               try clear c17
               try clear c17b0
               try clear c18
               try clear c18b0
               try clear c20
               try clear c20b0
               try clear c21
               try clear c21b0
               try clear c22
               try clear c22b0
               try clear c28
               try clear c28b0
               try clear c28b1
               try clear c28b2
               try clear c29
               try clear c30
               try clear c30b0
               try clear c30b1
               try clear c33
               try clear p33
               try clear q33
               try clear hx33
               try clear hcz11_0
               try clear hcz11_1
               try clear hcz11_2
               try clear hcz11_3
               try clear hfz11_0
               try clear hfz11_1
               try clear hfz11_2
               try clear hfz11_3
               try clear hx333_0
               try clear hx333_1
               try clear hx333_2
               try clear hx334_0
               try clear hx334_1
               try clear hx334_2
               try clear p2
               try clear p3
               try clear p333
               try clear p334
               try clear p6
               try clear q3
               try clear q333
               try clear q334
               obtain ⟨kq, x95_23, rfl, HA, HJ23, HO_8, HO_9, HO_11, HO_14, HO_15, BK331, HB⟩ := hcut
               cases kq with
               | zero => exact absurd HA.out (by simp [lockgatelaw17_SpaceTurns.j4])
               | succ kj23 =>
                have H := HA.out
                clear HA
                simp only [lockgatelaw17_SpaceTurns.j4] at H
                by_cases c34 : x95_23 = true
                ·subst c34
                 have H1 : (some false) = some r := by rw [if_pos rfl] at H; exact H
                 clear H
                 have H := H1
                 clear H1
                 obtain rfl := Option.some.inj H
                 go_wp2
                 go_ret
                 exact ⟨by first | rfl | (simp [errW_none, errW_some] <;> rfl) | (simp [*, errW_none, errW_some] <;> rfl), by repeat (first | (with_reducible first | exact HB.out | apply below_alloc | apply pw_below_drewN | apply below_drew1 | refine below_set ?_ GE331.out) | exact HB.out)⟩
                ·replace c34 := Bool.eq_false_iff.mpr c34
                 subst c34
                 have H1 : (lockgatelaw17_SpaceTurns.l1 kj23 l1 t323 x8_2 t328 x10_2 x11_2 x12_2 t335 t338 0 t324 t325 t326 t327) = some r := by rw [if_neg (show ¬ (false = true) by decide)] at H; exact H
                 clear H
                 have H := H1
                 clear H1
                 have H' := Aside0.mk H
                 clear H
                 go_wp2
                 go_loopg [17] kj23 (fun kq v17 w' => ∃ (x17_6 : Int), v17 = .int .i64 x17_6 ∧ Aside0 (lockgatelaw17_SpaceTurns.l1 kq l1 t323 x8_2 t328 x10_2 x11_2 x12_2 t335 t338 x17_6 t324 t325 t326 t327 = some r) ∧ Aside0 (kq ≤ kj23) ∧ Aside0 (Kd.V Kd.string 9 w' w.heap.size (fun k_ => some k_ ≠ (u11 : Value).ownBlock ∧ some k_ ≠ (v339 : Value).ownBlock ∧ k_ ≠ gb331) (.slice Ao26 x8_2.length co26) x8_2) ∧ Aside0 (Kd.V Kd.string 9 w' w.heap.size (fun k_ => some k_ ≠ (u11 : Value).ownBlock ∧ some k_ ≠ (v339 : Value).ownBlock ∧ k_ ≠ gb331) (.slice Ao12 t328.length co12) t328) ∧ Aside0 (Kd.R (Kd.int .i64) 3 w' w.heap.size (fun k_ => some k_ ≠ (v339 : Value).ownBlock) u11 x11_2) ∧ Aside0 (Kd.V Kd.string 9 w' w.heap.size (fun k_ => some k_ ≠ (u11 : Value).ownBlock ∧ some k_ ≠ (v339 : Value).ownBlock ∧ k_ ≠ gb331) v336 t335) ∧ Aside0 (Kd.R (Kd.int .i64) 3 w' w.heap.size (fun k_ => some k_ ≠ (u11 : Value).ownBlock) v339 t338) ∧ Aside0 (w'.heap[gb331]? = some (.cells #[.int .i64 t324, .int .i64 t325, .int .i64 t326, .int .i64 t327] 23 (0, 0))) ∧ Aside0 (Below w.heap.size w w'))
                 case atStart => exact ⟨(0), (by first | rfl | (simp; done) | (simp [*]; done)), H', ⟨Nat.le_refl _⟩, ⟨by (with_reducible repeat (first | apply Kd.V_alloc | apply Kd.V_drewN | apply Kd.V_drew)); exact HO_8.out⟩, ⟨by (with_reducible repeat (first | apply Kd.V_alloc | apply Kd.V_drewN | apply Kd.V_drew)); exact HO_9.out⟩, ⟨by (with_reducible repeat (first | apply Kd.R_alloc | apply Kd.R_drewN | apply Kd.R_drew)); exact HO_11.out⟩, ⟨by (with_reducible repeat (first | apply Kd.V_alloc | apply Kd.V_drewN | apply Kd.V_drew)); exact HO_14.out⟩, ⟨by (with_reducible repeat (first | apply Kd.R_alloc | apply Kd.R_drewN | apply Kd.R_drew)); exact HO_15.out⟩, ⟨by (with_reducible repeat (first | refine blk_drewN ?_ _ | refine blk_drew ?_ | refine blk_alloc ?_ _)); exact BK331.out⟩, ⟨by repeat (first | (with_reducible first | exact HB.out | apply below_alloc | apply pw_below_drewN | apply below_drew1 | refine below_set ?_ GE331.out) | exact HB.out)⟩⟩
                 case round =>
                  clear H'
                  try clear c1
                  try clear c2
                  try clear p2
                  try clear c3
                  try clear p3
                  try clear q3
                  try clear hx3
                  try clear c5
                  try clear c6
                  try clear c6b0
                  try clear p6
                  try clear c8
                  try clear c12
                  try clear c15
                  try clear c15b0
                  try clear c16
                  try clear c17
                  try clear c17b0
                  try clear c18
                  try clear c18b0
                  try clear c20
                  try clear c20b0
                  try clear c21
                  try clear c21b0
                  try clear c22
                  try clear c22b0
                  try clear c28
                  try clear c28b0
                  try clear c28b1
                  try clear c28b2
                  try clear c29
                  try clear c30
                  try clear c30b0
                  try clear c30b1
                  try clear c33
                  try clear p33
                  try clear q33
                  try clear hx33
                  try clear c34
                  try clear hcz11_0
                  try clear hcz11_1
                  try clear hcz11_2
                  try clear hcz11_3
                  try clear hfz11_0
                  try clear hfz11_1
                  try clear hfz11_2
                  try clear hfz11_3
                  try clear hx333_0
                  try clear hx333_1
                  try clear hx333_2
                  try clear hx334_0
                  try clear hx334_1
                  try clear hx334_2
                  try clear p2
                  try clear p3
                  try clear p33
                  try clear p333
                  try clear p334
                  try clear p6
                  try clear q3
                  try clear q33
                  try clear q333
                  try clear q334
                  obtain ⟨x17_6, rfl, HA, HK6, HO_8, HO_9, HO_11, HO_14, HO_15, BK331, HB⟩ := hrel
                  cases gk with
                  | zero => exact absurd HA.out (by simp [lockgatelaw17_SpaceTurns.l1])
                  | succ k6 =>
                   have H := HA.out
                   clear HA
                   simp only [lockgatelaw17_SpaceTurns.l1] at H
                   by_cases c35 : x17_6 < (t338.length : Int)
                   ·rw [if_pos c35] at H
                    have c35b0 : decide (x17_6 < (t338.length : Int)) = true := decide_eq_true c35
                    clear c35
                    by_cases c36 : 0 ≤ x17_6
                    ·rw [if_pos c36] at H
                     have c36b0 : decide (0 ≤ x17_6) = true := decide_eq_true c36
                     clear c36
                     replace H := Option.bind_eq_some_iff.mp H
                     obtain ⟨t343, A370, H⟩ := H
                     replace H : (if t343 = true then (some false) else ((space_Taken.f k6 t324 t325 t326 t327 t335 (rd t338 x17_6)).bind fun t345 => (if t345 = true then (lockgatelaw17_SpaceTurns.l1 k6 l1 t323 x8_2 t328 x10_2 x11_2 x12_2 t335 t338 (wrap64 (x17_6 + 1)) t324 t325 t326 t327) else (some false)))) = some r := H
                     have A37 := Aside0.mk A370
                     clear A370
                     by_cases c38 : t343 = true
                     ·subst c38
                      have H1 : (some false) = some r := by rw [if_pos rfl] at H; exact H
                      clear H
                      have H := H1
                      clear H1
                      obtain rfl := Option.some.inj H
                      obtain ⟨Ao39, co39, eo39⟩ := Kd.R_slice HO_15.out
                      subst eo39
                      try go_wp2
                      have n0_ := Aside0.mk (Kd.V_drew HO_8.out)
                      have n1_ := Aside0.mk (Kd.V_drew HO_9.out)
                      have n2_ := Aside0.mk (Kd.R_drew HO_11.out)
                      have n3_ := Aside0.mk (Kd.V_drew HO_14.out)
                      have n4_ := Aside0.mk (Kd.R_drew HO_15.out)
                      have n5_ := Aside0.mk (blk_drew BK331.out)
                      have n6_ := Aside0.mk (below_drew1 HB.out)
                      clear HO_8
                      clear HO_9
                      clear HO_11
                      clear HO_14
                      clear HO_15
                      clear BK331
                      clear HB
                      have HO_8 := n0_
                      have HO_9 := n1_
                      have HO_11 := n2_
                      have HO_14 := n3_
                      have HO_15 := n4_
                      have BK331 := n5_
                      have HB := n6_
                      clear n0_ n1_ n2_ n3_ n4_ n5_ n6_
                      have p342 : 0 ≤ (x17_6 : Int) := of_decide_eq_true (by first | (with_reducible assumption) | assumption)
                      have q342 : x17_6 < (t338.length : Int) := of_decide_eq_true (by first | (with_reducible assumption) | assumption)
                      obtain ⟨ad342, e342, hx342_0⟩ := Kd.at_int (Kd.R_reads' HO_15.out).2.2 x17_6 p342 q342
                      cases e342
                      replace p342 := eq_true p342
                      replace q342 := eq_true q342
                      refine start_ (n := 17) (S := fun w' => w'.cell? ⟨gb331, 0, none⟩ = some (.int .i64 t324) ∧ w'.cell? ⟨gb331, 1, none⟩ = some (.int .i64 t325) ∧ w'.cell? ⟨gb331, 2, none⟩ = some (.int .i64 t326) ∧ w'.cell? ⟨gb331, 3, none⟩ = some (.int .i64 t327) ∧ w'.cell? (ad342.add (x17_6).toNat) = some (.int .i64 (rd t338 x17_6))) (ds := []) #[false, false, false, false, false, false, false, false, false, false, false, false, false, false, false, false, false] (by kernel_rfl) rfl rfl ⟨(blk_cell BK331.out 0).trans rfl, (blk_cell BK331.out 1).trans rfl, (blk_cell BK331.out 2).trans rfl, (blk_cell BK331.out 3).trans rfl, hx342_0⟩ (fun hHeld => ?_); refine with_tabW lockgatelaw17_SpaceTurns.tab21 lockgatelaw17_SpaceTurns.bits21 (fun HT_ HW_ => ?_)
                      generalize wr.drew = w40 at HO_8 HO_9 HO_11 HO_14 HO_15 BK331 HB hx342_0 hHeld ⊢
                      refine pure_ (i := 1) (N := some 103) (v := ?_) (a' := ?_) #[false, true, false, false, false, false, false, false, false, false, false, false, false, false, false, false, false] rfl rfl (any_of HT_.out (by kernel_rfl)) (fun _ _ _ h => h) (Or.inl ⟨by rfl, ?_⟩) ?_ ?_
                      rotate_left
                      ·intro w'
                       go_simp
                       first | with_reducible rfl | (rw [if_neg (by first | omega | (simp only [eq_iff_iff, iff_true, iff_false, decide_eq_true_eq, ByteArray.size_append, ByteArray.size_extract] at *; omega))])
                      rotate_left
                      ·simp only [Act.put, setIfInBounds_toArray, set_cons_zero, set_cons_succ, i64_w, i32_w]; rfl
                      refine pure_ (i := 2) (N := some 104) (v := ?_) (a' := ?_) #[false, true, true, false, false, false, false, false, false, false, false, false, false, false, false, false, false] rfl rfl (any_of HT_.out (by kernel_rfl)) (fun _ _ _ h => h) (Or.inl ⟨by rfl, ?_⟩) ?_ ?_
                      rotate_left
                      ·intro w'
                       go_simp
                       first | with_reducible rfl | (rw [if_neg (by first | omega | (simp only [eq_iff_iff, iff_true, iff_false, decide_eq_true_eq, ByteArray.size_append, ByteArray.size_extract] at *; omega))])
                      rotate_left
                      ·simp only [Act.put, setIfInBounds_toArray, set_cons_zero, set_cons_succ, i64_w, i32_w]; rfl
                      refine pure_ (i := 3) (N := some 105) (v := ?_) (a' := ?_) #[false, true, true, true, false, false, false, false, false, false, false, false, false, false, false, false, false] rfl rfl (any_of HT_.out (by kernel_rfl)) (fun _ _ _ h => h) (Or.inl ⟨by rfl, ?_⟩) ?_ ?_
                      rotate_left
                      ·intro w'
                       go_simp
                       first | with_reducible rfl | (rw [if_neg (by first | omega | (simp only [eq_iff_iff, iff_true, iff_false, decide_eq_true_eq, ByteArray.size_append, ByteArray.size_extract] at *; omega))])
                      rotate_left
                      ·simp only [Act.put, setIfInBounds_toArray, set_cons_zero, set_cons_succ, i64_w, i32_w]; rfl
                      refine pure_ (i := 4) (N := some 106) (v := ?_) (a' := ?_) #[false, true, true, true, true, false, false, false, false, false, false, false, false, false, false, false, false] rfl rfl (any_of HT_.out (by kernel_rfl)) (fun _ _ _ h => h) (Or.inl ⟨by rfl, ?_⟩) ?_ ?_
                      rotate_left
                      ·intro w'
                       go_simp
                       first | with_reducible rfl | (rw [if_neg (by first | omega | (simp only [eq_iff_iff, iff_true, iff_false, decide_eq_true_eq, ByteArray.size_append, ByteArray.size_extract] at *; omega))])
                      rotate_left
                      ·simp only [Act.put, setIfInBounds_toArray, set_cons_zero, set_cons_succ, i64_w, i32_w]; rfl
                      refine take_ (i := 0) (N := some 102) (v := ?_) (a' := ?_) #[true, true, true, true, true, false, false, false, false, false, false, false, false, false, false, false, false] rfl rfl (take_ofW HT_.out HW_.out (by kernel_rfl)) (fun _ _ _ h => h) (Or.inl ⟨by rfl, ?_⟩) hHeld ?_ ?_
                      rotate_left
                      ·rintro w' ⟨s0, s1, s2, s3, s4⟩
                       go_simp
                       first | with_reducible rfl | (rw [if_neg (by first | omega | (simp only [eq_iff_iff, iff_true, iff_false, decide_eq_true_eq, ByteArray.size_append, ByteArray.size_extract] at *; omega))])
                      rotate_left
                      ·simp only [Act.put, setIfInBounds_toArray, set_cons_zero, set_cons_succ, i64_w, i32_w]; rfl
                      refine take_ (i := 5) (N := some 107) (v := ?_) (a' := ?_) #[true, true, true, true, true, true, false, false, false, false, false, false, false, false, false, false, false] rfl rfl (take_ofW HT_.out HW_.out (by kernel_rfl)) (fun _ _ _ h => h) (Or.inl ⟨by rfl, ?_⟩) hHeld ?_ ?_
                      rotate_left
                      ·rintro w' ⟨s0, s1, s2, s3, s4⟩
                       go_simp
                       first | with_reducible rfl | (rw [if_neg (by first | omega | (simp only [eq_iff_iff, iff_true, iff_false, decide_eq_true_eq, ByteArray.size_append, ByteArray.size_extract] at *; omega))])
                      rotate_left
                      ·simp only [Act.put, setIfInBounds_toArray, set_cons_zero, set_cons_succ, i64_w, i32_w]; rfl
                      refine one_ (i := 6) (N := some 108) #[true, true, true, true, true, true, true, false, false, false, false, false, false, false, false, false, false] rfl rfl (one_of HT_.out (by kernel_rfl)) (by decide) (fun K hK => ?_)
                      refine goes_ Try.func14 (by kernel_rfl) rfl #[.agg #[.int .i64 t324, .int .i64 t325, .int .i64 t326, .int .i64 t327], .slice Ao26 x8_2.length co26, .int .i64 (rd t338 x17_6)] (by rfl) rfl rfl (by (try simp only [List.map_toArray, List.map_cons, List.map_nil]); first | done | rfl | (simp only [List.length_drop, List.length_take]; rfl)) ?_
                      with_reducible refine (space_Taken.calls k6 t324 t325 t326 t327 _ _ x8_2 (rd t338 x17_6) true _ ?side1 ?side2 A37.out).mono ?_
                      (case side1 => repeat (first | exact (Kd.V_reads' HO_8.out).2.2 | (with_reducible refine Kd.C_alloc ?_ _) | (with_reducible refine Kd.C_drewN ?_ _) | (with_reducible refine Kd.C_drew ?_)))
                      (case side2 => exact (Kd.V_reads' HO_8.out).2.1)
                      rintro e w41 ⟨rfl, hb⟩
                      have HS4_ := (hb.cell (World.block_lt_of_cell? _ _ (hHeld.2.2.2.2))).trans (hHeld.2.2.2.2)
                      refine ⟨_, rfl, ?_⟩
                      have n0_ := Aside0.mk (Kd.V_below (by (with_reducible repeat (first | apply Kd.V_alloc | apply Kd.V_drewN | apply Kd.V_drew)); exact HO_8.out) hb)
                      have n1_ := Aside0.mk (Kd.V_below (by (with_reducible repeat (first | apply Kd.V_alloc | apply Kd.V_drewN | apply Kd.V_drew)); exact HO_9.out) hb)
                      have n2_ := Aside0.mk (Kd.R_below (by (with_reducible repeat (first | apply Kd.R_alloc | apply Kd.R_drewN | apply Kd.R_drew)); exact HO_11.out) hb)
                      have n3_ := Aside0.mk (Kd.V_below (by (with_reducible repeat (first | apply Kd.V_alloc | apply Kd.V_drewN | apply Kd.V_drew)); exact HO_14.out) hb)
                      have n4_ := Aside0.mk (Kd.R_below (by (with_reducible repeat (first | apply Kd.R_alloc | apply Kd.R_drewN | apply Kd.R_drew)); exact HO_15.out) hb)
                      have n5_ := Aside0.mk (blk_below (g := gb331) (o := .cells #[.int .i64 t324, .int .i64 t325, .int .i64 t326, .int .i64 t327] 23 (0, 0)) (by (with_reducible repeat (first | refine blk_drewN ?_ _ | refine blk_drew ?_ | refine blk_alloc ?_ _)); exact BK331.out) hb)
                      have n6_ := Aside0.mk (below_step (by repeat (first | (with_reducible first | exact HB.out | apply below_alloc | apply pw_below_drewN | apply below_drew1 | refine below_set ?_ GE331.out) | exact HB.out)) hb)
                      clear HO_8
                      clear HO_9
                      clear HO_11
                      clear HO_14
                      clear HO_15
                      clear BK331
                      clear HB
                      have HO_8 := n0_
                      have HO_9 := n1_
                      have HO_11 := n2_
                      have HO_14 := n3_
                      have HO_15 := n4_
                      have BK331 := n5_
                      have HB := n6_
                      clear n0_ n1_ n2_ n3_ n4_ n5_ n6_
                      (try clear hb)
                      (try clear hb2)
                      (try clear hk)
                      (try clear hi)
                      refine hK.out _ _ ⟨(blk_cell BK331.out 0).trans rfl, (blk_cell BK331.out 1).trans rfl, (blk_cell BK331.out 2).trans rfl, (blk_cell BK331.out 3).trans rfl, HS4_⟩ (fun hHeld => ?_)
                      clear hK K
                      refine norm_ (a' := ?_) ?_ ?_
                      rotate_left
                      ·show Act.put _ (some 108) _ = _
                       simp only [Act.put, setIfInBounds_toArray, set_cons_zero, set_cons_succ, i64_w, i32_w]
                       rfl
                      refine pure_ (i := 7) (N := some 109) (v := ?_) (a' := ?_) #[true, true, true, true, true, true, true, true, false, false, false, false, false, false, false, false, false] rfl rfl (any_of HT_.out (by kernel_rfl)) (fun _ _ _ h => h) (Or.inl ⟨by rfl, ?_⟩) ?_ ?_
                      rotate_left
                      ·intro w'
                       go_simp
                       first | with_reducible rfl | (rw [if_neg (by first | omega | (simp only [eq_iff_iff, iff_true, iff_false, decide_eq_true_eq, ByteArray.size_append, ByteArray.size_extract] at *; omega))])
                      rotate_left
                      ·simp only [Act.put, setIfInBounds_toArray, set_cons_zero, set_cons_succ, i64_w, i32_w]; rfl
                      refine pure_ (i := 8) (N := some 110) (v := undef) (a' := ?_) #[true, true, true, true, true, true, true, true, true, false, false, false, false, false, false, false, false] rfl rfl (any_of HT_.out (by kernel_rfl)) (fun _ _ _ h => h) (Or.inr ⟨by rfl, rfl⟩) ?_ ?_
                      rotate_left
                      ·simp only [Act.put, setIfInBounds_toArray, set_cons_zero, set_cons_succ, i64_w, i32_w]; rfl
                      refine pure_ (i := 9) (N := some 111) (v := undef) (a' := ?_) #[true, true, true, true, true, true, true, true, true, true, false, false, false, false, false, false, false] rfl rfl (any_of HT_.out (by kernel_rfl)) (fun _ _ _ h => h) (Or.inr ⟨by rfl, rfl⟩) ?_ ?_
                      rotate_left
                      ·simp only [Act.put, setIfInBounds_toArray, set_cons_zero, set_cons_succ, i64_w, i32_w]; rfl
                      refine pure_ (i := 10) (N := some 112) (v := undef) (a' := ?_) #[true, true, true, true, true, true, true, true, true, true, true, false, false, false, false, false, false] rfl rfl (any_of HT_.out (by kernel_rfl)) (fun _ _ _ h => h) (Or.inr ⟨by rfl, rfl⟩) ?_ ?_
                      rotate_left
                      ·simp only [Act.put, setIfInBounds_toArray, set_cons_zero, set_cons_succ, i64_w, i32_w]; rfl
                      refine pure_ (i := 11) (N := some 113) (v := undef) (a' := ?_) #[true, true, true, true, true, true, true, true, true, true, true, true, false, false, false, false, false] rfl rfl (any_of HT_.out (by kernel_rfl)) (fun _ _ _ h => h) (Or.inr ⟨by rfl, rfl⟩) ?_ ?_
                      rotate_left
                      ·simp only [Act.put, setIfInBounds_toArray, set_cons_zero, set_cons_succ, i64_w, i32_w]; rfl
                      refine pure_ (i := 12) (N := some 114) (v := undef) (a' := ?_) #[true, true, true, true, true, true, true, true, true, true, true, true, true, false, false, false, false] rfl rfl (any_of HT_.out (by kernel_rfl)) (fun _ _ _ h => h) (Or.inr ⟨by rfl, rfl⟩) ?_ ?_
                      rotate_left
                      ·simp only [Act.put, setIfInBounds_toArray, set_cons_zero, set_cons_succ, i64_w, i32_w]; rfl
                      refine pure_ (i := 13) (N := some 115) (v := undef) (a' := ?_) #[true, true, true, true, true, true, true, true, true, true, true, true, true, true, false, false, false] rfl rfl (any_of HT_.out (by kernel_rfl)) (fun _ _ _ h => h) (Or.inr ⟨by rfl, rfl⟩) ?_ ?_
                      rotate_left
                      ·simp only [Act.put, setIfInBounds_toArray, set_cons_zero, set_cons_succ, i64_w, i32_w]; rfl
                      refine pure_ (i := 14) (N := some 116) (v := undef) (a' := ?_) #[true, true, true, true, true, true, true, true, true, true, true, true, true, true, true, false, false] rfl rfl (any_of HT_.out (by kernel_rfl)) (fun _ _ _ h => h) (Or.inr ⟨by rfl, rfl⟩) ?_ ?_
                      rotate_left
                      ·simp only [Act.put, setIfInBounds_toArray, set_cons_zero, set_cons_succ, i64_w, i32_w]; rfl
                      refine pure_ (i := 15) (N := some 117) (v := undef) (a' := ?_) #[true, true, true, true, true, true, true, true, true, true, true, true, true, true, true, true, false] rfl rfl (any_of HT_.out (by kernel_rfl)) (fun _ _ _ h => h) (Or.inr ⟨by rfl, rfl⟩) ?_ ?_
                      rotate_left
                      ·simp only [Act.put, setIfInBounds_toArray, set_cons_zero, set_cons_succ, i64_w, i32_w]; rfl
                      refine pure_ (i := 16) (N := some 118) (v := ?_) (a' := ?_) #[true, true, true, true, true, true, true, true, true, true, true, true, true, true, true, true, true] rfl rfl (any_of HT_.out (by kernel_rfl)) (fun _ _ _ h => h) (Or.inl ⟨by rfl, ?_⟩) ?_ ?_
                      rotate_left
                      ·intro w'
                       go_simp
                       first | with_reducible rfl | (rw [if_neg (by first | omega | (simp only [eq_iff_iff, iff_true, iff_false, decide_eq_true_eq, ByteArray.size_append, ByteArray.size_extract] at *; omega))])
                      rotate_left
                      ·simp only [Act.put, setIfInBounds_toArray, set_cons_zero, set_cons_succ, i64_w, i32_w]; rfl
                      refine done_ (done_of HT_.out (by kernel_rfl)) ?_
                      try go_wp2
                      go_ret
                      exact ⟨by first | rfl | (simp [errW_none, errW_some] <;> rfl) | (simp [*, errW_none, errW_some] <;> rfl), by repeat (first | (with_reducible first | exact HB.out | apply below_alloc | apply pw_below_drewN | apply below_drew1 | refine below_set ?_ GE331.out) | exact HB.out)⟩
                     ·replace c38 := Bool.eq_false_iff.mpr c38
                      subst c38
                      have H1 : ((space_Taken.f k6 t324 t325 t326 t327 t335 (rd t338 x17_6)).bind fun t345 => (if t345 = true then (lockgatelaw17_SpaceTurns.l1 k6 l1 t323 x8_2 t328 x10_2 x11_2 x12_2 t335 t338 (wrap64 (x17_6 + 1)) t324 t325 t326 t327) else (some false))) = some r := by rw [if_neg (show ¬ (false = true) by decide)] at H; exact H
                      clear H
                      have H := H1
                      clear H1
                      replace H := Option.bind_eq_some_iff.mp H
                      obtain ⟨t345, A420, H⟩ := H
                      replace H : (if t345 = true then (lockgatelaw17_SpaceTurns.l1 k6 l1 t323 x8_2 t328 x10_2 x11_2 x12_2 t335 t338 (wrap64 (x17_6 + 1)) t324 t325 t326 t327) else (some false)) = some r := H
                      have A42 := Aside0.mk A420
                      clear A420
                      by_cases c43 : t345 = true
                      ·subst c43
                       have H1 : (lockgatelaw17_SpaceTurns.l1 k6 l1 t323 x8_2 t328 x10_2 x11_2 x12_2 t335 t338 (wrap64 (x17_6 + 1)) t324 t325 t326 t327) = some r := by rw [if_pos rfl] at H; exact H
                       clear H
                       have H := H1
                       clear H1
                       have H' := Aside0.mk H
                       clear H
                       obtain ⟨Ao44, co44, eo44⟩ := Kd.R_slice HO_15.out
                       subst eo44
                       try go_wp2
                       have n0_ := Aside0.mk (Kd.V_drew HO_8.out)
                       have n1_ := Aside0.mk (Kd.V_drew HO_9.out)
                       have n2_ := Aside0.mk (Kd.R_drew HO_11.out)
                       have n3_ := Aside0.mk (Kd.V_drew HO_14.out)
                       have n4_ := Aside0.mk (Kd.R_drew HO_15.out)
                       have n5_ := Aside0.mk (blk_drew BK331.out)
                       have n6_ := Aside0.mk (below_drew1 HB.out)
                       clear HO_8
                       clear HO_9
                       clear HO_11
                       clear HO_14
                       clear HO_15
                       clear BK331
                       clear HB
                       have HO_8 := n0_
                       have HO_9 := n1_
                       have HO_11 := n2_
                       have HO_14 := n3_
                       have HO_15 := n4_
                       have BK331 := n5_
                       have HB := n6_
                       clear n0_ n1_ n2_ n3_ n4_ n5_ n6_
                       have p342 : 0 ≤ (x17_6 : Int) := of_decide_eq_true (by first | (with_reducible assumption) | assumption)
                       have q342 : x17_6 < (t338.length : Int) := of_decide_eq_true (by first | (with_reducible assumption) | assumption)
                       obtain ⟨ad342, e342, hx342_0⟩ := Kd.at_int (Kd.R_reads' HO_15.out).2.2 x17_6 p342 q342
                       cases e342
                       replace p342 := eq_true p342
                       replace q342 := eq_true q342
                       have p344 : 0 ≤ (x17_6 : Int) := of_decide_eq_true (by first | (with_reducible assumption) | assumption)
                       have q344 : x17_6 < (t338.length : Int) := of_decide_eq_true (by first | (with_reducible assumption) | assumption)
                       obtain ⟨ad344, e344, hx344_0⟩ := Kd.at_int (Kd.R_reads' HO_15.out).2.2 x17_6 p344 q344
                       obtain rfl : ad342 = ad344 := (by injection e344)
                       replace p344 := eq_true p344
                       replace q344 := eq_true q344
                       refine start_ (n := 17) (S := fun w' => w'.cell? ⟨gb331, 0, none⟩ = some (.int .i64 t324) ∧ w'.cell? ⟨gb331, 1, none⟩ = some (.int .i64 t325) ∧ w'.cell? ⟨gb331, 2, none⟩ = some (.int .i64 t326) ∧ w'.cell? ⟨gb331, 3, none⟩ = some (.int .i64 t327) ∧ w'.cell? (ad342.add (x17_6).toNat) = some (.int .i64 (rd t338 x17_6)) ∧ w'.cell? (ad342.add (x17_6).toNat) = some (.int .i64 (rd t338 x17_6))) (ds := []) #[false, false, false, false, false, false, false, false, false, false, false, false, false, false, false, false, false] (by kernel_rfl) rfl rfl ⟨(blk_cell BK331.out 0).trans rfl, (blk_cell BK331.out 1).trans rfl, (blk_cell BK331.out 2).trans rfl, (blk_cell BK331.out 3).trans rfl, hx342_0, hx344_0⟩ (fun hHeld => ?_); refine with_tabW lockgatelaw17_SpaceTurns.tab21 lockgatelaw17_SpaceTurns.bits21 (fun HT_ HW_ => ?_)
                       generalize wr.drew = w45 at HO_8 HO_9 HO_11 HO_14 HO_15 BK331 HB hx342_0 hx344_0 hHeld ⊢
                       refine pure_ (i := 1) (N := some 103) (v := ?_) (a' := ?_) #[false, true, false, false, false, false, false, false, false, false, false, false, false, false, false, false, false] rfl rfl (any_of HT_.out (by kernel_rfl)) (fun _ _ _ h => h) (Or.inl ⟨by rfl, ?_⟩) ?_ ?_
                       rotate_left
                       ·intro w'
                        go_simp
                        first | with_reducible rfl | (rw [if_neg (by first | omega | (simp only [eq_iff_iff, iff_true, iff_false, decide_eq_true_eq, ByteArray.size_append, ByteArray.size_extract] at *; omega))])
                       rotate_left
                       ·simp only [Act.put, setIfInBounds_toArray, set_cons_zero, set_cons_succ, i64_w, i32_w]; rfl
                       refine pure_ (i := 2) (N := some 104) (v := ?_) (a' := ?_) #[false, true, true, false, false, false, false, false, false, false, false, false, false, false, false, false, false] rfl rfl (any_of HT_.out (by kernel_rfl)) (fun _ _ _ h => h) (Or.inl ⟨by rfl, ?_⟩) ?_ ?_
                       rotate_left
                       ·intro w'
                        go_simp
                        first | with_reducible rfl | (rw [if_neg (by first | omega | (simp only [eq_iff_iff, iff_true, iff_false, decide_eq_true_eq, ByteArray.size_append, ByteArray.size_extract] at *; omega))])
                       rotate_left
                       ·simp only [Act.put, setIfInBounds_toArray, set_cons_zero, set_cons_succ, i64_w, i32_w]; rfl
                       refine pure_ (i := 3) (N := some 105) (v := ?_) (a' := ?_) #[false, true, true, true, false, false, false, false, false, false, false, false, false, false, false, false, false] rfl rfl (any_of HT_.out (by kernel_rfl)) (fun _ _ _ h => h) (Or.inl ⟨by rfl, ?_⟩) ?_ ?_
                       rotate_left
                       ·intro w'
                        go_simp
                        first | with_reducible rfl | (rw [if_neg (by first | omega | (simp only [eq_iff_iff, iff_true, iff_false, decide_eq_true_eq, ByteArray.size_append, ByteArray.size_extract] at *; omega))])
                       rotate_left
                       ·simp only [Act.put, setIfInBounds_toArray, set_cons_zero, set_cons_succ, i64_w, i32_w]; rfl
                       refine pure_ (i := 4) (N := some 106) (v := ?_) (a' := ?_) #[false, true, true, true, true, false, false, false, false, false, false, false, false, false, false, false, false] rfl rfl (any_of HT_.out (by kernel_rfl)) (fun _ _ _ h => h) (Or.inl ⟨by rfl, ?_⟩) ?_ ?_
                       rotate_left
                       ·intro w'
                        go_simp
                        first | with_reducible rfl | (rw [if_neg (by first | omega | (simp only [eq_iff_iff, iff_true, iff_false, decide_eq_true_eq, ByteArray.size_append, ByteArray.size_extract] at *; omega))])
                       rotate_left
                       ·simp only [Act.put, setIfInBounds_toArray, set_cons_zero, set_cons_succ, i64_w, i32_w]; rfl
                       refine take_ (i := 0) (N := some 102) (v := ?_) (a' := ?_) #[true, true, true, true, true, false, false, false, false, false, false, false, false, false, false, false, false] rfl rfl (take_ofW HT_.out HW_.out (by kernel_rfl)) (fun _ _ _ h => h) (Or.inl ⟨by rfl, ?_⟩) hHeld ?_ ?_
                       rotate_left
                       ·rintro w' ⟨s0, s1, s2, s3, s4, s5⟩
                        go_simp
                        first | with_reducible rfl | (rw [if_neg (by first | omega | (simp only [eq_iff_iff, iff_true, iff_false, decide_eq_true_eq, ByteArray.size_append, ByteArray.size_extract] at *; omega))])
                       rotate_left
                       ·simp only [Act.put, setIfInBounds_toArray, set_cons_zero, set_cons_succ, i64_w, i32_w]; rfl
                       refine take_ (i := 5) (N := some 107) (v := ?_) (a' := ?_) #[true, true, true, true, true, true, false, false, false, false, false, false, false, false, false, false, false] rfl rfl (take_ofW HT_.out HW_.out (by kernel_rfl)) (fun _ _ _ h => h) (Or.inl ⟨by rfl, ?_⟩) hHeld ?_ ?_
                       rotate_left
                       ·rintro w' ⟨s0, s1, s2, s3, s4, s5⟩
                        go_simp
                        first | with_reducible rfl | (rw [if_neg (by first | omega | (simp only [eq_iff_iff, iff_true, iff_false, decide_eq_true_eq, ByteArray.size_append, ByteArray.size_extract] at *; omega))])
                       rotate_left
                       ·simp only [Act.put, setIfInBounds_toArray, set_cons_zero, set_cons_succ, i64_w, i32_w]; rfl
                       refine one_ (i := 6) (N := some 108) #[true, true, true, true, true, true, true, false, false, false, false, false, false, false, false, false, false] rfl rfl (one_of HT_.out (by kernel_rfl)) (by decide) (fun K hK => ?_)
                       refine goes_ Try.func14 (by kernel_rfl) rfl #[.agg #[.int .i64 t324, .int .i64 t325, .int .i64 t326, .int .i64 t327], .slice Ao26 x8_2.length co26, .int .i64 (rd t338 x17_6)] (by rfl) rfl rfl (by (try simp only [List.map_toArray, List.map_cons, List.map_nil]); first | done | rfl | (simp only [List.length_drop, List.length_take]; rfl)) ?_
                       with_reducible refine (space_Taken.calls k6 t324 t325 t326 t327 _ _ x8_2 (rd t338 x17_6) false _ ?side1 ?side2 A37.out).mono ?_
                       (case side1 => repeat (first | exact (Kd.V_reads' HO_8.out).2.2 | (with_reducible refine Kd.C_alloc ?_ _) | (with_reducible refine Kd.C_drewN ?_ _) | (with_reducible refine Kd.C_drew ?_)))
                       (case side2 => exact (Kd.V_reads' HO_8.out).2.1)
                       rintro e w46 ⟨rfl, hb⟩
                       have HS4_ := (hb.cell (World.block_lt_of_cell? _ _ (hHeld.2.2.2.2.1))).trans (hHeld.2.2.2.2.1)
                       have HS5_ := (hb.cell (World.block_lt_of_cell? _ _ (hHeld.2.2.2.2.2))).trans (hHeld.2.2.2.2.2)
                       refine ⟨_, rfl, ?_⟩
                       have n0_ := Aside0.mk (Kd.V_below (by (with_reducible repeat (first | apply Kd.V_alloc | apply Kd.V_drewN | apply Kd.V_drew)); exact HO_8.out) hb)
                       have n1_ := Aside0.mk (Kd.V_below (by (with_reducible repeat (first | apply Kd.V_alloc | apply Kd.V_drewN | apply Kd.V_drew)); exact HO_9.out) hb)
                       have n2_ := Aside0.mk (Kd.R_below (by (with_reducible repeat (first | apply Kd.R_alloc | apply Kd.R_drewN | apply Kd.R_drew)); exact HO_11.out) hb)
                       have n3_ := Aside0.mk (Kd.V_below (by (with_reducible repeat (first | apply Kd.V_alloc | apply Kd.V_drewN | apply Kd.V_drew)); exact HO_14.out) hb)
                       have n4_ := Aside0.mk (Kd.R_below (by (with_reducible repeat (first | apply Kd.R_alloc | apply Kd.R_drewN | apply Kd.R_drew)); exact HO_15.out) hb)
                       have n5_ := Aside0.mk (blk_below (g := gb331) (o := .cells #[.int .i64 t324, .int .i64 t325, .int .i64 t326, .int .i64 t327] 23 (0, 0)) (by (with_reducible repeat (first | refine blk_drewN ?_ _ | refine blk_drew ?_ | refine blk_alloc ?_ _)); exact BK331.out) hb)
                       have n6_ := Aside0.mk (below_step (by repeat (first | (with_reducible first | exact HB.out | apply below_alloc | apply pw_below_drewN | apply below_drew1 | refine below_set ?_ GE331.out) | exact HB.out)) hb)
                       clear HO_8
                       clear HO_9
                       clear HO_11
                       clear HO_14
                       clear HO_15
                       clear BK331
                       clear HB
                       have HO_8 := n0_
                       have HO_9 := n1_
                       have HO_11 := n2_
                       have HO_14 := n3_
                       have HO_15 := n4_
                       have BK331 := n5_
                       have HB := n6_
                       clear n0_ n1_ n2_ n3_ n4_ n5_ n6_
                       (try clear hb)
                       (try clear hb2)
                       (try clear hk)
                       (try clear hi)
                       obtain ⟨Ao47, co47, eo47⟩ := Kd.V_slice HO_14.out
                       (first | subst eo47 | (injection eo47 with f1_ f2_ f3_; have f4_ := f1_.symm; have f5_ := f3_.symm; clear f1_ f2_ f3_; subst f4_; subst f5_))
                       refine hK.out _ _ ⟨(blk_cell BK331.out 0).trans rfl, (blk_cell BK331.out 1).trans rfl, (blk_cell BK331.out 2).trans rfl, (blk_cell BK331.out 3).trans rfl, HS4_, HS5_⟩ (fun hHeld => ?_)
                       clear hK K
                       refine norm_ (a' := ?_) ?_ ?_
                       rotate_left
                       ·show Act.put _ (some 108) _ = _
                        simp only [Act.put, setIfInBounds_toArray, set_cons_zero, set_cons_succ, i64_w, i32_w]
                        rfl
                       refine pure_ (i := 7) (N := some 109) (v := ?_) (a' := ?_) #[true, true, true, true, true, true, true, true, false, false, false, false, false, false, false, false, false] rfl rfl (any_of HT_.out (by kernel_rfl)) (fun _ _ _ h => h) (Or.inl ⟨by rfl, ?_⟩) ?_ ?_
                       rotate_left
                       ·intro w'
                        go_simp
                        first | with_reducible rfl | (rw [if_neg (by first | omega | (simp only [eq_iff_iff, iff_true, iff_false, decide_eq_true_eq, ByteArray.size_append, ByteArray.size_extract] at *; omega))])
                       rotate_left
                       ·simp only [Act.put, setIfInBounds_toArray, set_cons_zero, set_cons_succ, i64_w, i32_w]; rfl
                       refine pure_ (i := 9) (N := some 111) (v := ?_) (a' := ?_) #[true, true, true, true, true, true, true, true, false, true, false, false, false, false, false, false, false] rfl rfl (any_of HT_.out (by kernel_rfl)) (fun _ _ _ h => h) (Or.inl ⟨by rfl, ?_⟩) ?_ ?_
                       rotate_left
                       ·intro w'
                        go_simp
                        first | with_reducible rfl | (rw [if_neg (by first | omega | (simp only [eq_iff_iff, iff_true, iff_false, decide_eq_true_eq, ByteArray.size_append, ByteArray.size_extract] at *; omega))])
                       rotate_left
                       ·simp only [Act.put, setIfInBounds_toArray, set_cons_zero, set_cons_succ, i64_w, i32_w]; rfl
                       refine pure_ (i := 10) (N := some 112) (v := ?_) (a' := ?_) #[true, true, true, true, true, true, true, true, false, true, true, false, false, false, false, false, false] rfl rfl (any_of HT_.out (by kernel_rfl)) (fun _ _ _ h => h) (Or.inl ⟨by rfl, ?_⟩) ?_ ?_
                       rotate_left
                       ·intro w'
                        go_simp
                        first | with_reducible rfl | (rw [if_neg (by first | omega | (simp only [eq_iff_iff, iff_true, iff_false, decide_eq_true_eq, ByteArray.size_append, ByteArray.size_extract] at *; omega))])
                       rotate_left
                       ·simp only [Act.put, setIfInBounds_toArray, set_cons_zero, set_cons_succ, i64_w, i32_w]; rfl
                       refine pure_ (i := 11) (N := some 113) (v := ?_) (a' := ?_) #[true, true, true, true, true, true, true, true, false, true, true, true, false, false, false, false, false] rfl rfl (any_of HT_.out (by kernel_rfl)) (fun _ _ _ h => h) (Or.inl ⟨by rfl, ?_⟩) ?_ ?_
                       rotate_left
                       ·intro w'
                        go_simp
                        first | with_reducible rfl | (rw [if_neg (by first | omega | (simp only [eq_iff_iff, iff_true, iff_false, decide_eq_true_eq, ByteArray.size_append, ByteArray.size_extract] at *; omega))])
                       rotate_left
                       ·simp only [Act.put, setIfInBounds_toArray, set_cons_zero, set_cons_succ, i64_w, i32_w]; rfl
                       refine pure_ (i := 12) (N := some 114) (v := ?_) (a' := ?_) #[true, true, true, true, true, true, true, true, false, true, true, true, true, false, false, false, false] rfl rfl (any_of HT_.out (by kernel_rfl)) (fun _ _ _ h => h) (Or.inl ⟨by rfl, ?_⟩) ?_ ?_
                       rotate_left
                       ·intro w'
                        go_simp
                        first | with_reducible rfl | (rw [if_neg (by first | omega | (simp only [eq_iff_iff, iff_true, iff_false, decide_eq_true_eq, ByteArray.size_append, ByteArray.size_extract] at *; omega))])
                       rotate_left
                       ·simp only [Act.put, setIfInBounds_toArray, set_cons_zero, set_cons_succ, i64_w, i32_w]; rfl
                       refine take_ (i := 8) (N := some 110) (v := ?_) (a' := ?_) #[true, true, true, true, true, true, true, true, true, true, true, true, true, false, false, false, false] rfl rfl (take_ofW HT_.out HW_.out (by kernel_rfl)) (fun _ _ _ h => h) (Or.inl ⟨by rfl, ?_⟩) hHeld ?_ ?_
                       rotate_left
                       ·rintro w' ⟨s0, s1, s2, s3, s4, s5⟩
                        go_simp
                        first | with_reducible rfl | (rw [if_neg (by first | omega | (simp only [eq_iff_iff, iff_true, iff_false, decide_eq_true_eq, ByteArray.size_append, ByteArray.size_extract] at *; omega))])
                       rotate_left
                       ·simp only [Act.put, setIfInBounds_toArray, set_cons_zero, set_cons_succ, i64_w, i32_w]; rfl
                       refine take_ (i := 13) (N := some 115) (v := ?_) (a' := ?_) #[true, true, true, true, true, true, true, true, true, true, true, true, true, true, false, false, false] rfl rfl (take_ofW HT_.out HW_.out (by kernel_rfl)) (fun _ _ _ h => h) (Or.inl ⟨by rfl, ?_⟩) hHeld ?_ ?_
                       rotate_left
                       ·rintro w' ⟨s0, s1, s2, s3, s4, s5⟩
                        go_simp
                        first | with_reducible rfl | (rw [if_neg (by first | omega | (simp only [eq_iff_iff, iff_true, iff_false, decide_eq_true_eq, ByteArray.size_append, ByteArray.size_extract] at *; omega))])
                       rotate_left
                       ·simp only [Act.put, setIfInBounds_toArray, set_cons_zero, set_cons_succ, i64_w, i32_w]; rfl
                       refine one_ (i := 14) (N := some 116) #[true, true, true, true, true, true, true, true, true, true, true, true, true, true, true, false, false] rfl rfl (one_of HT_.out (by kernel_rfl)) (by decide) (fun K hK => ?_)
                       refine goes_ Try.func14 (by kernel_rfl) rfl #[.agg #[.int .i64 t324, .int .i64 t325, .int .i64 t326, .int .i64 t327], .slice Ao47 t335.length co47, .int .i64 (rd t338 x17_6)] (by rfl) rfl rfl (by (try simp only [List.map_toArray, List.map_cons, List.map_nil]); first | done | rfl | (simp only [List.length_drop, List.length_take]; rfl)) ?_
                       with_reducible refine (space_Taken.calls k6 t324 t325 t326 t327 _ _ t335 (rd t338 x17_6) true _ ?side1 ?side2 A42.out).mono ?_
                       (case side1 => repeat (first | exact (Kd.V_reads' HO_14.out).2.2 | (with_reducible refine Kd.C_alloc ?_ _) | (with_reducible refine Kd.C_drewN ?_ _) | (with_reducible refine Kd.C_drew ?_)))
                       (case side2 => exact (Kd.V_reads' HO_14.out).2.1)
                       rintro e w48 ⟨rfl, hb⟩
                       have HS4_ := (hb.cell (World.block_lt_of_cell? _ _ (hHeld.2.2.2.2.1))).trans (hHeld.2.2.2.2.1)
                       have HS5_ := (hb.cell (World.block_lt_of_cell? _ _ (hHeld.2.2.2.2.2))).trans (hHeld.2.2.2.2.2)
                       refine ⟨_, rfl, ?_⟩
                       have n0_ := Aside0.mk (Kd.V_below (by (with_reducible repeat (first | apply Kd.V_alloc | apply Kd.V_drewN | apply Kd.V_drew)); exact HO_8.out) hb)
                       have n1_ := Aside0.mk (Kd.V_below (by (with_reducible repeat (first | apply Kd.V_alloc | apply Kd.V_drewN | apply Kd.V_drew)); exact HO_9.out) hb)
                       have n2_ := Aside0.mk (Kd.R_below (by (with_reducible repeat (first | apply Kd.R_alloc | apply Kd.R_drewN | apply Kd.R_drew)); exact HO_11.out) hb)
                       have n3_ := Aside0.mk (Kd.V_below (by (with_reducible repeat (first | apply Kd.V_alloc | apply Kd.V_drewN | apply Kd.V_drew)); exact HO_14.out) hb)
                       have n4_ := Aside0.mk (Kd.R_below (by (with_reducible repeat (first | apply Kd.R_alloc | apply Kd.R_drewN | apply Kd.R_drew)); exact HO_15.out) hb)
                       have n5_ := Aside0.mk (blk_below (g := gb331) (o := .cells #[.int .i64 t324, .int .i64 t325, .int .i64 t326, .int .i64 t327] 23 (0, 0)) (by (with_reducible repeat (first | refine blk_drewN ?_ _ | refine blk_drew ?_ | refine blk_alloc ?_ _)); exact BK331.out) hb)
                       have n6_ := Aside0.mk (below_step (by repeat (first | (with_reducible first | exact HB.out | apply below_alloc | apply pw_below_drewN | apply below_drew1 | refine below_set ?_ GE331.out) | exact HB.out)) hb)
                       clear HO_8
                       clear HO_9
                       clear HO_11
                       clear HO_14
                       clear HO_15
                       clear BK331
                       clear HB
                       have HO_8 := n0_
                       have HO_9 := n1_
                       have HO_11 := n2_
                       have HO_14 := n3_
                       have HO_15 := n4_
                       have BK331 := n5_
                       have HB := n6_
                       clear n0_ n1_ n2_ n3_ n4_ n5_ n6_
                       (try clear hb)
                       (try clear hb2)
                       (try clear hk)
                       (try clear hi)
                       refine hK.out _ _ ⟨(blk_cell BK331.out 0).trans rfl, (blk_cell BK331.out 1).trans rfl, (blk_cell BK331.out 2).trans rfl, (blk_cell BK331.out 3).trans rfl, HS4_, HS5_⟩ (fun hHeld => ?_)
                       clear hK K
                       refine norm_ (a' := ?_) ?_ ?_
                       rotate_left
                       ·show Act.put _ (some 116) _ = _
                        simp only [Act.put, setIfInBounds_toArray, set_cons_zero, set_cons_succ, i64_w, i32_w]
                        rfl
                       refine pure_ (i := 15) (N := some 117) (v := ?_) (a' := ?_) #[true, true, true, true, true, true, true, true, true, true, true, true, true, true, true, true, false] rfl rfl (any_of HT_.out (by kernel_rfl)) (fun _ _ _ h => h) (Or.inl ⟨by rfl, ?_⟩) ?_ ?_
                       rotate_left
                       ·intro w'
                        go_simp
                        first | with_reducible rfl | (rw [if_neg (by first | omega | (simp only [eq_iff_iff, iff_true, iff_false, decide_eq_true_eq, ByteArray.size_append, ByteArray.size_extract] at *; omega))])
                       rotate_left
                       ·simp only [Act.put, setIfInBounds_toArray, set_cons_zero, set_cons_succ, i64_w, i32_w]; rfl
                       refine pure_ (i := 16) (N := some 118) (v := ?_) (a' := ?_) #[true, true, true, true, true, true, true, true, true, true, true, true, true, true, true, true, true] rfl rfl (any_of HT_.out (by kernel_rfl)) (fun _ _ _ h => h) (Or.inl ⟨by rfl, ?_⟩) ?_ ?_
                       rotate_left
                       ·intro w'
                        go_simp
                        first | with_reducible rfl | (rw [if_neg (by first | omega | (simp only [eq_iff_iff, iff_true, iff_false, decide_eq_true_eq, ByteArray.size_append, ByteArray.size_extract] at *; omega))])
                       rotate_left
                       ·simp only [Act.put, setIfInBounds_toArray, set_cons_zero, set_cons_succ, i64_w, i32_w]; rfl
                       refine done_ (done_of HT_.out (by kernel_rfl)) ?_
                       try go_wp2
                       go_roundg k6
                       case measure => have := HJ3.out; have := HK2.out; have := HJ13.out; have := HJ18.out; have := HJ23.out; have := HK6.out; omega
                       case rel => exact ⟨(wrap64 (x17_6 + 1)), (by first | rfl | (simp; done) | (simp [*]; done)), H', ⟨by have := HJ3.out; have := HK2.out; have := HJ13.out; have := HJ18.out; have := HJ23.out; have := HK6.out; omega⟩, ⟨by (with_reducible repeat (first | apply Kd.V_alloc | apply Kd.V_drewN | apply Kd.V_drew)); exact HO_8.out⟩, ⟨by (with_reducible repeat (first | apply Kd.V_alloc | apply Kd.V_drewN | apply Kd.V_drew)); exact HO_9.out⟩, ⟨by (with_reducible repeat (first | apply Kd.R_alloc | apply Kd.R_drewN | apply Kd.R_drew)); exact HO_11.out⟩, ⟨by (with_reducible repeat (first | apply Kd.V_alloc | apply Kd.V_drewN | apply Kd.V_drew)); exact HO_14.out⟩, ⟨by (with_reducible repeat (first | apply Kd.R_alloc | apply Kd.R_drewN | apply Kd.R_drew)); exact HO_15.out⟩, ⟨by (with_reducible repeat (first | refine blk_drewN ?_ _ | refine blk_drew ?_ | refine blk_alloc ?_ _)); exact BK331.out⟩, ⟨by repeat (first | (with_reducible first | exact HB.out | apply below_alloc | apply pw_below_drewN | apply below_drew1 | refine below_set ?_ GE331.out) | exact HB.out)⟩⟩
                      ·replace c43 := Bool.eq_false_iff.mpr c43
                       subst c43
                       have H1 : (some false) = some r := by rw [if_neg (show ¬ (false = true) by decide)] at H; exact H
                       clear H
                       have H := H1
                       clear H1
                       obtain rfl := Option.some.inj H
                       obtain ⟨Ao49, co49, eo49⟩ := Kd.R_slice HO_15.out
                       subst eo49
                       try go_wp2
                       have n0_ := Aside0.mk (Kd.V_drew HO_8.out)
                       have n1_ := Aside0.mk (Kd.V_drew HO_9.out)
                       have n2_ := Aside0.mk (Kd.R_drew HO_11.out)
                       have n3_ := Aside0.mk (Kd.V_drew HO_14.out)
                       have n4_ := Aside0.mk (Kd.R_drew HO_15.out)
                       have n5_ := Aside0.mk (blk_drew BK331.out)
                       have n6_ := Aside0.mk (below_drew1 HB.out)
                       clear HO_8
                       clear HO_9
                       clear HO_11
                       clear HO_14
                       clear HO_15
                       clear BK331
                       clear HB
                       have HO_8 := n0_
                       have HO_9 := n1_
                       have HO_11 := n2_
                       have HO_14 := n3_
                       have HO_15 := n4_
                       have BK331 := n5_
                       have HB := n6_
                       clear n0_ n1_ n2_ n3_ n4_ n5_ n6_
                       have p342 : 0 ≤ (x17_6 : Int) := of_decide_eq_true (by first | (with_reducible assumption) | assumption)
                       have q342 : x17_6 < (t338.length : Int) := of_decide_eq_true (by first | (with_reducible assumption) | assumption)
                       obtain ⟨ad342, e342, hx342_0⟩ := Kd.at_int (Kd.R_reads' HO_15.out).2.2 x17_6 p342 q342
                       cases e342
                       replace p342 := eq_true p342
                       replace q342 := eq_true q342
                       have p344 : 0 ≤ (x17_6 : Int) := of_decide_eq_true (by first | (with_reducible assumption) | assumption)
                       have q344 : x17_6 < (t338.length : Int) := of_decide_eq_true (by first | (with_reducible assumption) | assumption)
                       obtain ⟨ad344, e344, hx344_0⟩ := Kd.at_int (Kd.R_reads' HO_15.out).2.2 x17_6 p344 q344
                       obtain rfl : ad342 = ad344 := (by injection e344)
                       replace p344 := eq_true p344
                       replace q344 := eq_true q344
                       refine start_ (n := 17) (S := fun w' => w'.cell? ⟨gb331, 0, none⟩ = some (.int .i64 t324) ∧ w'.cell? ⟨gb331, 1, none⟩ = some (.int .i64 t325) ∧ w'.cell? ⟨gb331, 2, none⟩ = some (.int .i64 t326) ∧ w'.cell? ⟨gb331, 3, none⟩ = some (.int .i64 t327) ∧ w'.cell? (ad342.add (x17_6).toNat) = some (.int .i64 (rd t338 x17_6)) ∧ w'.cell? (ad342.add (x17_6).toNat) = some (.int .i64 (rd t338 x17_6))) (ds := []) #[false, false, false, false, false, false, false, false, false, false, false, false, false, false, false, false, false] (by kernel_rfl) rfl rfl ⟨(blk_cell BK331.out 0).trans rfl, (blk_cell BK331.out 1).trans rfl, (blk_cell BK331.out 2).trans rfl, (blk_cell BK331.out 3).trans rfl, hx342_0, hx344_0⟩ (fun hHeld => ?_); refine with_tabW lockgatelaw17_SpaceTurns.tab21 lockgatelaw17_SpaceTurns.bits21 (fun HT_ HW_ => ?_)
                       generalize wr.drew = w50 at HO_8 HO_9 HO_11 HO_14 HO_15 BK331 HB hx342_0 hx344_0 hHeld ⊢
                       refine pure_ (i := 1) (N := some 103) (v := ?_) (a' := ?_) #[false, true, false, false, false, false, false, false, false, false, false, false, false, false, false, false, false] rfl rfl (any_of HT_.out (by kernel_rfl)) (fun _ _ _ h => h) (Or.inl ⟨by rfl, ?_⟩) ?_ ?_
                       rotate_left
                       ·intro w'
                        go_simp
                        first | with_reducible rfl | (rw [if_neg (by first | omega | (simp only [eq_iff_iff, iff_true, iff_false, decide_eq_true_eq, ByteArray.size_append, ByteArray.size_extract] at *; omega))])
                       rotate_left
                       ·simp only [Act.put, setIfInBounds_toArray, set_cons_zero, set_cons_succ, i64_w, i32_w]; rfl
                       refine pure_ (i := 2) (N := some 104) (v := ?_) (a' := ?_) #[false, true, true, false, false, false, false, false, false, false, false, false, false, false, false, false, false] rfl rfl (any_of HT_.out (by kernel_rfl)) (fun _ _ _ h => h) (Or.inl ⟨by rfl, ?_⟩) ?_ ?_
                       rotate_left
                       ·intro w'
                        go_simp
                        first | with_reducible rfl | (rw [if_neg (by first | omega | (simp only [eq_iff_iff, iff_true, iff_false, decide_eq_true_eq, ByteArray.size_append, ByteArray.size_extract] at *; omega))])
                       rotate_left
                       ·simp only [Act.put, setIfInBounds_toArray, set_cons_zero, set_cons_succ, i64_w, i32_w]; rfl
                       refine pure_ (i := 3) (N := some 105) (v := ?_) (a' := ?_) #[false, true, true, true, false, false, false, false, false, false, false, false, false, false, false, false, false] rfl rfl (any_of HT_.out (by kernel_rfl)) (fun _ _ _ h => h) (Or.inl ⟨by rfl, ?_⟩) ?_ ?_
                       rotate_left
                       ·intro w'
                        go_simp
                        first | with_reducible rfl | (rw [if_neg (by first | omega | (simp only [eq_iff_iff, iff_true, iff_false, decide_eq_true_eq, ByteArray.size_append, ByteArray.size_extract] at *; omega))])
                       rotate_left
                       ·simp only [Act.put, setIfInBounds_toArray, set_cons_zero, set_cons_succ, i64_w, i32_w]; rfl
                       refine pure_ (i := 4) (N := some 106) (v := ?_) (a' := ?_) #[false, true, true, true, true, false, false, false, false, false, false, false, false, false, false, false, false] rfl rfl (any_of HT_.out (by kernel_rfl)) (fun _ _ _ h => h) (Or.inl ⟨by rfl, ?_⟩) ?_ ?_
                       rotate_left
                       ·intro w'
                        go_simp
                        first | with_reducible rfl | (rw [if_neg (by first | omega | (simp only [eq_iff_iff, iff_true, iff_false, decide_eq_true_eq, ByteArray.size_append, ByteArray.size_extract] at *; omega))])
                       rotate_left
                       ·simp only [Act.put, setIfInBounds_toArray, set_cons_zero, set_cons_succ, i64_w, i32_w]; rfl
                       refine take_ (i := 0) (N := some 102) (v := ?_) (a' := ?_) #[true, true, true, true, true, false, false, false, false, false, false, false, false, false, false, false, false] rfl rfl (take_ofW HT_.out HW_.out (by kernel_rfl)) (fun _ _ _ h => h) (Or.inl ⟨by rfl, ?_⟩) hHeld ?_ ?_
                       rotate_left
                       ·rintro w' ⟨s0, s1, s2, s3, s4, s5⟩
                        go_simp
                        first | with_reducible rfl | (rw [if_neg (by first | omega | (simp only [eq_iff_iff, iff_true, iff_false, decide_eq_true_eq, ByteArray.size_append, ByteArray.size_extract] at *; omega))])
                       rotate_left
                       ·simp only [Act.put, setIfInBounds_toArray, set_cons_zero, set_cons_succ, i64_w, i32_w]; rfl
                       refine take_ (i := 5) (N := some 107) (v := ?_) (a' := ?_) #[true, true, true, true, true, true, false, false, false, false, false, false, false, false, false, false, false] rfl rfl (take_ofW HT_.out HW_.out (by kernel_rfl)) (fun _ _ _ h => h) (Or.inl ⟨by rfl, ?_⟩) hHeld ?_ ?_
                       rotate_left
                       ·rintro w' ⟨s0, s1, s2, s3, s4, s5⟩
                        go_simp
                        first | with_reducible rfl | (rw [if_neg (by first | omega | (simp only [eq_iff_iff, iff_true, iff_false, decide_eq_true_eq, ByteArray.size_append, ByteArray.size_extract] at *; omega))])
                       rotate_left
                       ·simp only [Act.put, setIfInBounds_toArray, set_cons_zero, set_cons_succ, i64_w, i32_w]; rfl
                       refine one_ (i := 6) (N := some 108) #[true, true, true, true, true, true, true, false, false, false, false, false, false, false, false, false, false] rfl rfl (one_of HT_.out (by kernel_rfl)) (by decide) (fun K hK => ?_)
                       refine goes_ Try.func14 (by kernel_rfl) rfl #[.agg #[.int .i64 t324, .int .i64 t325, .int .i64 t326, .int .i64 t327], .slice Ao26 x8_2.length co26, .int .i64 (rd t338 x17_6)] (by rfl) rfl rfl (by (try simp only [List.map_toArray, List.map_cons, List.map_nil]); first | done | rfl | (simp only [List.length_drop, List.length_take]; rfl)) ?_
                       with_reducible refine (space_Taken.calls k6 t324 t325 t326 t327 _ _ x8_2 (rd t338 x17_6) false _ ?side1 ?side2 A37.out).mono ?_
                       (case side1 => repeat (first | exact (Kd.V_reads' HO_8.out).2.2 | (with_reducible refine Kd.C_alloc ?_ _) | (with_reducible refine Kd.C_drewN ?_ _) | (with_reducible refine Kd.C_drew ?_)))
                       (case side2 => exact (Kd.V_reads' HO_8.out).2.1)
                       rintro e w51 ⟨rfl, hb⟩
                       have HS4_ := (hb.cell (World.block_lt_of_cell? _ _ (hHeld.2.2.2.2.1))).trans (hHeld.2.2.2.2.1)
                       have HS5_ := (hb.cell (World.block_lt_of_cell? _ _ (hHeld.2.2.2.2.2))).trans (hHeld.2.2.2.2.2)
                       refine ⟨_, rfl, ?_⟩
                       have n0_ := Aside0.mk (Kd.V_below (by (with_reducible repeat (first | apply Kd.V_alloc | apply Kd.V_drewN | apply Kd.V_drew)); exact HO_8.out) hb)
                       have n1_ := Aside0.mk (Kd.V_below (by (with_reducible repeat (first | apply Kd.V_alloc | apply Kd.V_drewN | apply Kd.V_drew)); exact HO_9.out) hb)
                       have n2_ := Aside0.mk (Kd.R_below (by (with_reducible repeat (first | apply Kd.R_alloc | apply Kd.R_drewN | apply Kd.R_drew)); exact HO_11.out) hb)
                       have n3_ := Aside0.mk (Kd.V_below (by (with_reducible repeat (first | apply Kd.V_alloc | apply Kd.V_drewN | apply Kd.V_drew)); exact HO_14.out) hb)
                       have n4_ := Aside0.mk (Kd.R_below (by (with_reducible repeat (first | apply Kd.R_alloc | apply Kd.R_drewN | apply Kd.R_drew)); exact HO_15.out) hb)
                       have n5_ := Aside0.mk (blk_below (g := gb331) (o := .cells #[.int .i64 t324, .int .i64 t325, .int .i64 t326, .int .i64 t327] 23 (0, 0)) (by (with_reducible repeat (first | refine blk_drewN ?_ _ | refine blk_drew ?_ | refine blk_alloc ?_ _)); exact BK331.out) hb)
                       have n6_ := Aside0.mk (below_step (by repeat (first | (with_reducible first | exact HB.out | apply below_alloc | apply pw_below_drewN | apply below_drew1 | refine below_set ?_ GE331.out) | exact HB.out)) hb)
                       clear HO_8
                       clear HO_9
                       clear HO_11
                       clear HO_14
                       clear HO_15
                       clear BK331
                       clear HB
                       have HO_8 := n0_
                       have HO_9 := n1_
                       have HO_11 := n2_
                       have HO_14 := n3_
                       have HO_15 := n4_
                       have BK331 := n5_
                       have HB := n6_
                       clear n0_ n1_ n2_ n3_ n4_ n5_ n6_
                       (try clear hb)
                       (try clear hb2)
                       (try clear hk)
                       (try clear hi)
                       obtain ⟨Ao52, co52, eo52⟩ := Kd.V_slice HO_14.out
                       (first | subst eo52 | (injection eo52 with f1_ f2_ f3_; have f4_ := f1_.symm; have f5_ := f3_.symm; clear f1_ f2_ f3_; subst f4_; subst f5_))
                       refine hK.out _ _ ⟨(blk_cell BK331.out 0).trans rfl, (blk_cell BK331.out 1).trans rfl, (blk_cell BK331.out 2).trans rfl, (blk_cell BK331.out 3).trans rfl, HS4_, HS5_⟩ (fun hHeld => ?_)
                       clear hK K
                       refine norm_ (a' := ?_) ?_ ?_
                       rotate_left
                       ·show Act.put _ (some 108) _ = _
                        simp only [Act.put, setIfInBounds_toArray, set_cons_zero, set_cons_succ, i64_w, i32_w]
                        rfl
                       refine pure_ (i := 7) (N := some 109) (v := ?_) (a' := ?_) #[true, true, true, true, true, true, true, true, false, false, false, false, false, false, false, false, false] rfl rfl (any_of HT_.out (by kernel_rfl)) (fun _ _ _ h => h) (Or.inl ⟨by rfl, ?_⟩) ?_ ?_
                       rotate_left
                       ·intro w'
                        go_simp
                        first | with_reducible rfl | (rw [if_neg (by first | omega | (simp only [eq_iff_iff, iff_true, iff_false, decide_eq_true_eq, ByteArray.size_append, ByteArray.size_extract] at *; omega))])
                       rotate_left
                       ·simp only [Act.put, setIfInBounds_toArray, set_cons_zero, set_cons_succ, i64_w, i32_w]; rfl
                       refine pure_ (i := 9) (N := some 111) (v := ?_) (a' := ?_) #[true, true, true, true, true, true, true, true, false, true, false, false, false, false, false, false, false] rfl rfl (any_of HT_.out (by kernel_rfl)) (fun _ _ _ h => h) (Or.inl ⟨by rfl, ?_⟩) ?_ ?_
                       rotate_left
                       ·intro w'
                        go_simp
                        first | with_reducible rfl | (rw [if_neg (by first | omega | (simp only [eq_iff_iff, iff_true, iff_false, decide_eq_true_eq, ByteArray.size_append, ByteArray.size_extract] at *; omega))])
                       rotate_left
                       ·simp only [Act.put, setIfInBounds_toArray, set_cons_zero, set_cons_succ, i64_w, i32_w]; rfl
                       refine pure_ (i := 10) (N := some 112) (v := ?_) (a' := ?_) #[true, true, true, true, true, true, true, true, false, true, true, false, false, false, false, false, false] rfl rfl (any_of HT_.out (by kernel_rfl)) (fun _ _ _ h => h) (Or.inl ⟨by rfl, ?_⟩) ?_ ?_
                       rotate_left
                       ·intro w'
                        go_simp
                        first | with_reducible rfl | (rw [if_neg (by first | omega | (simp only [eq_iff_iff, iff_true, iff_false, decide_eq_true_eq, ByteArray.size_append, ByteArray.size_extract] at *; omega))])
                       rotate_left
                       ·simp only [Act.put, setIfInBounds_toArray, set_cons_zero, set_cons_succ, i64_w, i32_w]; rfl
                       refine pure_ (i := 11) (N := some 113) (v := ?_) (a' := ?_) #[true, true, true, true, true, true, true, true, false, true, true, true, false, false, false, false, false] rfl rfl (any_of HT_.out (by kernel_rfl)) (fun _ _ _ h => h) (Or.inl ⟨by rfl, ?_⟩) ?_ ?_
                       rotate_left
                       ·intro w'
                        go_simp
                        first | with_reducible rfl | (rw [if_neg (by first | omega | (simp only [eq_iff_iff, iff_true, iff_false, decide_eq_true_eq, ByteArray.size_append, ByteArray.size_extract] at *; omega))])
                       rotate_left
                       ·simp only [Act.put, setIfInBounds_toArray, set_cons_zero, set_cons_succ, i64_w, i32_w]; rfl
                       refine pure_ (i := 12) (N := some 114) (v := ?_) (a' := ?_) #[true, true, true, true, true, true, true, true, false, true, true, true, true, false, false, false, false] rfl rfl (any_of HT_.out (by kernel_rfl)) (fun _ _ _ h => h) (Or.inl ⟨by rfl, ?_⟩) ?_ ?_
                       rotate_left
                       ·intro w'
                        go_simp
                        first | with_reducible rfl | (rw [if_neg (by first | omega | (simp only [eq_iff_iff, iff_true, iff_false, decide_eq_true_eq, ByteArray.size_append, ByteArray.size_extract] at *; omega))])
                       rotate_left
                       ·simp only [Act.put, setIfInBounds_toArray, set_cons_zero, set_cons_succ, i64_w, i32_w]; rfl
                       refine take_ (i := 8) (N := some 110) (v := ?_) (a' := ?_) #[true, true, true, true, true, true, true, true, true, true, true, true, true, false, false, false, false] rfl rfl (take_ofW HT_.out HW_.out (by kernel_rfl)) (fun _ _ _ h => h) (Or.inl ⟨by rfl, ?_⟩) hHeld ?_ ?_
                       rotate_left
                       ·rintro w' ⟨s0, s1, s2, s3, s4, s5⟩
                        go_simp
                        first | with_reducible rfl | (rw [if_neg (by first | omega | (simp only [eq_iff_iff, iff_true, iff_false, decide_eq_true_eq, ByteArray.size_append, ByteArray.size_extract] at *; omega))])
                       rotate_left
                       ·simp only [Act.put, setIfInBounds_toArray, set_cons_zero, set_cons_succ, i64_w, i32_w]; rfl
                       refine take_ (i := 13) (N := some 115) (v := ?_) (a' := ?_) #[true, true, true, true, true, true, true, true, true, true, true, true, true, true, false, false, false] rfl rfl (take_ofW HT_.out HW_.out (by kernel_rfl)) (fun _ _ _ h => h) (Or.inl ⟨by rfl, ?_⟩) hHeld ?_ ?_
                       rotate_left
                       ·rintro w' ⟨s0, s1, s2, s3, s4, s5⟩
                        go_simp
                        first | with_reducible rfl | (rw [if_neg (by first | omega | (simp only [eq_iff_iff, iff_true, iff_false, decide_eq_true_eq, ByteArray.size_append, ByteArray.size_extract] at *; omega))])
                       rotate_left
                       ·simp only [Act.put, setIfInBounds_toArray, set_cons_zero, set_cons_succ, i64_w, i32_w]; rfl
                       refine one_ (i := 14) (N := some 116) #[true, true, true, true, true, true, true, true, true, true, true, true, true, true, true, false, false] rfl rfl (one_of HT_.out (by kernel_rfl)) (by decide) (fun K hK => ?_)
                       refine goes_ Try.func14 (by kernel_rfl) rfl #[.agg #[.int .i64 t324, .int .i64 t325, .int .i64 t326, .int .i64 t327], .slice Ao52 t335.length co52, .int .i64 (rd t338 x17_6)] (by rfl) rfl rfl (by (try simp only [List.map_toArray, List.map_cons, List.map_nil]); first | done | rfl | (simp only [List.length_drop, List.length_take]; rfl)) ?_
                       with_reducible refine (space_Taken.calls k6 t324 t325 t326 t327 _ _ t335 (rd t338 x17_6) false _ ?side1 ?side2 A42.out).mono ?_
                       (case side1 => repeat (first | exact (Kd.V_reads' HO_14.out).2.2 | (with_reducible refine Kd.C_alloc ?_ _) | (with_reducible refine Kd.C_drewN ?_ _) | (with_reducible refine Kd.C_drew ?_)))
                       (case side2 => exact (Kd.V_reads' HO_14.out).2.1)
                       rintro e w53 ⟨rfl, hb⟩
                       have HS4_ := (hb.cell (World.block_lt_of_cell? _ _ (hHeld.2.2.2.2.1))).trans (hHeld.2.2.2.2.1)
                       have HS5_ := (hb.cell (World.block_lt_of_cell? _ _ (hHeld.2.2.2.2.2))).trans (hHeld.2.2.2.2.2)
                       refine ⟨_, rfl, ?_⟩
                       have n0_ := Aside0.mk (Kd.V_below (by (with_reducible repeat (first | apply Kd.V_alloc | apply Kd.V_drewN | apply Kd.V_drew)); exact HO_8.out) hb)
                       have n1_ := Aside0.mk (Kd.V_below (by (with_reducible repeat (first | apply Kd.V_alloc | apply Kd.V_drewN | apply Kd.V_drew)); exact HO_9.out) hb)
                       have n2_ := Aside0.mk (Kd.R_below (by (with_reducible repeat (first | apply Kd.R_alloc | apply Kd.R_drewN | apply Kd.R_drew)); exact HO_11.out) hb)
                       have n3_ := Aside0.mk (Kd.V_below (by (with_reducible repeat (first | apply Kd.V_alloc | apply Kd.V_drewN | apply Kd.V_drew)); exact HO_14.out) hb)
                       have n4_ := Aside0.mk (Kd.R_below (by (with_reducible repeat (first | apply Kd.R_alloc | apply Kd.R_drewN | apply Kd.R_drew)); exact HO_15.out) hb)
                       have n5_ := Aside0.mk (blk_below (g := gb331) (o := .cells #[.int .i64 t324, .int .i64 t325, .int .i64 t326, .int .i64 t327] 23 (0, 0)) (by (with_reducible repeat (first | refine blk_drewN ?_ _ | refine blk_drew ?_ | refine blk_alloc ?_ _)); exact BK331.out) hb)
                       have n6_ := Aside0.mk (below_step (by repeat (first | (with_reducible first | exact HB.out | apply below_alloc | apply pw_below_drewN | apply below_drew1 | refine below_set ?_ GE331.out) | exact HB.out)) hb)
                       clear HO_8
                       clear HO_9
                       clear HO_11
                       clear HO_14
                       clear HO_15
                       clear BK331
                       clear HB
                       have HO_8 := n0_
                       have HO_9 := n1_
                       have HO_11 := n2_
                       have HO_14 := n3_
                       have HO_15 := n4_
                       have BK331 := n5_
                       have HB := n6_
                       clear n0_ n1_ n2_ n3_ n4_ n5_ n6_
                       (try clear hb)
                       (try clear hb2)
                       (try clear hk)
                       (try clear hi)
                       refine hK.out _ _ ⟨(blk_cell BK331.out 0).trans rfl, (blk_cell BK331.out 1).trans rfl, (blk_cell BK331.out 2).trans rfl, (blk_cell BK331.out 3).trans rfl, HS4_, HS5_⟩ (fun hHeld => ?_)
                       clear hK K
                       refine norm_ (a' := ?_) ?_ ?_
                       rotate_left
                       ·show Act.put _ (some 116) _ = _
                        simp only [Act.put, setIfInBounds_toArray, set_cons_zero, set_cons_succ, i64_w, i32_w]
                        rfl
                       refine pure_ (i := 15) (N := some 117) (v := ?_) (a' := ?_) #[true, true, true, true, true, true, true, true, true, true, true, true, true, true, true, true, false] rfl rfl (any_of HT_.out (by kernel_rfl)) (fun _ _ _ h => h) (Or.inl ⟨by rfl, ?_⟩) ?_ ?_
                       rotate_left
                       ·intro w'
                        go_simp
                        first | with_reducible rfl | (rw [if_neg (by first | omega | (simp only [eq_iff_iff, iff_true, iff_false, decide_eq_true_eq, ByteArray.size_append, ByteArray.size_extract] at *; omega))])
                       rotate_left
                       ·simp only [Act.put, setIfInBounds_toArray, set_cons_zero, set_cons_succ, i64_w, i32_w]; rfl
                       refine pure_ (i := 16) (N := some 118) (v := ?_) (a' := ?_) #[true, true, true, true, true, true, true, true, true, true, true, true, true, true, true, true, true] rfl rfl (any_of HT_.out (by kernel_rfl)) (fun _ _ _ h => h) (Or.inl ⟨by rfl, ?_⟩) ?_ ?_
                       rotate_left
                       ·intro w'
                        go_simp
                        first | with_reducible rfl | (rw [if_neg (by first | omega | (simp only [eq_iff_iff, iff_true, iff_false, decide_eq_true_eq, ByteArray.size_append, ByteArray.size_extract] at *; omega))])
                       rotate_left
                       ·simp only [Act.put, setIfInBounds_toArray, set_cons_zero, set_cons_succ, i64_w, i32_w]; rfl
                       refine done_ (done_of HT_.out (by kernel_rfl)) ?_
                       try go_wp2
                       go_ret
                       exact ⟨by first | rfl | (simp [errW_none, errW_some] <;> rfl) | (simp [*, errW_none, errW_some] <;> rfl), by repeat (first | (with_reducible first | exact HB.out | apply below_alloc | apply pw_below_drewN | apply below_drew1 | refine below_set ?_ GE331.out) | exact HB.out)⟩
                    ·rw [if_neg c36] at H
                     exact absurd H (by simp)
                   ·rw [if_neg c35] at H
                    have c35b0 : decide (x17_6 < (t338.length : Int)) = false := decide_eq_false c35
                    clear c35
                    by_cases c54 : x11_2.length + t338.length < 17592186044416
                    ·rw [if_pos c54] at H
                     have LMc54 := Aside0.mk c54
                     clear c54
                     obtain ⟨y346, hy346⟩ : ∃ y_ : List Int, y_ = (x11_2 ++ t338) := ⟨_, rfl⟩
                     replace H : ((space_Free.f k6 t324 t325 t326 t327 t335).bind fun t349 => (if t349 = (wrap64 (x10_2 - (t338.length : Int))) then ((space_Right.f k6 t324 t325 t326 t327 t335).bind fun t350 => (if t350 = true then (lockgatelaw17_SpaceTurns.l0 k6 l1 t323 t335 t328 (wrap64 (x10_2 - (t338.length : Int))) y346 (wrap64 (x12_2 + 1)) t324 t325 t326 t327) else (some false))) else (some false))) = some r := by first | (rw [hy346]; with_reducible exact H) | (have H2_ := (Option.bind_some _ _).symm.trans H; rw [hy346]; with_reducible exact H2_) | (have H2_ := (Option.bind_some _ _).symm.trans H; with_reducible exact H2_) | with_reducible exact H | (rw [hy346]; exact H) | exact H
                     have Ny346 := Aside0.mk hy346
                     clear hy346
                     replace H := Option.bind_eq_some_iff.mp H
                     obtain ⟨t349, A550, H⟩ := H
                     replace H : (if t349 = (wrap64 (x10_2 - (t338.length : Int))) then ((space_Right.f k6 t324 t325 t326 t327 t335).bind fun t350 => (if t350 = true then (lockgatelaw17_SpaceTurns.l0 k6 l1 t323 t335 t328 (wrap64 (x10_2 - (t338.length : Int))) y346 (wrap64 (x12_2 + 1)) t324 t325 t326 t327) else (some false))) else (some false)) = some r := H
                     have A55 := Aside0.mk A550
                     clear A550
                     by_cases c56 : t349 = (wrap64 (x10_2 - (t338.length : Int)))
                     ·rw [if_pos c56] at H
                      have c56b0 : (t349 == (wrap64 (x10_2 - (t338.length : Int)))) = true := beq_iff_eq.mpr c56
                      have c56b1 : (t349 != (wrap64 (x10_2 - (t338.length : Int)))) = false := bne_eq_false_iff_eq.mpr c56
                      clear c56
                      replace H := Option.bind_eq_some_iff.mp H
                      obtain ⟨t350, A570, H⟩ := H
                      replace H : (if t350 = true then (lockgatelaw17_SpaceTurns.l0 k6 l1 t323 t335 t328 (wrap64 (x10_2 - (t338.length : Int))) y346 (wrap64 (x12_2 + 1)) t324 t325 t326 t327) else (some false)) = some r := H
                      have A57 := Aside0.mk A570
                      clear A570
                      by_cases c58 : t350 = true
                      ·subst c58
                       have H1 : (lockgatelaw17_SpaceTurns.l0 k6 l1 t323 t335 t328 (wrap64 (x10_2 - (t338.length : Int))) y346 (wrap64 (x12_2 + 1)) t324 t325 t326 t327) = some r := by rw [if_pos rfl] at H; exact H
                       clear H
                       have H := H1
                       clear H1
                       have H' := Aside0.mk H
                       clear H
                       obtain ⟨Ao59, co59, eo59⟩ := Kd.R_slice HO_15.out
                       subst eo59
                       go_wp2_with (first | ((with_reducible refine gate_builtin (b := .append) (xs := #[.tmp 124, .tmp 125]) rfl ?_); (try (refine gate_guard (by rfl) ?_; dsimp only)); at_builtin; refine Kd.R_append_rows (Kd.int .i64) (w0 := w) w.heap.size rfl (.tmp 124) (.tmp 125) 30 3 (.int .i64 0) 8 rfl Try.underlying30 info3 rfl (by decide) (by omega) u11 x11_2 t338 _ _ _ (fun k_ => some k_ ≠ (.slice Ao59 t338.length co59 : Value).ownBlock) (fun _ => False) rfl rfl ?aO ?aR (fun _ _ h => h) (fun _ h => h.elim) ?aF ?aB ?aS ?aL ?_; (case aR => repeat (first | exact (Kd.R_reads' HO_15.out).2.2 | (with_reducible refine Kd.C_alloc ?_ _) | (with_reducible refine Kd.C_drewN ?_ _) | (with_reducible refine Kd.C_drew ?_))); (case aB => exact (by repeat (first | (with_reducible first | exact HB.out | apply below_alloc | apply pw_below_drewN | apply below_drew1 | refine below_set ?_ GE331.out) | exact HB.out))); (case aF => exact (fun k_ hk => Kd.fresh' (Kd.R_lt (by (with_reducible repeat (first | apply Kd.R_alloc | apply Kd.R_drewN | apply Kd.R_drew)); exact HO_15.out)) k_ hk)); (case aO => exact (by (with_reducible repeat (first | apply Kd.R_alloc | apply Kd.R_drewN | apply Kd.R_drew)); exact HO_11.out)); (case aS => exact (below_size (by repeat (first | (with_reducible first | exact HB.out | apply below_alloc | apply pw_below_drewN | apply below_drew1 | refine below_set ?_ GE331.out) | exact HB.out)))); (case aL => have := LMc54.out; omega); intro v347 w60 ho hb hg hat; rw [← Ny346.out] at ho; have n0_ := Aside0.mk (Kd.V_afterv (ok := (fun k_ => some k_ ≠ (.slice Ao59 t338.length co59 : Value).ownBlock ∧ k_ ≠ gb331)) (by (with_reducible repeat (first | apply Kd.V_alloc | apply Kd.V_drewN | apply Kd.V_drew)); exact Kd.V_mono HO_8.out (fun _ hk => ⟨⟨hk.2.1, hk.2.2⟩, hk.1⟩)) hg hat); have n1_ := Aside0.mk (Kd.V_afterv (ok := (fun k_ => some k_ ≠ (.slice Ao59 t338.length co59 : Value).ownBlock ∧ k_ ≠ gb331)) (by (with_reducible repeat (first | apply Kd.V_alloc | apply Kd.V_drewN | apply Kd.V_drew)); exact Kd.V_mono HO_9.out (fun _ hk => ⟨⟨hk.2.1, hk.2.2⟩, hk.1⟩)) hg hat); have n2_ := Aside0.mk (Kd.V_afterv (ok := (fun k_ => some k_ ≠ (.slice Ao59 t338.length co59 : Value).ownBlock ∧ k_ ≠ gb331)) (by (with_reducible repeat (first | apply Kd.V_alloc | apply Kd.V_drewN | apply Kd.V_drew)); exact Kd.V_mono HO_14.out (fun _ hk => ⟨⟨hk.2.1, hk.2.2⟩, hk.1⟩)) hg hat); have n3_ := Aside0.mk (Kd.R_after (ok := (fun _ => True)) (by (with_reducible repeat (first | apply Kd.R_alloc | apply Kd.R_drewN | apply Kd.R_drew)); exact Kd.R_mono HO_15.out (fun _ hk => ⟨trivial, hk⟩)) hg hat); have n4_ := Aside0.mk (blk_grown (g := gb331) (o := .cells #[.int .i64 t324, .int .i64 t325, .int .i64 t326, .int .i64 t327] 23 (0, 0)) (by (with_reducible repeat (first | refine blk_drewN ?_ _ | refine blk_drew ?_ | refine blk_alloc ?_ _)); exact BK331.out) hg (Kd.R_ne HO_11.out BK331.out (by decide))); have n5_ := Aside0.mk (hb); have n6_ := Aside0.mk (ho); clear HO_8; clear HO_9; clear HO_14; clear HO_15; clear BK331; clear HB; clear HO_11; have HO_8 := n0_; have HO_9 := n1_; have HO_14 := n2_; have HO_15 := n3_; have BK331 := n4_; have HB := n5_; have HO348 := n6_; clear n0_ n1_ n2_ n3_ n4_ n5_ n6_; clear ho hb hg hat; have hcz61_0 : w60.cell? ⟨gb331, 0, none⟩ = some (.int .i64 t324) := (blk_cell BK331.out 0).trans rfl; have hcz61_1 : w60.cell? ⟨gb331, 1, none⟩ = some (.int .i64 t325) := (blk_cell BK331.out 1).trans rfl; have hcz61_2 : w60.cell? ⟨gb331, 2, none⟩ = some (.int .i64 t326) := (blk_cell BK331.out 2).trans rfl; have hcz61_3 : w60.cell? ⟨gb331, 3, none⟩ = some (.int .i64 t327) := (blk_cell BK331.out 3).trans rfl; have hfz61_0 := blk_frozen BK331.out 0; have hfz61_1 := blk_frozen BK331.out 1; have hfz61_2 := blk_frozen BK331.out 2; have hfz61_3 := blk_frozen BK331.out 3; obtain ⟨Ao62, co62, eo62⟩ := Kd.V_slice HO_14.out; subst eo62) | ((with_reducible refine gate_callee (f := 12) rfl ?_); refine goesL_ (some 129) rfl rfl Try.func12 (by kernel_rfl) rfl #[.agg #[.int .i64 t324, .int .i64 t325, .int .i64 t326, .int .i64 t327], .slice Ao62 t335.length co62] rfl (by (try simp only [List.map_toArray, List.map_cons, List.map_nil]); first | done | rfl | (simp only [List.length_drop, List.length_take]; rfl)) ?_; (with_reducible refine (space_Free.calls k6 t324 t325 t326 t327 _ _ t335 t349 _ ?side1 ?side2 A55.out).mono ?_); (case side1 => repeat (first | exact (Kd.V_reads' HO_14.out).2.2 | (with_reducible refine Kd.C_alloc ?_ _) | (with_reducible refine Kd.C_drewN ?_ _) | (with_reducible refine Kd.C_drew ?_))); (case side2 => exact (Kd.V_reads' HO_14.out).2.1); rintro e w63 ⟨rfl, hb⟩; refine ⟨_, rfl, ?_⟩; have n0_ := Aside0.mk (Kd.V_below (by (with_reducible repeat (first | apply Kd.V_alloc | apply Kd.V_drewN | apply Kd.V_drew)); exact HO_8.out) hb); have n1_ := Aside0.mk (Kd.V_below (by (with_reducible repeat (first | apply Kd.V_alloc | apply Kd.V_drewN | apply Kd.V_drew)); exact HO_9.out) hb); have n2_ := Aside0.mk (Kd.V_below (by (with_reducible repeat (first | apply Kd.V_alloc | apply Kd.V_drewN | apply Kd.V_drew)); exact HO_14.out) hb); have n3_ := Aside0.mk (Kd.R_below (by (with_reducible repeat (first | apply Kd.R_alloc | apply Kd.R_drewN | apply Kd.R_drew)); exact HO_15.out) hb); have n4_ := Aside0.mk (Kd.R_below (by (with_reducible repeat (first | apply Kd.R_alloc | apply Kd.R_drewN | apply Kd.R_drew)); exact HO348.out) hb); have n5_ := Aside0.mk (blk_below (g := gb331) (o := .cells #[.int .i64 t324, .int .i64 t325, .int .i64 t326, .int .i64 t327] 23 (0, 0)) (by (with_reducible repeat (first | refine blk_drewN ?_ _ | refine blk_drew ?_ | refine blk_alloc ?_ _)); exact BK331.out) hb); have n6_ := Aside0.mk (below_step (by repeat (first | (with_reducible first | exact HB.out | apply below_alloc | apply pw_below_drewN | apply below_drew1 | refine below_set ?_ GE331.out) | exact HB.out)) hb); clear HO_8; clear HO_9; clear HO_14; clear HO_15; clear HO348; clear BK331; clear HB; have HO_8 := n0_; have HO_9 := n1_; have HO_14 := n2_; have HO_15 := n3_; have HO348 := n4_; have BK331 := n5_; have HB := n6_; clear n0_ n1_ n2_ n3_ n4_ n5_ n6_; (try clear hb); (try clear hb2); (try clear hk); (try clear hi); have hcz64_0 : w63.cell? ⟨gb331, 0, none⟩ = some (.int .i64 t324) := (blk_cell BK331.out 0).trans rfl; have hcz64_1 : w63.cell? ⟨gb331, 1, none⟩ = some (.int .i64 t325) := (blk_cell BK331.out 1).trans rfl; have hcz64_2 : w63.cell? ⟨gb331, 2, none⟩ = some (.int .i64 t326) := (blk_cell BK331.out 2).trans rfl; have hcz64_3 : w63.cell? ⟨gb331, 3, none⟩ = some (.int .i64 t327) := (blk_cell BK331.out 3).trans rfl; have hfz64_0 := blk_frozen BK331.out 0; have hfz64_1 := blk_frozen BK331.out 1; have hfz64_2 := blk_frozen BK331.out 2; have hfz64_3 := blk_frozen BK331.out 3) | (go_at_call 10; (with_reducible refine (space_Right.calls k6 t324 t325 t326 t327 _ _ t335 true _ ?side1 ?side2 A57.out).mono ?_); (case side1 => repeat (first | exact (Kd.V_reads' HO_14.out).2.2 | (with_reducible refine Kd.C_alloc ?_ _) | (with_reducible refine Kd.C_drewN ?_ _) | (with_reducible refine Kd.C_drew ?_))); (case side2 => exact (Kd.V_reads' HO_14.out).2.1); rintro e w65 ⟨rfl, hb⟩; have n0_ := Aside0.mk (Kd.V_below (by (with_reducible repeat (first | apply Kd.V_alloc | apply Kd.V_drewN | apply Kd.V_drew)); exact HO_8.out) hb); have n1_ := Aside0.mk (Kd.V_below (by (with_reducible repeat (first | apply Kd.V_alloc | apply Kd.V_drewN | apply Kd.V_drew)); exact HO_9.out) hb); have n2_ := Aside0.mk (Kd.V_below (by (with_reducible repeat (first | apply Kd.V_alloc | apply Kd.V_drewN | apply Kd.V_drew)); exact HO_14.out) hb); have n3_ := Aside0.mk (Kd.R_below (by (with_reducible repeat (first | apply Kd.R_alloc | apply Kd.R_drewN | apply Kd.R_drew)); exact HO_15.out) hb); have n4_ := Aside0.mk (Kd.R_below (by (with_reducible repeat (first | apply Kd.R_alloc | apply Kd.R_drewN | apply Kd.R_drew)); exact HO348.out) hb); have n5_ := Aside0.mk (blk_below (g := gb331) (o := .cells #[.int .i64 t324, .int .i64 t325, .int .i64 t326, .int .i64 t327] 23 (0, 0)) (by (with_reducible repeat (first | refine blk_drewN ?_ _ | refine blk_drew ?_ | refine blk_alloc ?_ _)); exact BK331.out) hb); have n6_ := Aside0.mk (below_step (by repeat (first | (with_reducible first | exact HB.out | apply below_alloc | apply pw_below_drewN | apply below_drew1 | refine below_set ?_ GE331.out) | exact HB.out)) hb); clear HO_8; clear HO_9; clear HO_14; clear HO_15; clear HO348; clear BK331; clear HB; have HO_8 := n0_; have HO_9 := n1_; have HO_14 := n2_; have HO_15 := n3_; have HO348 := n4_; have BK331 := n5_; have HB := n6_; clear n0_ n1_ n2_ n3_ n4_ n5_ n6_; (try clear hb); (try clear hb2); (try clear hk); (try clear hi)))
                       go_roundg k6
                       case measure => have := HJ3.out; have := HK2.out; have := HJ13.out; have := HJ18.out; have := HJ23.out; have := HK6.out; omega
                       case rel => exact ⟨(t335), (wrap64 (x10_2 - (t338.length : Int))), (y346), (wrap64 (x12_2 + 1)), (by first | rfl | (simp; done) | (simp [*]; done)), (by first | rfl | (simp; done) | (simp [*]; done)), H', ⟨by have := HJ3.out; have := HK2.out; have := HJ13.out; have := HJ18.out; have := HJ23.out; have := HK6.out; omega⟩, ⟨by (with_reducible repeat (first | apply Kd.V_alloc | apply Kd.V_drewN | apply Kd.V_drew)); exact Kd.V_mono HO_14.out (fun _ hk => by first | exact ⟨hk.2, hk.1.2⟩ | exact hk.2 | exact hk.1.2 | exact hk.1)⟩, ⟨by (with_reducible repeat (first | apply Kd.V_alloc | apply Kd.V_drewN | apply Kd.V_drew)); exact Kd.V_mono HO_9.out (fun _ hk => by first | exact ⟨hk.2, hk.1.2⟩ | exact hk.2 | exact hk.1.2 | exact hk.1)⟩, ⟨by (with_reducible repeat (first | apply Kd.R_alloc | apply Kd.R_drewN | apply Kd.R_drew)); exact Kd.R_mono HO348.out (fun _ hk => trivial)⟩, ⟨by (with_reducible repeat (first | refine blk_drewN ?_ _ | refine blk_drew ?_ | refine blk_alloc ?_ _)); exact BK331.out⟩, ⟨by repeat (first | (with_reducible first | exact HB.out | apply below_alloc | apply pw_below_drewN | apply below_drew1 | refine below_set ?_ GE331.out) | exact HB.out)⟩⟩
                      ·replace c58 := Bool.eq_false_iff.mpr c58
                       subst c58
                       have H1 : (some false) = some r := by rw [if_neg (show ¬ (false = true) by decide)] at H; exact H
                       clear H
                       have H := H1
                       clear H1
                       obtain rfl := Option.some.inj H
                       obtain ⟨Ao66, co66, eo66⟩ := Kd.R_slice HO_15.out
                       subst eo66
                       go_wp2_with (first | ((with_reducible refine gate_builtin (b := .append) (xs := #[.tmp 124, .tmp 125]) rfl ?_); (try (refine gate_guard (by rfl) ?_; dsimp only)); at_builtin; refine Kd.R_append_rows (Kd.int .i64) (w0 := w) w.heap.size rfl (.tmp 124) (.tmp 125) 30 3 (.int .i64 0) 8 rfl Try.underlying30 info3 rfl (by decide) (by omega) u11 x11_2 t338 _ _ _ (fun k_ => some k_ ≠ (.slice Ao66 t338.length co66 : Value).ownBlock) (fun _ => False) rfl rfl ?aO ?aR (fun _ _ h => h) (fun _ h => h.elim) ?aF ?aB ?aS ?aL ?_; (case aR => repeat (first | exact (Kd.R_reads' HO_15.out).2.2 | (with_reducible refine Kd.C_alloc ?_ _) | (with_reducible refine Kd.C_drewN ?_ _) | (with_reducible refine Kd.C_drew ?_))); (case aB => exact (by repeat (first | (with_reducible first | exact HB.out | apply below_alloc | apply pw_below_drewN | apply below_drew1 | refine below_set ?_ GE331.out) | exact HB.out))); (case aF => exact (fun k_ hk => Kd.fresh' (Kd.R_lt (by (with_reducible repeat (first | apply Kd.R_alloc | apply Kd.R_drewN | apply Kd.R_drew)); exact HO_15.out)) k_ hk)); (case aO => exact (by (with_reducible repeat (first | apply Kd.R_alloc | apply Kd.R_drewN | apply Kd.R_drew)); exact HO_11.out)); (case aS => exact (below_size (by repeat (first | (with_reducible first | exact HB.out | apply below_alloc | apply pw_below_drewN | apply below_drew1 | refine below_set ?_ GE331.out) | exact HB.out)))); (case aL => have := LMc54.out; omega); intro v347 w67 ho hb hg hat; rw [← Ny346.out] at ho; have n0_ := Aside0.mk (Kd.V_afterv (ok := (fun k_ => some k_ ≠ (.slice Ao66 t338.length co66 : Value).ownBlock ∧ k_ ≠ gb331)) (by (with_reducible repeat (first | apply Kd.V_alloc | apply Kd.V_drewN | apply Kd.V_drew)); exact Kd.V_mono HO_8.out (fun _ hk => ⟨⟨hk.2.1, hk.2.2⟩, hk.1⟩)) hg hat); have n1_ := Aside0.mk (Kd.V_afterv (ok := (fun k_ => some k_ ≠ (.slice Ao66 t338.length co66 : Value).ownBlock ∧ k_ ≠ gb331)) (by (with_reducible repeat (first | apply Kd.V_alloc | apply Kd.V_drewN | apply Kd.V_drew)); exact Kd.V_mono HO_9.out (fun _ hk => ⟨⟨hk.2.1, hk.2.2⟩, hk.1⟩)) hg hat); have n2_ := Aside0.mk (Kd.V_afterv (ok := (fun k_ => some k_ ≠ (.slice Ao66 t338.length co66 : Value).ownBlock ∧ k_ ≠ gb331)) (by (with_reducible repeat (first | apply Kd.V_alloc | apply Kd.V_drewN | apply Kd.V_drew)); exact Kd.V_mono HO_14.out (fun _ hk => ⟨⟨hk.2.1, hk.2.2⟩, hk.1⟩)) hg hat); have n3_ := Aside0.mk (Kd.R_after (ok := (fun _ => True)) (by (with_reducible repeat (first | apply Kd.R_alloc | apply Kd.R_drewN | apply Kd.R_drew)); exact Kd.R_mono HO_15.out (fun _ hk => ⟨trivial, hk⟩)) hg hat); have n4_ := Aside0.mk (blk_grown (g := gb331) (o := .cells #[.int .i64 t324, .int .i64 t325, .int .i64 t326, .int .i64 t327] 23 (0, 0)) (by (with_reducible repeat (first | refine blk_drewN ?_ _ | refine blk_drew ?_ | refine blk_alloc ?_ _)); exact BK331.out) hg (Kd.R_ne HO_11.out BK331.out (by decide))); have n5_ := Aside0.mk (hb); have n6_ := Aside0.mk (ho); clear HO_8; clear HO_9; clear HO_14; clear HO_15; clear BK331; clear HB; clear HO_11; have HO_8 := n0_; have HO_9 := n1_; have HO_14 := n2_; have HO_15 := n3_; have BK331 := n4_; have HB := n5_; have HO348 := n6_; clear n0_ n1_ n2_ n3_ n4_ n5_ n6_; clear ho hb hg hat; have hcz68_0 : w67.cell? ⟨gb331, 0, none⟩ = some (.int .i64 t324) := (blk_cell BK331.out 0).trans rfl; have hcz68_1 : w67.cell? ⟨gb331, 1, none⟩ = some (.int .i64 t325) := (blk_cell BK331.out 1).trans rfl; have hcz68_2 : w67.cell? ⟨gb331, 2, none⟩ = some (.int .i64 t326) := (blk_cell BK331.out 2).trans rfl; have hcz68_3 : w67.cell? ⟨gb331, 3, none⟩ = some (.int .i64 t327) := (blk_cell BK331.out 3).trans rfl; have hfz68_0 := blk_frozen BK331.out 0; have hfz68_1 := blk_frozen BK331.out 1; have hfz68_2 := blk_frozen BK331.out 2; have hfz68_3 := blk_frozen BK331.out 3; obtain ⟨Ao69, co69, eo69⟩ := Kd.V_slice HO_14.out; subst eo69) | ((with_reducible refine gate_callee (f := 12) rfl ?_); refine goesL_ (some 129) rfl rfl Try.func12 (by kernel_rfl) rfl #[.agg #[.int .i64 t324, .int .i64 t325, .int .i64 t326, .int .i64 t327], .slice Ao69 t335.length co69] rfl (by (try simp only [List.map_toArray, List.map_cons, List.map_nil]); first | done | rfl | (simp only [List.length_drop, List.length_take]; rfl)) ?_; (with_reducible refine (space_Free.calls k6 t324 t325 t326 t327 _ _ t335 t349 _ ?side1 ?side2 A55.out).mono ?_); (case side1 => repeat (first | exact (Kd.V_reads' HO_14.out).2.2 | (with_reducible refine Kd.C_alloc ?_ _) | (with_reducible refine Kd.C_drewN ?_ _) | (with_reducible refine Kd.C_drew ?_))); (case side2 => exact (Kd.V_reads' HO_14.out).2.1); rintro e w70 ⟨rfl, hb⟩; refine ⟨_, rfl, ?_⟩; have n0_ := Aside0.mk (Kd.V_below (by (with_reducible repeat (first | apply Kd.V_alloc | apply Kd.V_drewN | apply Kd.V_drew)); exact HO_8.out) hb); have n1_ := Aside0.mk (Kd.V_below (by (with_reducible repeat (first | apply Kd.V_alloc | apply Kd.V_drewN | apply Kd.V_drew)); exact HO_9.out) hb); have n2_ := Aside0.mk (Kd.V_below (by (with_reducible repeat (first | apply Kd.V_alloc | apply Kd.V_drewN | apply Kd.V_drew)); exact HO_14.out) hb); have n3_ := Aside0.mk (Kd.R_below (by (with_reducible repeat (first | apply Kd.R_alloc | apply Kd.R_drewN | apply Kd.R_drew)); exact HO_15.out) hb); have n4_ := Aside0.mk (Kd.R_below (by (with_reducible repeat (first | apply Kd.R_alloc | apply Kd.R_drewN | apply Kd.R_drew)); exact HO348.out) hb); have n5_ := Aside0.mk (blk_below (g := gb331) (o := .cells #[.int .i64 t324, .int .i64 t325, .int .i64 t326, .int .i64 t327] 23 (0, 0)) (by (with_reducible repeat (first | refine blk_drewN ?_ _ | refine blk_drew ?_ | refine blk_alloc ?_ _)); exact BK331.out) hb); have n6_ := Aside0.mk (below_step (by repeat (first | (with_reducible first | exact HB.out | apply below_alloc | apply pw_below_drewN | apply below_drew1 | refine below_set ?_ GE331.out) | exact HB.out)) hb); clear HO_8; clear HO_9; clear HO_14; clear HO_15; clear HO348; clear BK331; clear HB; have HO_8 := n0_; have HO_9 := n1_; have HO_14 := n2_; have HO_15 := n3_; have HO348 := n4_; have BK331 := n5_; have HB := n6_; clear n0_ n1_ n2_ n3_ n4_ n5_ n6_; (try clear hb); (try clear hb2); (try clear hk); (try clear hi); have hcz71_0 : w70.cell? ⟨gb331, 0, none⟩ = some (.int .i64 t324) := (blk_cell BK331.out 0).trans rfl; have hcz71_1 : w70.cell? ⟨gb331, 1, none⟩ = some (.int .i64 t325) := (blk_cell BK331.out 1).trans rfl; have hcz71_2 : w70.cell? ⟨gb331, 2, none⟩ = some (.int .i64 t326) := (blk_cell BK331.out 2).trans rfl; have hcz71_3 : w70.cell? ⟨gb331, 3, none⟩ = some (.int .i64 t327) := (blk_cell BK331.out 3).trans rfl; have hfz71_0 := blk_frozen BK331.out 0; have hfz71_1 := blk_frozen BK331.out 1; have hfz71_2 := blk_frozen BK331.out 2; have hfz71_3 := blk_frozen BK331.out 3) | (go_at_call 10; (with_reducible refine (space_Right.calls k6 t324 t325 t326 t327 _ _ t335 false _ ?side1 ?side2 A57.out).mono ?_); (case side1 => repeat (first | exact (Kd.V_reads' HO_14.out).2.2 | (with_reducible refine Kd.C_alloc ?_ _) | (with_reducible refine Kd.C_drewN ?_ _) | (with_reducible refine Kd.C_drew ?_))); (case side2 => exact (Kd.V_reads' HO_14.out).2.1); rintro e w72 ⟨rfl, hb⟩; have n0_ := Aside0.mk (Kd.V_below (by (with_reducible repeat (first | apply Kd.V_alloc | apply Kd.V_drewN | apply Kd.V_drew)); exact HO_8.out) hb); have n1_ := Aside0.mk (Kd.V_below (by (with_reducible repeat (first | apply Kd.V_alloc | apply Kd.V_drewN | apply Kd.V_drew)); exact HO_9.out) hb); have n2_ := Aside0.mk (Kd.V_below (by (with_reducible repeat (first | apply Kd.V_alloc | apply Kd.V_drewN | apply Kd.V_drew)); exact HO_14.out) hb); have n3_ := Aside0.mk (Kd.R_below (by (with_reducible repeat (first | apply Kd.R_alloc | apply Kd.R_drewN | apply Kd.R_drew)); exact HO_15.out) hb); have n4_ := Aside0.mk (Kd.R_below (by (with_reducible repeat (first | apply Kd.R_alloc | apply Kd.R_drewN | apply Kd.R_drew)); exact HO348.out) hb); have n5_ := Aside0.mk (blk_below (g := gb331) (o := .cells #[.int .i64 t324, .int .i64 t325, .int .i64 t326, .int .i64 t327] 23 (0, 0)) (by (with_reducible repeat (first | refine blk_drewN ?_ _ | refine blk_drew ?_ | refine blk_alloc ?_ _)); exact BK331.out) hb); have n6_ := Aside0.mk (below_step (by repeat (first | (with_reducible first | exact HB.out | apply below_alloc | apply pw_below_drewN | apply below_drew1 | refine below_set ?_ GE331.out) | exact HB.out)) hb); clear HO_8; clear HO_9; clear HO_14; clear HO_15; clear HO348; clear BK331; clear HB; have HO_8 := n0_; have HO_9 := n1_; have HO_14 := n2_; have HO_15 := n3_; have HO348 := n4_; have BK331 := n5_; have HB := n6_; clear n0_ n1_ n2_ n3_ n4_ n5_ n6_; (try clear hb); (try clear hb2); (try clear hk); (try clear hi)))
                       go_ret
                       exact ⟨by first | rfl | (simp [errW_none, errW_some] <;> rfl) | (simp [*, errW_none, errW_some] <;> rfl), by repeat (first | (with_reducible first | exact HB.out | apply below_alloc | apply pw_below_drewN | apply below_drew1 | refine below_set ?_ GE331.out) | exact HB.out)⟩
                     ·rw [if_neg c56] at H
                      have c56b0 : (t349 == (wrap64 (x10_2 - (t338.length : Int)))) = false := beq_eq_false_iff_ne.mpr c56
                      have c56b1 : (t349 != (wrap64 (x10_2 - (t338.length : Int)))) = true := bne_iff_ne.mpr c56
                      obtain rfl := Option.some.inj H
                      obtain ⟨Ao73, co73, eo73⟩ := Kd.R_slice HO_15.out
                      subst eo73
                      go_wp2_with (first | ((with_reducible refine gate_builtin (b := .append) (xs := #[.tmp 124, .tmp 125]) rfl ?_); (try (refine gate_guard (by rfl) ?_; dsimp only)); at_builtin; refine Kd.R_append_rows (Kd.int .i64) (w0 := w) w.heap.size rfl (.tmp 124) (.tmp 125) 30 3 (.int .i64 0) 8 rfl Try.underlying30 info3 rfl (by decide) (by omega) u11 x11_2 t338 _ _ _ (fun k_ => some k_ ≠ (.slice Ao73 t338.length co73 : Value).ownBlock) (fun _ => False) rfl rfl ?aO ?aR (fun _ _ h => h) (fun _ h => h.elim) ?aF ?aB ?aS ?aL ?_; (case aR => repeat (first | exact (Kd.R_reads' HO_15.out).2.2 | (with_reducible refine Kd.C_alloc ?_ _) | (with_reducible refine Kd.C_drewN ?_ _) | (with_reducible refine Kd.C_drew ?_))); (case aB => exact (by repeat (first | (with_reducible first | exact HB.out | apply below_alloc | apply pw_below_drewN | apply below_drew1 | refine below_set ?_ GE331.out) | exact HB.out))); (case aF => exact (fun k_ hk => Kd.fresh' (Kd.R_lt (by (with_reducible repeat (first | apply Kd.R_alloc | apply Kd.R_drewN | apply Kd.R_drew)); exact HO_15.out)) k_ hk)); (case aO => exact (by (with_reducible repeat (first | apply Kd.R_alloc | apply Kd.R_drewN | apply Kd.R_drew)); exact HO_11.out)); (case aS => exact (below_size (by repeat (first | (with_reducible first | exact HB.out | apply below_alloc | apply pw_below_drewN | apply below_drew1 | refine below_set ?_ GE331.out) | exact HB.out)))); (case aL => have := LMc54.out; omega); intro v347 w74 ho hb hg hat; rw [← Ny346.out] at ho; have n0_ := Aside0.mk (Kd.V_afterv (ok := (fun k_ => some k_ ≠ (.slice Ao73 t338.length co73 : Value).ownBlock ∧ k_ ≠ gb331)) (by (with_reducible repeat (first | apply Kd.V_alloc | apply Kd.V_drewN | apply Kd.V_drew)); exact Kd.V_mono HO_8.out (fun _ hk => ⟨⟨hk.2.1, hk.2.2⟩, hk.1⟩)) hg hat); have n1_ := Aside0.mk (Kd.V_afterv (ok := (fun k_ => some k_ ≠ (.slice Ao73 t338.length co73 : Value).ownBlock ∧ k_ ≠ gb331)) (by (with_reducible repeat (first | apply Kd.V_alloc | apply Kd.V_drewN | apply Kd.V_drew)); exact Kd.V_mono HO_9.out (fun _ hk => ⟨⟨hk.2.1, hk.2.2⟩, hk.1⟩)) hg hat); have n2_ := Aside0.mk (Kd.V_afterv (ok := (fun k_ => some k_ ≠ (.slice Ao73 t338.length co73 : Value).ownBlock ∧ k_ ≠ gb331)) (by (with_reducible repeat (first | apply Kd.V_alloc | apply Kd.V_drewN | apply Kd.V_drew)); exact Kd.V_mono HO_14.out (fun _ hk => ⟨⟨hk.2.1, hk.2.2⟩, hk.1⟩)) hg hat); have n3_ := Aside0.mk (Kd.R_after (ok := (fun _ => True)) (by (with_reducible repeat (first | apply Kd.R_alloc | apply Kd.R_drewN | apply Kd.R_drew)); exact Kd.R_mono HO_15.out (fun _ hk => ⟨trivial, hk⟩)) hg hat); have n4_ := Aside0.mk (blk_grown (g := gb331) (o := .cells #[.int .i64 t324, .int .i64 t325, .int .i64 t326, .int .i64 t327] 23 (0, 0)) (by (with_reducible repeat (first | refine blk_drewN ?_ _ | refine blk_drew ?_ | refine blk_alloc ?_ _)); exact BK331.out) hg (Kd.R_ne HO_11.out BK331.out (by decide))); have n5_ := Aside0.mk (hb); have n6_ := Aside0.mk (ho); clear HO_8; clear HO_9; clear HO_14; clear HO_15; clear BK331; clear HB; clear HO_11; have HO_8 := n0_; have HO_9 := n1_; have HO_14 := n2_; have HO_15 := n3_; have BK331 := n4_; have HB := n5_; have HO348 := n6_; clear n0_ n1_ n2_ n3_ n4_ n5_ n6_; clear ho hb hg hat; have hcz75_0 : w74.cell? ⟨gb331, 0, none⟩ = some (.int .i64 t324) := (blk_cell BK331.out 0).trans rfl; have hcz75_1 : w74.cell? ⟨gb331, 1, none⟩ = some (.int .i64 t325) := (blk_cell BK331.out 1).trans rfl; have hcz75_2 : w74.cell? ⟨gb331, 2, none⟩ = some (.int .i64 t326) := (blk_cell BK331.out 2).trans rfl; have hcz75_3 : w74.cell? ⟨gb331, 3, none⟩ = some (.int .i64 t327) := (blk_cell BK331.out 3).trans rfl; have hfz75_0 := blk_frozen BK331.out 0; have hfz75_1 := blk_frozen BK331.out 1; have hfz75_2 := blk_frozen BK331.out 2; have hfz75_3 := blk_frozen BK331.out 3; obtain ⟨Ao76, co76, eo76⟩ := Kd.V_slice HO_14.out; subst eo76) | ((with_reducible refine gate_callee (f := 12) rfl ?_); refine goesL_ (some 129) rfl rfl Try.func12 (by kernel_rfl) rfl #[.agg #[.int .i64 t324, .int .i64 t325, .int .i64 t326, .int .i64 t327], .slice Ao76 t335.length co76] rfl (by (try simp only [List.map_toArray, List.map_cons, List.map_nil]); first | done | rfl | (simp only [List.length_drop, List.length_take]; rfl)) ?_; (with_reducible refine (space_Free.calls k6 t324 t325 t326 t327 _ _ t335 t349 _ ?side1 ?side2 A55.out).mono ?_); (case side1 => repeat (first | exact (Kd.V_reads' HO_14.out).2.2 | (with_reducible refine Kd.C_alloc ?_ _) | (with_reducible refine Kd.C_drewN ?_ _) | (with_reducible refine Kd.C_drew ?_))); (case side2 => exact (Kd.V_reads' HO_14.out).2.1); rintro e w77 ⟨rfl, hb⟩; refine ⟨_, rfl, ?_⟩; have n0_ := Aside0.mk (Kd.V_below (by (with_reducible repeat (first | apply Kd.V_alloc | apply Kd.V_drewN | apply Kd.V_drew)); exact HO_8.out) hb); have n1_ := Aside0.mk (Kd.V_below (by (with_reducible repeat (first | apply Kd.V_alloc | apply Kd.V_drewN | apply Kd.V_drew)); exact HO_9.out) hb); have n2_ := Aside0.mk (Kd.V_below (by (with_reducible repeat (first | apply Kd.V_alloc | apply Kd.V_drewN | apply Kd.V_drew)); exact HO_14.out) hb); have n3_ := Aside0.mk (Kd.R_below (by (with_reducible repeat (first | apply Kd.R_alloc | apply Kd.R_drewN | apply Kd.R_drew)); exact HO_15.out) hb); have n4_ := Aside0.mk (Kd.R_below (by (with_reducible repeat (first | apply Kd.R_alloc | apply Kd.R_drewN | apply Kd.R_drew)); exact HO348.out) hb); have n5_ := Aside0.mk (blk_below (g := gb331) (o := .cells #[.int .i64 t324, .int .i64 t325, .int .i64 t326, .int .i64 t327] 23 (0, 0)) (by (with_reducible repeat (first | refine blk_drewN ?_ _ | refine blk_drew ?_ | refine blk_alloc ?_ _)); exact BK331.out) hb); have n6_ := Aside0.mk (below_step (by repeat (first | (with_reducible first | exact HB.out | apply below_alloc | apply pw_below_drewN | apply below_drew1 | refine below_set ?_ GE331.out) | exact HB.out)) hb); clear HO_8; clear HO_9; clear HO_14; clear HO_15; clear HO348; clear BK331; clear HB; have HO_8 := n0_; have HO_9 := n1_; have HO_14 := n2_; have HO_15 := n3_; have HO348 := n4_; have BK331 := n5_; have HB := n6_; clear n0_ n1_ n2_ n3_ n4_ n5_ n6_; (try clear hb); (try clear hb2); (try clear hk); (try clear hi)))
                      go_ret
                      exact ⟨by first | rfl | (simp [errW_none, errW_some] <;> rfl) | (simp [*, errW_none, errW_some] <;> rfl), by repeat (first | (with_reducible first | exact HB.out | apply below_alloc | apply pw_below_drewN | apply below_drew1 | refine below_set ?_ GE331.out) | exact HB.out)⟩
                    ·rw [if_neg c54] at H
                     exact absurd H (by simp)
             ·rw [if_neg c22] at H
              exact absurd H (by simp)
            ·rw [if_neg c21] at H
             exact absurd H (by simp)
         ·rw [if_neg c18] at H
          exact absurd H (by simp)
        ·rw [if_neg c17] at H
         exact absurd H (by simp)
       ·replace c16 := Bool.eq_false_iff.mpr c16
        subst c16
        have H1 : (lockgatelaw17_SpaceTurns.l2 kj13 t323 x8_2 t328 x10_2 x11_2 (wrap64 ((x11_2.length : Int) - 1)) t324 t325 t326 t327) = some r := by rw [if_neg (show ¬ (false = true) by decide)] at H; exact H
        clear H
        have H := H1
        clear H1
        have H' := Aside0.mk H
        clear H
        obtain ⟨Ao78, co78, eo78⟩ := Kd.R_slice HO_11.out
        subst eo78
        go_wp2
        go_loopg [8, 10, 18] kj13 (fun kq v8 v10 v18 w' => ∃ (x8_4 : List ByteArray) (x10_4 : Int) (x18_4 : Int), v10 = .int .i64 x10_4 ∧ v18 = .int .i64 x18_4 ∧ Aside0 (lockgatelaw17_SpaceTurns.l2 kq t323 x8_4 t328 x10_4 x11_2 x18_4 t324 t325 t326 t327 = some r) ∧ Aside0 (kq ≤ kj13) ∧ Aside0 (Kd.V Kd.string 9 w' w.heap.size (fun k_ => some k_ ≠ ((.slice Ao78 x11_2.length co78) : Value).ownBlock ∧ k_ ≠ gb331) v8 x8_4) ∧ Aside0 (Kd.V Kd.string 9 w' w.heap.size (fun k_ => some k_ ≠ ((.slice Ao78 x11_2.length co78) : Value).ownBlock ∧ k_ ≠ gb331) (.slice Ao12 t328.length co12) t328) ∧ Aside0 (Kd.R (Kd.int .i64) 3 w' w.heap.size (fun _ => True) (.slice Ao78 x11_2.length co78) x11_2) ∧ Aside0 (w'.heap[gb331]? = some (.cells #[.int .i64 t324, .int .i64 t325, .int .i64 t326, .int .i64 t327] 23 (0, 0))) ∧ Aside0 (Below w.heap.size w w'))
        case atStart => exact ⟨(x8_2), (x10_2), (wrap64 ((x11_2.length : Int) - 1)), (by first | rfl | (simp; done) | (simp [*]; done)), (by first | rfl | (simp; done) | (simp [*]; done)), H', ⟨Nat.le_refl _⟩, ⟨by (with_reducible repeat (first | apply Kd.V_alloc | apply Kd.V_drewN | apply Kd.V_drew)); exact HO_8.out⟩, ⟨by (with_reducible repeat (first | apply Kd.V_alloc | apply Kd.V_drewN | apply Kd.V_drew)); exact HO_9.out⟩, ⟨by (with_reducible repeat (first | apply Kd.R_alloc | apply Kd.R_drewN | apply Kd.R_drew)); exact HO_11.out⟩, ⟨by (with_reducible repeat (first | refine blk_drewN ?_ _ | refine blk_drew ?_ | refine blk_alloc ?_ _)); exact BK331.out⟩, ⟨by repeat (first | (with_reducible first | exact HB.out | apply below_alloc | apply pw_below_drewN | apply below_drew1 | refine below_set ?_ GE331.out) | exact HB.out)⟩⟩
        case round =>
         clear H'
         try clear c1
         try clear c2
         try clear p2
         try clear c3
         try clear p3
         try clear q3
         try clear hx3
         try clear c4
         try clear c5
         try clear p6
         try clear c12
         try clear c14
         try clear c16
         try clear c17
         try clear c18
         try clear c21
         try clear c22
         try clear p34
         try clear q34
         try clear hx34
         try clear c35
         try clear c35b0
         try clear c36
         try clear c43
         try clear c54
         try clear c56
         try clear c56b0
         try clear c56b1
         try clear c58
         try clear p64
         try clear hcz61_0
         try clear hcz61_1
         try clear hcz61_2
         try clear hcz61_3
         try clear hcz64_0
         try clear hcz64_1
         try clear hcz64_2
         try clear hcz64_3
         try clear hcz68_0
         try clear hcz68_1
         try clear hcz68_2
         try clear hcz68_3
         try clear hcz71_0
         try clear hcz71_1
         try clear hcz71_2
         try clear hcz71_3
         try clear hcz75_0
         try clear hcz75_1
         try clear hcz75_2
         try clear hcz75_3
         try clear hfz61_0
         try clear hfz61_1
         try clear hfz61_2
         try clear hfz61_3
         try clear hfz64_0
         try clear hfz64_1
         try clear hfz64_2
         try clear hfz64_3
         try clear hfz68_0
         try clear hfz68_1
         try clear hfz68_2
         try clear hfz68_3
         try clear hfz71_0
         try clear hfz71_1
         try clear hfz71_2
         try clear hfz71_3
         try clear hfz75_0
         try clear hfz75_1
         try clear hfz75_2
         try clear hfz75_3
         try clear hx342_0
         try clear hx344_0
         try clear p342
         try clear p344
         try clear q342
         try clear q344
         obtain ⟨x8_4, x10_4, x18_4, rfl, rfl, HA, HK4, HO_8, HO_9, HO_11, BK331, HB⟩ := hrel
         cases gk with
         | zero => exact absurd HA.out (by simp [lockgatelaw17_SpaceTurns.l2])
         | succ k4 =>
          have H := HA.out
          clear HA
          simp only [lockgatelaw17_SpaceTurns.l2] at H
          by_cases c79 : x18_4 ≥ 0
          ·rw [if_pos c79] at H
           have c79b0 : decide (0 ≤ x18_4) = true := decide_eq_true c79
           clear c79
           by_cases c80 : 0 ≤ x18_4
           ·rw [if_pos c80] at H
            have c80b0 : decide (0 ≤ x18_4) = true := decide_eq_true c80
            clear c80
            by_cases c81 : x18_4 < (x11_2.length : Int)
            ·rw [if_pos c81] at H
             have c81b0 : decide (x18_4 < (x11_2.length : Int)) = true := decide_eq_true c81
             clear c81
             obtain ⟨y353, hy353⟩ : ∃ y_ : List Int, y_ = (([rd x11_2 x18_4] : List Int)) := ⟨_, rfl⟩
             replace H : ((space_Give.f k4 t324 t325 t326 t327 x8_4 y353).bind fun bt356 => (if bt356.2 = true then ((space_Free.f k4 t324 t325 t326 t327 bt356.1).bind fun t360 => (if t360 = (wrap64 (x10_4 + 1)) then (lockgatelaw17_SpaceTurns.l2 k4 t323 bt356.1 t328 (wrap64 (x10_4 + 1)) x11_2 (wrap64 (x18_4 - 1)) t324 t325 t326 t327) else (some false))) else (some false))) = some r := by first | (rw [hy353]; with_reducible exact H) | (have H2_ := (Option.bind_some _ _).symm.trans H; rw [hy353]; with_reducible exact H2_) | (have H2_ := (Option.bind_some _ _).symm.trans H; with_reducible exact H2_) | with_reducible exact H | (rw [hy353]; exact H) | exact H
             have Ny353 := Aside0.mk hy353
             clear hy353
             replace H := Option.bind_eq_some_iff.mp H
             obtain ⟨⟨t356, t359⟩, A820, H⟩ := H
             replace H : (if t359 = true then ((space_Free.f k4 t324 t325 t326 t327 t356).bind fun t360 => (if t360 = (wrap64 (x10_4 + 1)) then (lockgatelaw17_SpaceTurns.l2 k4 t323 t356 t328 (wrap64 (x10_4 + 1)) x11_2 (wrap64 (x18_4 - 1)) t324 t325 t326 t327) else (some false))) else (some false)) = some r := H
             have A82 := Aside0.mk A820
             clear A820
             by_cases c83 : t359 = true
             ·subst c83
              have H1 : ((space_Free.f k4 t324 t325 t326 t327 t356).bind fun t360 => (if t360 = (wrap64 (x10_4 + 1)) then (lockgatelaw17_SpaceTurns.l2 k4 t323 t356 t328 (wrap64 (x10_4 + 1)) x11_2 (wrap64 (x18_4 - 1)) t324 t325 t326 t327) else (some false))) = some r := by rw [if_pos rfl] at H; exact H
              clear H
              have H := H1
              clear H1
              replace H := Option.bind_eq_some_iff.mp H
              obtain ⟨t360, A840, H⟩ := H
              replace H : (if t360 = (wrap64 (x10_4 + 1)) then (lockgatelaw17_SpaceTurns.l2 k4 t323 t356 t328 (wrap64 (x10_4 + 1)) x11_2 (wrap64 (x18_4 - 1)) t324 t325 t326 t327) else (some false)) = some r := H
              have A84 := Aside0.mk A840
              clear A840
              by_cases c85 : t360 = (wrap64 (x10_4 + 1))
              ·rw [if_pos c85] at H
               have c85b0 : (t360 == (wrap64 (x10_4 + 1))) = true := beq_iff_eq.mpr c85
               have c85b1 : (t360 != (wrap64 (x10_4 + 1))) = false := bne_eq_false_iff_eq.mpr c85
               clear c85
               have H' := Aside0.mk H
               clear H
               try go_wp2
               have n0_ := Aside0.mk (Kd.V_drew HO_8.out)
               have n1_ := Aside0.mk (Kd.V_drew HO_9.out)
               have n2_ := Aside0.mk (Kd.R_drew HO_11.out)
               have n3_ := Aside0.mk (blk_drew BK331.out)
               have n4_ := Aside0.mk (below_drew1 HB.out)
               clear HO_8
               clear HO_9
               clear HO_11
               clear BK331
               clear HB
               have HO_8 := n0_
               have HO_9 := n1_
               have HO_11 := n2_
               have BK331 := n3_
               have HB := n4_
               clear n0_ n1_ n2_ n3_ n4_
               have p352 : 0 ≤ (x18_4 : Int) := of_decide_eq_true (by first | (with_reducible assumption) | assumption)
               have q352 : x18_4 < (x11_2.length : Int) := of_decide_eq_true (by first | (with_reducible assumption) | assumption)
               obtain ⟨ad352, e352, hx352_0⟩ := Kd.at_int (Kd.R_reads' HO_11.out).2.2 x18_4 p352 q352
               cases e352
               replace p352 := eq_true p352
               replace q352 := eq_true q352
               refine start_ (n := 13) (S := fun w' => w'.cell? ⟨gb331, 0, none⟩ = some (.int .i64 t324) ∧ w'.cell? ⟨gb331, 1, none⟩ = some (.int .i64 t325) ∧ w'.cell? ⟨gb331, 2, none⟩ = some (.int .i64 t326) ∧ w'.cell? ⟨gb331, 3, none⟩ = some (.int .i64 t327) ∧ w'.cell? (ad352.add (x18_4).toNat) = some (.int .i64 (rd x11_2 x18_4))) (ds := []) #[false, false, false, false, false, false, false, false, false, false, false, false, false] (by kernel_rfl) rfl rfl ⟨(blk_cell BK331.out 0).trans rfl, (blk_cell BK331.out 1).trans rfl, (blk_cell BK331.out 2).trans rfl, (blk_cell BK331.out 3).trans rfl, hx352_0⟩ (fun hHeld => ?_); refine with_tabW lockgatelaw17_SpaceTurns.tab31 lockgatelaw17_SpaceTurns.bits31 (fun HT_ HW_ => ?_)
               generalize wr.drew = w86 at HO_8 HO_9 HO_11 BK331 HB hx352_0 hHeld ⊢
               refine pure_ (i := 1) (N := some 147) (v := ?_) (a' := ?_) #[false, true, false, false, false, false, false, false, false, false, false, false, false] rfl rfl (any_of HT_.out (by kernel_rfl)) (fun _ _ _ h => h) (Or.inl ⟨by rfl, ?_⟩) ?_ ?_
               rotate_left
               ·intro w'
                go_simp
                first | with_reducible rfl | (rw [if_neg (by first | omega | (simp only [eq_iff_iff, iff_true, iff_false, decide_eq_true_eq, ByteArray.size_append, ByteArray.size_extract] at *; omega))])
               rotate_left
               ·simp only [Act.put, setIfInBounds_toArray, set_cons_zero, set_cons_succ, i64_w, i32_w]; rfl
               refine pure_ (i := 2) (N := some 148) (v := ?_) (a' := ?_) #[false, true, true, false, false, false, false, false, false, false, false, false, false] rfl rfl (any_of HT_.out (by kernel_rfl)) (fun _ _ _ h => h) (Or.inl ⟨by rfl, ?_⟩) ?_ ?_
               rotate_left
               ·intro w'
                go_simp
                first | with_reducible rfl | (rw [if_neg (by first | omega | (simp only [eq_iff_iff, iff_true, iff_false, decide_eq_true_eq, ByteArray.size_append, ByteArray.size_extract] at *; omega))])
               rotate_left
               ·simp only [Act.put, setIfInBounds_toArray, set_cons_zero, set_cons_succ, i64_w, i32_w]; rfl
               refine pure_ (i := 3) (N := some 149) (v := ?_) (a' := ?_) #[false, true, true, true, false, false, false, false, false, false, false, false, false] rfl rfl (any_of HT_.out (by kernel_rfl)) (fun _ _ _ h => h) (Or.inl ⟨by rfl, ?_⟩) ?_ ?_
               rotate_left
               ·intro w'
                go_simp
                first | with_reducible rfl | (rw [if_neg (by first | omega | (simp only [eq_iff_iff, iff_true, iff_false, decide_eq_true_eq, ByteArray.size_append, ByteArray.size_extract] at *; omega))])
               rotate_left
               ·simp only [Act.put, setIfInBounds_toArray, set_cons_zero, set_cons_succ, i64_w, i32_w]; rfl
               refine pure_ (i := 4) (N := some 150) (v := ?_) (a' := ?_) #[false, true, true, true, true, false, false, false, false, false, false, false, false] rfl rfl (any_of HT_.out (by kernel_rfl)) (fun _ _ _ h => h) (Or.inl ⟨by rfl, ?_⟩) ?_ ?_
               rotate_left
               ·intro w'
                go_simp
                first | with_reducible rfl | (rw [if_neg (by first | omega | (simp only [eq_iff_iff, iff_true, iff_false, decide_eq_true_eq, ByteArray.size_append, ByteArray.size_extract] at *; omega))])
               rotate_left
               ·simp only [Act.put, setIfInBounds_toArray, set_cons_zero, set_cons_succ, i64_w, i32_w]; rfl
               refine take_ (i := 0) (N := some 146) (v := ?_) (a' := ?_) #[true, true, true, true, true, false, false, false, false, false, false, false, false] rfl rfl (take_ofW HT_.out HW_.out (by kernel_rfl)) (fun _ _ _ h => h) (Or.inl ⟨by rfl, ?_⟩) hHeld ?_ ?_
               rotate_left
               ·rintro w' ⟨s0, s1, s2, s3, s4⟩
                go_simp
                first | with_reducible rfl | (rw [if_neg (by first | omega | (simp only [eq_iff_iff, iff_true, iff_false, decide_eq_true_eq, ByteArray.size_append, ByteArray.size_extract] at *; omega))])
               rotate_left
               ·simp only [Act.put, setIfInBounds_toArray, set_cons_zero, set_cons_succ, i64_w, i32_w]; rfl
               refine take_ (i := 5) (N := some 151) (v := ?_) (a' := ?_) #[true, true, true, true, true, true, false, false, false, false, false, false, false] rfl rfl (take_ofW HT_.out HW_.out (by kernel_rfl)) (fun _ _ _ h => h) (Or.inl ⟨by rfl, ?_⟩) hHeld ?_ ?_
               rotate_left
               ·rintro w' ⟨s0, s1, s2, s3, s4⟩
                go_simp
                first | with_reducible rfl | (rw [if_neg (by first | omega | (simp only [eq_iff_iff, iff_true, iff_false, decide_eq_true_eq, ByteArray.size_append, ByteArray.size_extract] at *; omega))])
               rotate_left
               ·simp only [Act.put, setIfInBounds_toArray, set_cons_zero, set_cons_succ, i64_w, i32_w]; rfl
               refine one_ (i := 6) (N := some 152) #[true, true, true, true, true, true, true, false, false, false, false, false, false] rfl rfl (one_of HT_.out (by kernel_rfl)) (by decide) (fun K hK => ?_)
               refine Kd.R_lit_step (Kd.int .i64) _ 3 ?hg (N := 152) ?hd (xs := ([rd x11_2 x18_4] : List Int)) (inner := [.int .i64 (rd x11_2 x18_4)]) (ok := fun _ => True) (okp := fun _ => True) ?hr ?hp (fun _ hk => hk) trivial (Below.refl _ _) (Nat.le_refl _) (by simp) ?_; (case hd => rfl); (case hg => rfl); (case hr => first | (go_simp; done) | (go_simp; rfl)); (case hp => exact (Reps.one (show Kd.M (Kd.int .i64) _ _ _ (rd x11_2 x18_4) [.int .i64 (rd x11_2 x18_4)] from rfl) (Reps.none _ _)))
               intro v354 w87 ho88 hb hg_ hnew_
               have HS4_ := (hb.cell (World.block_lt_of_cell? _ _ (hHeld.2.2.2.2))).trans (hHeld.2.2.2.2)
               clear hg_ hnew_
               (first | rw [← Ny353.out] at ho88 | (simp only [Int.reduceToNat] at ho88; rw [← Ny353.out] at ho88))
               have n0_ := Aside0.mk (Kd.V_elder' (by (with_reducible repeat (first | apply Kd.V_alloc | apply Kd.V_drewN | apply Kd.V_drew)); exact HO_8.out) (Kd.R_base ho88) hb)
               have n1_ := Aside0.mk (Kd.V_elder' (by (with_reducible repeat (first | apply Kd.V_alloc | apply Kd.V_drewN | apply Kd.V_drew)); exact HO_9.out) (Kd.R_base ho88) hb)
               have n2_ := Aside0.mk (Kd.R_elder' (by (with_reducible repeat (first | apply Kd.R_alloc | apply Kd.R_drewN | apply Kd.R_drew)); exact HO_11.out) (Kd.R_base ho88) hb)
               have n3_ := Aside0.mk (Kd.R_lower (Kd.R_new' ho88 (Kd.R_lt (by (with_reducible repeat (first | apply Kd.R_alloc | apply Kd.R_drewN | apply Kd.R_drew)); exact HO_11.out))) (below_size (by repeat (first | (with_reducible first | exact HB.out | apply below_alloc | apply pw_below_drewN | apply below_drew1 | refine below_set ?_ GE331.out) | exact HB.out))))
               have n4_ := Aside0.mk (blk_below (g := gb331) (o := .cells #[.int .i64 t324, .int .i64 t325, .int .i64 t326, .int .i64 t327] 23 (0, 0)) (by (with_reducible repeat (first | refine blk_drewN ?_ _ | refine blk_drew ?_ | refine blk_alloc ?_ _)); exact BK331.out) hb)
               have n5_ := Aside0.mk (below_step (by repeat (first | (with_reducible first | exact HB.out | apply below_alloc | apply pw_below_drewN | apply below_drew1 | refine below_set ?_ GE331.out) | exact HB.out)) hb)
               clear HO_8
               clear HO_9
               clear HO_11
               clear BK331
               clear HB
               have HO_8 := n0_
               have HO_9 := n1_
               have HO_11 := n2_
               have HO355 := n3_
               have BK331 := n4_
               have HB := n5_
               clear n0_ n1_ n2_ n3_ n4_ n5_
               clear hb ho88
               obtain ⟨Ao89, co89, eo89⟩ := Kd.V_slice HO_8.out
               (first | subst eo89 | (injection eo89 with f1_ f2_ f3_; have f4_ := f1_.symm; have f5_ := f3_.symm; clear f1_ f2_ f3_; subst f4_; subst f5_))
               obtain ⟨Ao90, co90, eo90⟩ := Kd.R_slice HO355.out
               (first | subst eo90 | (injection eo90 with f1_ f2_ f3_; have f4_ := f1_.symm; have f5_ := f3_.symm; clear f1_ f2_ f3_; subst f4_; subst f5_))
               refine hK.out _ _ ⟨(blk_cell BK331.out 0).trans rfl, (blk_cell BK331.out 1).trans rfl, (blk_cell BK331.out 2).trans rfl, (blk_cell BK331.out 3).trans rfl, HS4_⟩ (fun hHeld => ?_)
               clear hK K
               refine norm_ (a' := ?_) ?_ ?_
               rotate_left
               ·show Act.put _ (some 152) _ = _
                simp only [Act.put, setIfInBounds_toArray, set_cons_zero, set_cons_succ, i64_w, i32_w]
                rfl
               refine one_ (i := 7) (N := some 153) #[true, true, true, true, true, true, true, true, false, false, false, false, false] rfl rfl (one_of HT_.out (by kernel_rfl)) (by decide) (fun K hK => ?_)
               refine goes_ Try.func18 (by kernel_rfl) rfl #[.agg #[.int .i64 t324, .int .i64 t325, .int .i64 t326, .int .i64 t327], .slice Ao89 x8_4.length co89, .slice Ao90 y353.length co90] (by rfl) rfl rfl (by (try simp only [List.map_toArray, List.map_cons, List.map_nil]); first | done | rfl | (simp only [List.length_drop, List.length_take]; rfl)) ?_
               with_reducible refine (space_Give.calls k4 t324 t325 t326 t327 (fun k_ => ((some k_ ≠ (.slice (some ad352) x11_2.length co78 : Value).ownBlock ∧ k_ ≠ gb331) ∧ some k_ ≠ (.slice Ao90 y353.length co90 : Value).ownBlock)) _ _ x8_4 _ _ y353 t356 true _ ?side1 ?side2 ?side3 A82.out).mono ?_
               (case side1 => exact HO_8.out)
               (case side2 => repeat (first | exact (Kd.R_reads' HO355.out).2.2 | (with_reducible refine Kd.C_alloc ?_ _) | (with_reducible refine Kd.C_drewN ?_ _) | (with_reducible refine Kd.C_drew ?_)))
               (case side3 => exact (Kd.R_reads' HO355.out).2.1)
               rintro e w91 ⟨v357, rfl, ho0, hb⟩
               have HS4_ := (hb.cell (World.block_lt_of_cell? _ _ (hHeld.2.2.2.2))).trans (hHeld.2.2.2.2)
               refine ⟨_, rfl, ?_⟩
               have n0_ := Aside0.mk (Kd.V_below (by (with_reducible repeat (first | apply Kd.V_alloc | apply Kd.V_drewN | apply Kd.V_drew)); exact HO_8.out) hb)
               have n1_ := Aside0.mk (Kd.V_below (by (with_reducible repeat (first | apply Kd.V_alloc | apply Kd.V_drewN | apply Kd.V_drew)); exact HO_9.out) hb)
               have n2_ := Aside0.mk (Kd.R_below (by (with_reducible repeat (first | apply Kd.R_alloc | apply Kd.R_drewN | apply Kd.R_drew)); exact HO_11.out) hb)
               have n3_ := Aside0.mk (Kd.R_below (by (with_reducible repeat (first | apply Kd.R_alloc | apply Kd.R_drewN | apply Kd.R_drew)); exact HO355.out) hb)
               have n4_ := Aside0.mk (Kd.V_lower (Kd.V_mono (ok' := fun k_ => some k_ ≠ (.slice (some ad352) x11_2.length co78 : Value).ownBlock ∧ some k_ ≠ (.slice Ao90 y353.length co90 : Value).ownBlock ∧ k_ ≠ gb331) ho0 (fun k_ hk_ => ⟨Or.elim hk_ (fun hs_ => hs_.1.1) (fun hn_ => (Kd.fresh' (Kd.R_lt (by (with_reducible repeat (first | apply Kd.R_alloc | apply Kd.R_drewN | apply Kd.R_drew)); exact HO_11.out)) k_ hn_)), Or.elim hk_ (fun hs_ => hs_.2) (fun hn_ => (Kd.fresh' (Kd.R_lt (by (with_reducible repeat (first | apply Kd.R_alloc | apply Kd.R_drewN | apply Kd.R_drew)); exact HO355.out)) k_ hn_)), Or.elim hk_ (fun hs_ => hs_.1.2) (fun hn_ => (Kd.freshB (g := gb331) (o := .cells #[.int .i64 t324, .int .i64 t325, .int .i64 t326, .int .i64 t327] 23 (0, 0)) (by (with_reducible repeat (first | refine blk_drewN ?_ _ | refine blk_drew ?_ | refine blk_alloc ?_ _)); exact BK331.out) k_ hn_))⟩)) (below_size (by repeat (first | (with_reducible first | exact HB.out | apply below_alloc | apply pw_below_drewN | apply below_drew1 | refine below_set ?_ GE331.out) | exact HB.out))))
               have n5_ := Aside0.mk (blk_below (g := gb331) (o := .cells #[.int .i64 t324, .int .i64 t325, .int .i64 t326, .int .i64 t327] 23 (0, 0)) (by (with_reducible repeat (first | refine blk_drewN ?_ _ | refine blk_drew ?_ | refine blk_alloc ?_ _)); exact BK331.out) hb)
               have n6_ := Aside0.mk (below_step (by repeat (first | (with_reducible first | exact HB.out | apply below_alloc | apply pw_below_drewN | apply below_drew1 | refine below_set ?_ GE331.out) | exact HB.out)) hb)
               clear HO_8
               clear HO_9
               clear HO_11
               clear HO355
               clear BK331
               clear HB
               have HO_8 := n0_
               have HO_9 := n1_
               have HO_11 := n2_
               have HO355 := n3_
               have HO358 := n4_
               have BK331 := n5_
               have HB := n6_
               clear n0_ n1_ n2_ n3_ n4_ n5_ n6_
               (try clear hb)
               (try clear hb2)
               (try clear hk)
               (try clear hi)
               (try clear ho0)
               refine hK.out _ _ ⟨(blk_cell BK331.out 0).trans rfl, (blk_cell BK331.out 1).trans rfl, (blk_cell BK331.out 2).trans rfl, (blk_cell BK331.out 3).trans rfl, HS4_⟩ (fun hHeld => ?_)
               clear hK K
               refine norm_ (a' := ?_) ?_ ?_
               rotate_left
               ·show Act.put _ (some 153) _ = _
                simp only [Act.put, setIfInBounds_toArray, set_cons_zero, set_cons_succ, i64_w, i32_w]
                rfl
               refine pure_ (i := 8) (N := some 145) (v := ?_) (a' := ?_) #[true, true, true, true, true, true, true, true, true, false, false, false, false] rfl rfl (any_of HT_.out (by kernel_rfl)) (fun _ _ _ h => h) (Or.inl ⟨by rfl, ?_⟩) ?_ ?_
               rotate_left
               ·intro w'
                go_simp
                first | with_reducible rfl | (rw [if_neg (by first | omega | (simp only [eq_iff_iff, iff_true, iff_false, decide_eq_true_eq, ByteArray.size_append, ByteArray.size_extract] at *; omega))])
               rotate_left
               ·simp only [Act.put, setIfInBounds_toArray, set_cons_zero, set_cons_succ, i64_w, i32_w]; rfl
               refine pure_ (i := 9) (N := some 154) (v := ?_) (a' := ?_) #[true, true, true, true, true, true, true, true, true, true, false, false, false] rfl rfl (any_of HT_.out (by kernel_rfl)) (fun _ _ _ h => h) (Or.inl ⟨by rfl, ?_⟩) ?_ ?_
               rotate_left
               ·intro w'
                go_simp
                first | with_reducible rfl | (rw [if_neg (by first | omega | (simp only [eq_iff_iff, iff_true, iff_false, decide_eq_true_eq, ByteArray.size_append, ByteArray.size_extract] at *; omega))])
               rotate_left
               ·simp only [Act.put, setIfInBounds_toArray, set_cons_zero, set_cons_succ, i64_w, i32_w]; rfl
               refine pure_ (i := 10) (N := some 155) (v := ?_) (a' := ?_) #[true, true, true, true, true, true, true, true, true, true, true, false, false] rfl rfl (any_of HT_.out (by kernel_rfl)) (fun _ _ _ h => h) (Or.inl ⟨by rfl, ?_⟩) ?_ ?_
               rotate_left
               ·intro w'
                go_simp
                first | with_reducible rfl | (rw [if_neg (by first | omega | (simp only [eq_iff_iff, iff_true, iff_false, decide_eq_true_eq, ByteArray.size_append, ByteArray.size_extract] at *; omega))])
               rotate_left
               ·simp only [Act.put, setIfInBounds_toArray, set_cons_zero, set_cons_succ, i64_w, i32_w]; rfl
               refine pure_ (i := 11) (N := some 19) (v := ?_) (a' := ?_) #[true, true, true, true, true, true, true, true, true, true, true, true, false] rfl rfl (any_of HT_.out (by kernel_rfl)) (fun _ _ _ h => h) (Or.inl ⟨by rfl, ?_⟩) ?_ ?_
               rotate_left
               ·intro w'
                go_simp
                first | with_reducible rfl | (rw [if_neg (by first | omega | (simp only [eq_iff_iff, iff_true, iff_false, decide_eq_true_eq, ByteArray.size_append, ByteArray.size_extract] at *; omega))])
               rotate_left
               ·simp only [Act.put, setIfInBounds_toArray, set_cons_zero, set_cons_succ, i64_w, i32_w]; rfl
               refine pure_ (i := 12) (N := some 20) (v := ?_) (a' := ?_) #[true, true, true, true, true, true, true, true, true, true, true, true, true] rfl rfl (any_of HT_.out (by kernel_rfl)) (fun _ _ _ h => h) (Or.inl ⟨by rfl, ?_⟩) ?_ ?_
               rotate_left
               ·intro w'
                go_simp
                first | with_reducible rfl | (rw [if_neg (by first | omega | (simp only [eq_iff_iff, iff_true, iff_false, decide_eq_true_eq, ByteArray.size_append, ByteArray.size_extract] at *; omega))])
               rotate_left
               ·simp only [Act.put, setIfInBounds_toArray, set_cons_zero, set_cons_succ, i64_w, i32_w]; rfl
               refine done_ (done_of HT_.out (by kernel_rfl)) ?_
               have hcz92_0 : w91.cell? ⟨gb331, 0, none⟩ = some (.int .i64 t324) := (blk_cell BK331.out 0).trans rfl
               have hcz92_1 : w91.cell? ⟨gb331, 1, none⟩ = some (.int .i64 t325) := (blk_cell BK331.out 1).trans rfl
               have hcz92_2 : w91.cell? ⟨gb331, 2, none⟩ = some (.int .i64 t326) := (blk_cell BK331.out 2).trans rfl
               have hcz92_3 : w91.cell? ⟨gb331, 3, none⟩ = some (.int .i64 t327) := (blk_cell BK331.out 3).trans rfl
               have hfz92_0 := blk_frozen BK331.out 0
               have hfz92_1 := blk_frozen BK331.out 1
               have hfz92_2 := blk_frozen BK331.out 2
               have hfz92_3 := blk_frozen BK331.out 3
               obtain ⟨Ao93, co93, eo93⟩ := Kd.V_slice HO358.out
               subst eo93
               try go_wp2_with (first | (go_at_call 12; (with_reducible refine (space_Free.calls k4 t324 t325 t326 t327 _ _ t356 t360 _ ?side1 ?side2 A84.out).mono ?_); (case side1 => repeat (first | exact (Kd.V_reads' HO358.out).2.2 | (with_reducible refine Kd.C_alloc ?_ _) | (with_reducible refine Kd.C_drewN ?_ _) | (with_reducible refine Kd.C_drew ?_))); (case side2 => exact (Kd.V_reads' HO358.out).2.1); rintro e w94 ⟨rfl, hb⟩; have n0_ := Aside0.mk (Kd.V_below (by (with_reducible repeat (first | apply Kd.V_alloc | apply Kd.V_drewN | apply Kd.V_drew)); exact HO_8.out) hb); have n1_ := Aside0.mk (Kd.V_below (by (with_reducible repeat (first | apply Kd.V_alloc | apply Kd.V_drewN | apply Kd.V_drew)); exact HO_9.out) hb); have n2_ := Aside0.mk (Kd.R_below (by (with_reducible repeat (first | apply Kd.R_alloc | apply Kd.R_drewN | apply Kd.R_drew)); exact HO_11.out) hb); have n3_ := Aside0.mk (Kd.R_below (by (with_reducible repeat (first | apply Kd.R_alloc | apply Kd.R_drewN | apply Kd.R_drew)); exact HO355.out) hb); have n4_ := Aside0.mk (Kd.V_below (by (with_reducible repeat (first | apply Kd.V_alloc | apply Kd.V_drewN | apply Kd.V_drew)); exact HO358.out) hb); have n5_ := Aside0.mk (blk_below (g := gb331) (o := .cells #[.int .i64 t324, .int .i64 t325, .int .i64 t326, .int .i64 t327] 23 (0, 0)) (by (with_reducible repeat (first | refine blk_drewN ?_ _ | refine blk_drew ?_ | refine blk_alloc ?_ _)); exact BK331.out) hb); have n6_ := Aside0.mk (below_step (by repeat (first | (with_reducible first | exact HB.out | apply below_alloc | apply pw_below_drewN | apply below_drew1 | refine below_set ?_ GE331.out) | exact HB.out)) hb); clear HO_8; clear HO_9; clear HO_11; clear HO355; clear HO358; clear BK331; clear HB; have HO_8 := n0_; have HO_9 := n1_; have HO_11 := n2_; have HO355 := n3_; have HO358 := n4_; have BK331 := n5_; have HB := n6_; clear n0_ n1_ n2_ n3_ n4_ n5_ n6_; (try clear hb); (try clear hb2); (try clear hk); (try clear hi)))
               go_roundg k4
               case measure => have := HJ3.out; have := HK2.out; have := HJ13.out; have := HK4.out; omega
               case rel => exact ⟨(t356), (wrap64 (x10_4 + 1)), (wrap64 (x18_4 - 1)), (by first | rfl | (simp; done) | (simp [*]; done)), (by first | rfl | (simp; done) | (simp [*]; done)), H', ⟨by have := HJ3.out; have := HK2.out; have := HJ13.out; have := HK4.out; omega⟩, ⟨by (with_reducible repeat (first | apply Kd.V_alloc | apply Kd.V_drewN | apply Kd.V_drew)); exact Kd.V_mono HO358.out (fun _ hk => ⟨hk.1, hk.2.2⟩)⟩, ⟨by (with_reducible repeat (first | apply Kd.V_alloc | apply Kd.V_drewN | apply Kd.V_drew)); exact Kd.V_mono HO_9.out (fun _ hk => ⟨hk.1.1, hk.1.2⟩)⟩, ⟨by (with_reducible repeat (first | apply Kd.R_alloc | apply Kd.R_drewN | apply Kd.R_drew)); exact Kd.R_mono HO_11.out (fun _ hk => trivial)⟩, ⟨by (with_reducible repeat (first | refine blk_drewN ?_ _ | refine blk_drew ?_ | refine blk_alloc ?_ _)); exact BK331.out⟩, ⟨by repeat (first | (with_reducible first | exact HB.out | apply below_alloc | apply pw_below_drewN | apply below_drew1 | refine below_set ?_ GE331.out) | exact HB.out)⟩⟩
              ·rw [if_neg c85] at H
               have c85b0 : (t360 == (wrap64 (x10_4 + 1))) = false := beq_eq_false_iff_ne.mpr c85
               have c85b1 : (t360 != (wrap64 (x10_4 + 1))) = true := bne_iff_ne.mpr c85
               obtain rfl := Option.some.inj H
               try go_wp2
               have n0_ := Aside0.mk (Kd.V_drew HO_8.out)
               have n1_ := Aside0.mk (Kd.V_drew HO_9.out)
               have n2_ := Aside0.mk (Kd.R_drew HO_11.out)
               have n3_ := Aside0.mk (blk_drew BK331.out)
               have n4_ := Aside0.mk (below_drew1 HB.out)
               clear HO_8
               clear HO_9
               clear HO_11
               clear BK331
               clear HB
               have HO_8 := n0_
               have HO_9 := n1_
               have HO_11 := n2_
               have BK331 := n3_
               have HB := n4_
               clear n0_ n1_ n2_ n3_ n4_
               have p352 : 0 ≤ (x18_4 : Int) := of_decide_eq_true (by first | (with_reducible assumption) | assumption)
               have q352 : x18_4 < (x11_2.length : Int) := of_decide_eq_true (by first | (with_reducible assumption) | assumption)
               obtain ⟨ad352, e352, hx352_0⟩ := Kd.at_int (Kd.R_reads' HO_11.out).2.2 x18_4 p352 q352
               cases e352
               replace p352 := eq_true p352
               replace q352 := eq_true q352
               refine start_ (n := 13) (S := fun w' => w'.cell? ⟨gb331, 0, none⟩ = some (.int .i64 t324) ∧ w'.cell? ⟨gb331, 1, none⟩ = some (.int .i64 t325) ∧ w'.cell? ⟨gb331, 2, none⟩ = some (.int .i64 t326) ∧ w'.cell? ⟨gb331, 3, none⟩ = some (.int .i64 t327) ∧ w'.cell? (ad352.add (x18_4).toNat) = some (.int .i64 (rd x11_2 x18_4))) (ds := []) #[false, false, false, false, false, false, false, false, false, false, false, false, false] (by kernel_rfl) rfl rfl ⟨(blk_cell BK331.out 0).trans rfl, (blk_cell BK331.out 1).trans rfl, (blk_cell BK331.out 2).trans rfl, (blk_cell BK331.out 3).trans rfl, hx352_0⟩ (fun hHeld => ?_); refine with_tabW lockgatelaw17_SpaceTurns.tab31 lockgatelaw17_SpaceTurns.bits31 (fun HT_ HW_ => ?_)
               generalize wr.drew = w95 at HO_8 HO_9 HO_11 BK331 HB hx352_0 hHeld ⊢
               refine pure_ (i := 1) (N := some 147) (v := ?_) (a' := ?_) #[false, true, false, false, false, false, false, false, false, false, false, false, false] rfl rfl (any_of HT_.out (by kernel_rfl)) (fun _ _ _ h => h) (Or.inl ⟨by rfl, ?_⟩) ?_ ?_
               rotate_left
               ·intro w'
                go_simp
                first | with_reducible rfl | (rw [if_neg (by first | omega | (simp only [eq_iff_iff, iff_true, iff_false, decide_eq_true_eq, ByteArray.size_append, ByteArray.size_extract] at *; omega))])
               rotate_left
               ·simp only [Act.put, setIfInBounds_toArray, set_cons_zero, set_cons_succ, i64_w, i32_w]; rfl
               refine pure_ (i := 2) (N := some 148) (v := ?_) (a' := ?_) #[false, true, true, false, false, false, false, false, false, false, false, false, false] rfl rfl (any_of HT_.out (by kernel_rfl)) (fun _ _ _ h => h) (Or.inl ⟨by rfl, ?_⟩) ?_ ?_
               rotate_left
               ·intro w'
                go_simp
                first | with_reducible rfl | (rw [if_neg (by first | omega | (simp only [eq_iff_iff, iff_true, iff_false, decide_eq_true_eq, ByteArray.size_append, ByteArray.size_extract] at *; omega))])
               rotate_left
               ·simp only [Act.put, setIfInBounds_toArray, set_cons_zero, set_cons_succ, i64_w, i32_w]; rfl
               refine pure_ (i := 3) (N := some 149) (v := ?_) (a' := ?_) #[false, true, true, true, false, false, false, false, false, false, false, false, false] rfl rfl (any_of HT_.out (by kernel_rfl)) (fun _ _ _ h => h) (Or.inl ⟨by rfl, ?_⟩) ?_ ?_
               rotate_left
               ·intro w'
                go_simp
                first | with_reducible rfl | (rw [if_neg (by first | omega | (simp only [eq_iff_iff, iff_true, iff_false, decide_eq_true_eq, ByteArray.size_append, ByteArray.size_extract] at *; omega))])
               rotate_left
               ·simp only [Act.put, setIfInBounds_toArray, set_cons_zero, set_cons_succ, i64_w, i32_w]; rfl
               refine pure_ (i := 4) (N := some 150) (v := ?_) (a' := ?_) #[false, true, true, true, true, false, false, false, false, false, false, false, false] rfl rfl (any_of HT_.out (by kernel_rfl)) (fun _ _ _ h => h) (Or.inl ⟨by rfl, ?_⟩) ?_ ?_
               rotate_left
               ·intro w'
                go_simp
                first | with_reducible rfl | (rw [if_neg (by first | omega | (simp only [eq_iff_iff, iff_true, iff_false, decide_eq_true_eq, ByteArray.size_append, ByteArray.size_extract] at *; omega))])
               rotate_left
               ·simp only [Act.put, setIfInBounds_toArray, set_cons_zero, set_cons_succ, i64_w, i32_w]; rfl
               refine take_ (i := 0) (N := some 146) (v := ?_) (a' := ?_) #[true, true, true, true, true, false, false, false, false, false, false, false, false] rfl rfl (take_ofW HT_.out HW_.out (by kernel_rfl)) (fun _ _ _ h => h) (Or.inl ⟨by rfl, ?_⟩) hHeld ?_ ?_
               rotate_left
               ·rintro w' ⟨s0, s1, s2, s3, s4⟩
                go_simp
                first | with_reducible rfl | (rw [if_neg (by first | omega | (simp only [eq_iff_iff, iff_true, iff_false, decide_eq_true_eq, ByteArray.size_append, ByteArray.size_extract] at *; omega))])
               rotate_left
               ·simp only [Act.put, setIfInBounds_toArray, set_cons_zero, set_cons_succ, i64_w, i32_w]; rfl
               refine take_ (i := 5) (N := some 151) (v := ?_) (a' := ?_) #[true, true, true, true, true, true, false, false, false, false, false, false, false] rfl rfl (take_ofW HT_.out HW_.out (by kernel_rfl)) (fun _ _ _ h => h) (Or.inl ⟨by rfl, ?_⟩) hHeld ?_ ?_
               rotate_left
               ·rintro w' ⟨s0, s1, s2, s3, s4⟩
                go_simp
                first | with_reducible rfl | (rw [if_neg (by first | omega | (simp only [eq_iff_iff, iff_true, iff_false, decide_eq_true_eq, ByteArray.size_append, ByteArray.size_extract] at *; omega))])
               rotate_left
               ·simp only [Act.put, setIfInBounds_toArray, set_cons_zero, set_cons_succ, i64_w, i32_w]; rfl
               refine one_ (i := 6) (N := some 152) #[true, true, true, true, true, true, true, false, false, false, false, false, false] rfl rfl (one_of HT_.out (by kernel_rfl)) (by decide) (fun K hK => ?_)
               refine Kd.R_lit_step (Kd.int .i64) _ 3 ?hg (N := 152) ?hd (xs := ([rd x11_2 x18_4] : List Int)) (inner := [.int .i64 (rd x11_2 x18_4)]) (ok := fun _ => True) (okp := fun _ => True) ?hr ?hp (fun _ hk => hk) trivial (Below.refl _ _) (Nat.le_refl _) (by simp) ?_; (case hd => rfl); (case hg => rfl); (case hr => first | (go_simp; done) | (go_simp; rfl)); (case hp => exact (Reps.one (show Kd.M (Kd.int .i64) _ _ _ (rd x11_2 x18_4) [.int .i64 (rd x11_2 x18_4)] from rfl) (Reps.none _ _)))
               intro v354 w96 ho97 hb hg_ hnew_
               have HS4_ := (hb.cell (World.block_lt_of_cell? _ _ (hHeld.2.2.2.2))).trans (hHeld.2.2.2.2)
               clear hg_ hnew_
               (first | rw [← Ny353.out] at ho97 | (simp only [Int.reduceToNat] at ho97; rw [← Ny353.out] at ho97))
               have n0_ := Aside0.mk (Kd.V_elder' (by (with_reducible repeat (first | apply Kd.V_alloc | apply Kd.V_drewN | apply Kd.V_drew)); exact HO_8.out) (Kd.R_base ho97) hb)
               have n1_ := Aside0.mk (Kd.V_elder' (by (with_reducible repeat (first | apply Kd.V_alloc | apply Kd.V_drewN | apply Kd.V_drew)); exact HO_9.out) (Kd.R_base ho97) hb)
               have n2_ := Aside0.mk (Kd.R_elder' (by (with_reducible repeat (first | apply Kd.R_alloc | apply Kd.R_drewN | apply Kd.R_drew)); exact HO_11.out) (Kd.R_base ho97) hb)
               have n3_ := Aside0.mk (Kd.R_lower (Kd.R_new' ho97 (Kd.R_lt (by (with_reducible repeat (first | apply Kd.R_alloc | apply Kd.R_drewN | apply Kd.R_drew)); exact HO_11.out))) (below_size (by repeat (first | (with_reducible first | exact HB.out | apply below_alloc | apply pw_below_drewN | apply below_drew1 | refine below_set ?_ GE331.out) | exact HB.out))))
               have n4_ := Aside0.mk (blk_below (g := gb331) (o := .cells #[.int .i64 t324, .int .i64 t325, .int .i64 t326, .int .i64 t327] 23 (0, 0)) (by (with_reducible repeat (first | refine blk_drewN ?_ _ | refine blk_drew ?_ | refine blk_alloc ?_ _)); exact BK331.out) hb)
               have n5_ := Aside0.mk (below_step (by repeat (first | (with_reducible first | exact HB.out | apply below_alloc | apply pw_below_drewN | apply below_drew1 | refine below_set ?_ GE331.out) | exact HB.out)) hb)
               clear HO_8
               clear HO_9
               clear HO_11
               clear BK331
               clear HB
               have HO_8 := n0_
               have HO_9 := n1_
               have HO_11 := n2_
               have HO355 := n3_
               have BK331 := n4_
               have HB := n5_
               clear n0_ n1_ n2_ n3_ n4_ n5_
               clear hb ho97
               obtain ⟨Ao98, co98, eo98⟩ := Kd.V_slice HO_8.out
               (first | subst eo98 | (injection eo98 with f1_ f2_ f3_; have f4_ := f1_.symm; have f5_ := f3_.symm; clear f1_ f2_ f3_; subst f4_; subst f5_))
               obtain ⟨Ao99, co99, eo99⟩ := Kd.R_slice HO355.out
               (first | subst eo99 | (injection eo99 with f1_ f2_ f3_; have f4_ := f1_.symm; have f5_ := f3_.symm; clear f1_ f2_ f3_; subst f4_; subst f5_))
               refine hK.out _ _ ⟨(blk_cell BK331.out 0).trans rfl, (blk_cell BK331.out 1).trans rfl, (blk_cell BK331.out 2).trans rfl, (blk_cell BK331.out 3).trans rfl, HS4_⟩ (fun hHeld => ?_)
               clear hK K
               refine norm_ (a' := ?_) ?_ ?_
               rotate_left
               ·show Act.put _ (some 152) _ = _
                simp only [Act.put, setIfInBounds_toArray, set_cons_zero, set_cons_succ, i64_w, i32_w]
                rfl
               refine one_ (i := 7) (N := some 153) #[true, true, true, true, true, true, true, true, false, false, false, false, false] rfl rfl (one_of HT_.out (by kernel_rfl)) (by decide) (fun K hK => ?_)
               refine goes_ Try.func18 (by kernel_rfl) rfl #[.agg #[.int .i64 t324, .int .i64 t325, .int .i64 t326, .int .i64 t327], .slice Ao98 x8_4.length co98, .slice Ao99 y353.length co99] (by rfl) rfl rfl (by (try simp only [List.map_toArray, List.map_cons, List.map_nil]); first | done | rfl | (simp only [List.length_drop, List.length_take]; rfl)) ?_
               with_reducible refine (space_Give.calls k4 t324 t325 t326 t327 (fun k_ => ((some k_ ≠ (.slice (some ad352) x11_2.length co78 : Value).ownBlock ∧ k_ ≠ gb331) ∧ some k_ ≠ (.slice Ao99 y353.length co99 : Value).ownBlock)) _ _ x8_4 _ _ y353 t356 true _ ?side1 ?side2 ?side3 A82.out).mono ?_
               (case side1 => exact HO_8.out)
               (case side2 => repeat (first | exact (Kd.R_reads' HO355.out).2.2 | (with_reducible refine Kd.C_alloc ?_ _) | (with_reducible refine Kd.C_drewN ?_ _) | (with_reducible refine Kd.C_drew ?_)))
               (case side3 => exact (Kd.R_reads' HO355.out).2.1)
               rintro e w100 ⟨v357, rfl, ho0, hb⟩
               have HS4_ := (hb.cell (World.block_lt_of_cell? _ _ (hHeld.2.2.2.2))).trans (hHeld.2.2.2.2)
               refine ⟨_, rfl, ?_⟩
               have n0_ := Aside0.mk (Kd.V_below (by (with_reducible repeat (first | apply Kd.V_alloc | apply Kd.V_drewN | apply Kd.V_drew)); exact HO_8.out) hb)
               have n1_ := Aside0.mk (Kd.V_below (by (with_reducible repeat (first | apply Kd.V_alloc | apply Kd.V_drewN | apply Kd.V_drew)); exact HO_9.out) hb)
               have n2_ := Aside0.mk (Kd.R_below (by (with_reducible repeat (first | apply Kd.R_alloc | apply Kd.R_drewN | apply Kd.R_drew)); exact HO_11.out) hb)
               have n3_ := Aside0.mk (Kd.R_below (by (with_reducible repeat (first | apply Kd.R_alloc | apply Kd.R_drewN | apply Kd.R_drew)); exact HO355.out) hb)
               have n4_ := Aside0.mk (Kd.V_lower (Kd.V_mono (ok' := fun k_ => some k_ ≠ (.slice (some ad352) x11_2.length co78 : Value).ownBlock ∧ some k_ ≠ (.slice Ao99 y353.length co99 : Value).ownBlock ∧ k_ ≠ gb331) ho0 (fun k_ hk_ => ⟨Or.elim hk_ (fun hs_ => hs_.1.1) (fun hn_ => (Kd.fresh' (Kd.R_lt (by (with_reducible repeat (first | apply Kd.R_alloc | apply Kd.R_drewN | apply Kd.R_drew)); exact HO_11.out)) k_ hn_)), Or.elim hk_ (fun hs_ => hs_.2) (fun hn_ => (Kd.fresh' (Kd.R_lt (by (with_reducible repeat (first | apply Kd.R_alloc | apply Kd.R_drewN | apply Kd.R_drew)); exact HO355.out)) k_ hn_)), Or.elim hk_ (fun hs_ => hs_.1.2) (fun hn_ => (Kd.freshB (g := gb331) (o := .cells #[.int .i64 t324, .int .i64 t325, .int .i64 t326, .int .i64 t327] 23 (0, 0)) (by (with_reducible repeat (first | refine blk_drewN ?_ _ | refine blk_drew ?_ | refine blk_alloc ?_ _)); exact BK331.out) k_ hn_))⟩)) (below_size (by repeat (first | (with_reducible first | exact HB.out | apply below_alloc | apply pw_below_drewN | apply below_drew1 | refine below_set ?_ GE331.out) | exact HB.out))))
               have n5_ := Aside0.mk (blk_below (g := gb331) (o := .cells #[.int .i64 t324, .int .i64 t325, .int .i64 t326, .int .i64 t327] 23 (0, 0)) (by (with_reducible repeat (first | refine blk_drewN ?_ _ | refine blk_drew ?_ | refine blk_alloc ?_ _)); exact BK331.out) hb)
               have n6_ := Aside0.mk (below_step (by repeat (first | (with_reducible first | exact HB.out | apply below_alloc | apply pw_below_drewN | apply below_drew1 | refine below_set ?_ GE331.out) | exact HB.out)) hb)
               clear HO_8
               clear HO_9
               clear HO_11
               clear HO355
               clear BK331
               clear HB
               have HO_8 := n0_
               have HO_9 := n1_
               have HO_11 := n2_
               have HO355 := n3_
               have HO358 := n4_
               have BK331 := n5_
               have HB := n6_
               clear n0_ n1_ n2_ n3_ n4_ n5_ n6_
               (try clear hb)
               (try clear hb2)
               (try clear hk)
               (try clear hi)
               (try clear ho0)
               refine hK.out _ _ ⟨(blk_cell BK331.out 0).trans rfl, (blk_cell BK331.out 1).trans rfl, (blk_cell BK331.out 2).trans rfl, (blk_cell BK331.out 3).trans rfl, HS4_⟩ (fun hHeld => ?_)
               clear hK K
               refine norm_ (a' := ?_) ?_ ?_
               rotate_left
               ·show Act.put _ (some 153) _ = _
                simp only [Act.put, setIfInBounds_toArray, set_cons_zero, set_cons_succ, i64_w, i32_w]
                rfl
               refine pure_ (i := 8) (N := some 145) (v := ?_) (a' := ?_) #[true, true, true, true, true, true, true, true, true, false, false, false, false] rfl rfl (any_of HT_.out (by kernel_rfl)) (fun _ _ _ h => h) (Or.inl ⟨by rfl, ?_⟩) ?_ ?_
               rotate_left
               ·intro w'
                go_simp
                first | with_reducible rfl | (rw [if_neg (by first | omega | (simp only [eq_iff_iff, iff_true, iff_false, decide_eq_true_eq, ByteArray.size_append, ByteArray.size_extract] at *; omega))])
               rotate_left
               ·simp only [Act.put, setIfInBounds_toArray, set_cons_zero, set_cons_succ, i64_w, i32_w]; rfl
               refine pure_ (i := 9) (N := some 154) (v := ?_) (a' := ?_) #[true, true, true, true, true, true, true, true, true, true, false, false, false] rfl rfl (any_of HT_.out (by kernel_rfl)) (fun _ _ _ h => h) (Or.inl ⟨by rfl, ?_⟩) ?_ ?_
               rotate_left
               ·intro w'
                go_simp
                first | with_reducible rfl | (rw [if_neg (by first | omega | (simp only [eq_iff_iff, iff_true, iff_false, decide_eq_true_eq, ByteArray.size_append, ByteArray.size_extract] at *; omega))])
               rotate_left
               ·simp only [Act.put, setIfInBounds_toArray, set_cons_zero, set_cons_succ, i64_w, i32_w]; rfl
               refine pure_ (i := 10) (N := some 155) (v := ?_) (a' := ?_) #[true, true, true, true, true, true, true, true, true, true, true, false, false] rfl rfl (any_of HT_.out (by kernel_rfl)) (fun _ _ _ h => h) (Or.inl ⟨by rfl, ?_⟩) ?_ ?_
               rotate_left
               ·intro w'
                go_simp
                first | with_reducible rfl | (rw [if_neg (by first | omega | (simp only [eq_iff_iff, iff_true, iff_false, decide_eq_true_eq, ByteArray.size_append, ByteArray.size_extract] at *; omega))])
               rotate_left
               ·simp only [Act.put, setIfInBounds_toArray, set_cons_zero, set_cons_succ, i64_w, i32_w]; rfl
               refine pure_ (i := 11) (N := some 19) (v := ?_) (a' := ?_) #[true, true, true, true, true, true, true, true, true, true, true, true, false] rfl rfl (any_of HT_.out (by kernel_rfl)) (fun _ _ _ h => h) (Or.inl ⟨by rfl, ?_⟩) ?_ ?_
               rotate_left
               ·intro w'
                go_simp
                first | with_reducible rfl | (rw [if_neg (by first | omega | (simp only [eq_iff_iff, iff_true, iff_false, decide_eq_true_eq, ByteArray.size_append, ByteArray.size_extract] at *; omega))])
               rotate_left
               ·simp only [Act.put, setIfInBounds_toArray, set_cons_zero, set_cons_succ, i64_w, i32_w]; rfl
               refine pure_ (i := 12) (N := some 20) (v := ?_) (a' := ?_) #[true, true, true, true, true, true, true, true, true, true, true, true, true] rfl rfl (any_of HT_.out (by kernel_rfl)) (fun _ _ _ h => h) (Or.inl ⟨by rfl, ?_⟩) ?_ ?_
               rotate_left
               ·intro w'
                go_simp
                first | with_reducible rfl | (rw [if_neg (by first | omega | (simp only [eq_iff_iff, iff_true, iff_false, decide_eq_true_eq, ByteArray.size_append, ByteArray.size_extract] at *; omega))])
               rotate_left
               ·simp only [Act.put, setIfInBounds_toArray, set_cons_zero, set_cons_succ, i64_w, i32_w]; rfl
               refine done_ (done_of HT_.out (by kernel_rfl)) ?_
               have hcz101_0 : w100.cell? ⟨gb331, 0, none⟩ = some (.int .i64 t324) := (blk_cell BK331.out 0).trans rfl
               have hcz101_1 : w100.cell? ⟨gb331, 1, none⟩ = some (.int .i64 t325) := (blk_cell BK331.out 1).trans rfl
               have hcz101_2 : w100.cell? ⟨gb331, 2, none⟩ = some (.int .i64 t326) := (blk_cell BK331.out 2).trans rfl
               have hcz101_3 : w100.cell? ⟨gb331, 3, none⟩ = some (.int .i64 t327) := (blk_cell BK331.out 3).trans rfl
               have hfz101_0 := blk_frozen BK331.out 0
               have hfz101_1 := blk_frozen BK331.out 1
               have hfz101_2 := blk_frozen BK331.out 2
               have hfz101_3 := blk_frozen BK331.out 3
               obtain ⟨Ao102, co102, eo102⟩ := Kd.V_slice HO358.out
               subst eo102
               try go_wp2_with (first | (go_at_call 12; (with_reducible refine (space_Free.calls k4 t324 t325 t326 t327 _ _ t356 t360 _ ?side1 ?side2 A84.out).mono ?_); (case side1 => repeat (first | exact (Kd.V_reads' HO358.out).2.2 | (with_reducible refine Kd.C_alloc ?_ _) | (with_reducible refine Kd.C_drewN ?_ _) | (with_reducible refine Kd.C_drew ?_))); (case side2 => exact (Kd.V_reads' HO358.out).2.1); rintro e w103 ⟨rfl, hb⟩; have n0_ := Aside0.mk (Kd.V_below (by (with_reducible repeat (first | apply Kd.V_alloc | apply Kd.V_drewN | apply Kd.V_drew)); exact HO_8.out) hb); have n1_ := Aside0.mk (Kd.V_below (by (with_reducible repeat (first | apply Kd.V_alloc | apply Kd.V_drewN | apply Kd.V_drew)); exact HO_9.out) hb); have n2_ := Aside0.mk (Kd.R_below (by (with_reducible repeat (first | apply Kd.R_alloc | apply Kd.R_drewN | apply Kd.R_drew)); exact HO_11.out) hb); have n3_ := Aside0.mk (Kd.R_below (by (with_reducible repeat (first | apply Kd.R_alloc | apply Kd.R_drewN | apply Kd.R_drew)); exact HO355.out) hb); have n4_ := Aside0.mk (Kd.V_below (by (with_reducible repeat (first | apply Kd.V_alloc | apply Kd.V_drewN | apply Kd.V_drew)); exact HO358.out) hb); have n5_ := Aside0.mk (blk_below (g := gb331) (o := .cells #[.int .i64 t324, .int .i64 t325, .int .i64 t326, .int .i64 t327] 23 (0, 0)) (by (with_reducible repeat (first | refine blk_drewN ?_ _ | refine blk_drew ?_ | refine blk_alloc ?_ _)); exact BK331.out) hb); have n6_ := Aside0.mk (below_step (by repeat (first | (with_reducible first | exact HB.out | apply below_alloc | apply pw_below_drewN | apply below_drew1 | refine below_set ?_ GE331.out) | exact HB.out)) hb); clear HO_8; clear HO_9; clear HO_11; clear HO355; clear HO358; clear BK331; clear HB; have HO_8 := n0_; have HO_9 := n1_; have HO_11 := n2_; have HO355 := n3_; have HO358 := n4_; have BK331 := n5_; have HB := n6_; clear n0_ n1_ n2_ n3_ n4_ n5_ n6_; (try clear hb); (try clear hb2); (try clear hk); (try clear hi)))
               go_ret
               exact ⟨by first | rfl | (simp [errW_none, errW_some] <;> rfl) | (simp [*, errW_none, errW_some] <;> rfl), by repeat (first | (with_reducible first | exact HB.out | apply below_alloc | apply pw_below_drewN | apply below_drew1 | refine below_set ?_ GE331.out) | exact HB.out)⟩
             ·replace c83 := Bool.eq_false_iff.mpr c83
              subst c83
              have H1 : (some false) = some r := by rw [if_neg (show ¬ (false = true) by decide)] at H; exact H
              clear H
              have H := H1
              clear H1
              obtain rfl := Option.some.inj H
              try go_wp2
              have n0_ := Aside0.mk (Kd.V_drew HO_8.out)
              have n1_ := Aside0.mk (Kd.V_drew HO_9.out)
              have n2_ := Aside0.mk (Kd.R_drew HO_11.out)
              have n3_ := Aside0.mk (blk_drew BK331.out)
              have n4_ := Aside0.mk (below_drew1 HB.out)
              clear HO_8
              clear HO_9
              clear HO_11
              clear BK331
              clear HB
              have HO_8 := n0_
              have HO_9 := n1_
              have HO_11 := n2_
              have BK331 := n3_
              have HB := n4_
              clear n0_ n1_ n2_ n3_ n4_
              have p352 : 0 ≤ (x18_4 : Int) := of_decide_eq_true (by first | (with_reducible assumption) | assumption)
              have q352 : x18_4 < (x11_2.length : Int) := of_decide_eq_true (by first | (with_reducible assumption) | assumption)
              obtain ⟨ad352, e352, hx352_0⟩ := Kd.at_int (Kd.R_reads' HO_11.out).2.2 x18_4 p352 q352
              cases e352
              replace p352 := eq_true p352
              replace q352 := eq_true q352
              refine start_ (n := 13) (S := fun w' => w'.cell? ⟨gb331, 0, none⟩ = some (.int .i64 t324) ∧ w'.cell? ⟨gb331, 1, none⟩ = some (.int .i64 t325) ∧ w'.cell? ⟨gb331, 2, none⟩ = some (.int .i64 t326) ∧ w'.cell? ⟨gb331, 3, none⟩ = some (.int .i64 t327) ∧ w'.cell? (ad352.add (x18_4).toNat) = some (.int .i64 (rd x11_2 x18_4))) (ds := []) #[false, false, false, false, false, false, false, false, false, false, false, false, false] (by kernel_rfl) rfl rfl ⟨(blk_cell BK331.out 0).trans rfl, (blk_cell BK331.out 1).trans rfl, (blk_cell BK331.out 2).trans rfl, (blk_cell BK331.out 3).trans rfl, hx352_0⟩ (fun hHeld => ?_); refine with_tabW lockgatelaw17_SpaceTurns.tab31 lockgatelaw17_SpaceTurns.bits31 (fun HT_ HW_ => ?_)
              generalize wr.drew = w104 at HO_8 HO_9 HO_11 BK331 HB hx352_0 hHeld ⊢
              refine pure_ (i := 1) (N := some 147) (v := ?_) (a' := ?_) #[false, true, false, false, false, false, false, false, false, false, false, false, false] rfl rfl (any_of HT_.out (by kernel_rfl)) (fun _ _ _ h => h) (Or.inl ⟨by rfl, ?_⟩) ?_ ?_
              rotate_left
              ·intro w'
               go_simp
               first | with_reducible rfl | (rw [if_neg (by first | omega | (simp only [eq_iff_iff, iff_true, iff_false, decide_eq_true_eq, ByteArray.size_append, ByteArray.size_extract] at *; omega))])
              rotate_left
              ·simp only [Act.put, setIfInBounds_toArray, set_cons_zero, set_cons_succ, i64_w, i32_w]; rfl
              refine pure_ (i := 2) (N := some 148) (v := ?_) (a' := ?_) #[false, true, true, false, false, false, false, false, false, false, false, false, false] rfl rfl (any_of HT_.out (by kernel_rfl)) (fun _ _ _ h => h) (Or.inl ⟨by rfl, ?_⟩) ?_ ?_
              rotate_left
              ·intro w'
               go_simp
               first | with_reducible rfl | (rw [if_neg (by first | omega | (simp only [eq_iff_iff, iff_true, iff_false, decide_eq_true_eq, ByteArray.size_append, ByteArray.size_extract] at *; omega))])
              rotate_left
              ·simp only [Act.put, setIfInBounds_toArray, set_cons_zero, set_cons_succ, i64_w, i32_w]; rfl
              refine pure_ (i := 3) (N := some 149) (v := ?_) (a' := ?_) #[false, true, true, true, false, false, false, false, false, false, false, false, false] rfl rfl (any_of HT_.out (by kernel_rfl)) (fun _ _ _ h => h) (Or.inl ⟨by rfl, ?_⟩) ?_ ?_
              rotate_left
              ·intro w'
               go_simp
               first | with_reducible rfl | (rw [if_neg (by first | omega | (simp only [eq_iff_iff, iff_true, iff_false, decide_eq_true_eq, ByteArray.size_append, ByteArray.size_extract] at *; omega))])
              rotate_left
              ·simp only [Act.put, setIfInBounds_toArray, set_cons_zero, set_cons_succ, i64_w, i32_w]; rfl
              refine pure_ (i := 4) (N := some 150) (v := ?_) (a' := ?_) #[false, true, true, true, true, false, false, false, false, false, false, false, false] rfl rfl (any_of HT_.out (by kernel_rfl)) (fun _ _ _ h => h) (Or.inl ⟨by rfl, ?_⟩) ?_ ?_
              rotate_left
              ·intro w'
               go_simp
               first | with_reducible rfl | (rw [if_neg (by first | omega | (simp only [eq_iff_iff, iff_true, iff_false, decide_eq_true_eq, ByteArray.size_append, ByteArray.size_extract] at *; omega))])
              rotate_left
              ·simp only [Act.put, setIfInBounds_toArray, set_cons_zero, set_cons_succ, i64_w, i32_w]; rfl
              refine take_ (i := 0) (N := some 146) (v := ?_) (a' := ?_) #[true, true, true, true, true, false, false, false, false, false, false, false, false] rfl rfl (take_ofW HT_.out HW_.out (by kernel_rfl)) (fun _ _ _ h => h) (Or.inl ⟨by rfl, ?_⟩) hHeld ?_ ?_
              rotate_left
              ·rintro w' ⟨s0, s1, s2, s3, s4⟩
               go_simp
               first | with_reducible rfl | (rw [if_neg (by first | omega | (simp only [eq_iff_iff, iff_true, iff_false, decide_eq_true_eq, ByteArray.size_append, ByteArray.size_extract] at *; omega))])
              rotate_left
              ·simp only [Act.put, setIfInBounds_toArray, set_cons_zero, set_cons_succ, i64_w, i32_w]; rfl
              refine take_ (i := 5) (N := some 151) (v := ?_) (a' := ?_) #[true, true, true, true, true, true, false, false, false, false, false, false, false] rfl rfl (take_ofW HT_.out HW_.out (by kernel_rfl)) (fun _ _ _ h => h) (Or.inl ⟨by rfl, ?_⟩) hHeld ?_ ?_
              rotate_left
              ·rintro w' ⟨s0, s1, s2, s3, s4⟩
               go_simp
               first | with_reducible rfl | (rw [if_neg (by first | omega | (simp only [eq_iff_iff, iff_true, iff_false, decide_eq_true_eq, ByteArray.size_append, ByteArray.size_extract] at *; omega))])
              rotate_left
              ·simp only [Act.put, setIfInBounds_toArray, set_cons_zero, set_cons_succ, i64_w, i32_w]; rfl
              refine one_ (i := 6) (N := some 152) #[true, true, true, true, true, true, true, false, false, false, false, false, false] rfl rfl (one_of HT_.out (by kernel_rfl)) (by decide) (fun K hK => ?_)
              refine Kd.R_lit_step (Kd.int .i64) _ 3 ?hg (N := 152) ?hd (xs := ([rd x11_2 x18_4] : List Int)) (inner := [.int .i64 (rd x11_2 x18_4)]) (ok := fun _ => True) (okp := fun _ => True) ?hr ?hp (fun _ hk => hk) trivial (Below.refl _ _) (Nat.le_refl _) (by simp) ?_; (case hd => rfl); (case hg => rfl); (case hr => first | (go_simp; done) | (go_simp; rfl)); (case hp => exact (Reps.one (show Kd.M (Kd.int .i64) _ _ _ (rd x11_2 x18_4) [.int .i64 (rd x11_2 x18_4)] from rfl) (Reps.none _ _)))
              intro v354 w105 ho106 hb hg_ hnew_
              have HS4_ := (hb.cell (World.block_lt_of_cell? _ _ (hHeld.2.2.2.2))).trans (hHeld.2.2.2.2)
              clear hg_ hnew_
              (first | rw [← Ny353.out] at ho106 | (simp only [Int.reduceToNat] at ho106; rw [← Ny353.out] at ho106))
              have n0_ := Aside0.mk (Kd.V_elder' (by (with_reducible repeat (first | apply Kd.V_alloc | apply Kd.V_drewN | apply Kd.V_drew)); exact HO_8.out) (Kd.R_base ho106) hb)
              have n1_ := Aside0.mk (Kd.V_elder' (by (with_reducible repeat (first | apply Kd.V_alloc | apply Kd.V_drewN | apply Kd.V_drew)); exact HO_9.out) (Kd.R_base ho106) hb)
              have n2_ := Aside0.mk (Kd.R_elder' (by (with_reducible repeat (first | apply Kd.R_alloc | apply Kd.R_drewN | apply Kd.R_drew)); exact HO_11.out) (Kd.R_base ho106) hb)
              have n3_ := Aside0.mk (Kd.R_lower (Kd.R_new' ho106 (Kd.R_lt (by (with_reducible repeat (first | apply Kd.R_alloc | apply Kd.R_drewN | apply Kd.R_drew)); exact HO_11.out))) (below_size (by repeat (first | (with_reducible first | exact HB.out | apply below_alloc | apply pw_below_drewN | apply below_drew1 | refine below_set ?_ GE331.out) | exact HB.out))))
              have n4_ := Aside0.mk (blk_below (g := gb331) (o := .cells #[.int .i64 t324, .int .i64 t325, .int .i64 t326, .int .i64 t327] 23 (0, 0)) (by (with_reducible repeat (first | refine blk_drewN ?_ _ | refine blk_drew ?_ | refine blk_alloc ?_ _)); exact BK331.out) hb)
              have n5_ := Aside0.mk (below_step (by repeat (first | (with_reducible first | exact HB.out | apply below_alloc | apply pw_below_drewN | apply below_drew1 | refine below_set ?_ GE331.out) | exact HB.out)) hb)
              clear HO_8
              clear HO_9
              clear HO_11
              clear BK331
              clear HB
              have HO_8 := n0_
              have HO_9 := n1_
              have HO_11 := n2_
              have HO355 := n3_
              have BK331 := n4_
              have HB := n5_
              clear n0_ n1_ n2_ n3_ n4_ n5_
              clear hb ho106
              obtain ⟨Ao107, co107, eo107⟩ := Kd.V_slice HO_8.out
              (first | subst eo107 | (injection eo107 with f1_ f2_ f3_; have f4_ := f1_.symm; have f5_ := f3_.symm; clear f1_ f2_ f3_; subst f4_; subst f5_))
              obtain ⟨Ao108, co108, eo108⟩ := Kd.R_slice HO355.out
              (first | subst eo108 | (injection eo108 with f1_ f2_ f3_; have f4_ := f1_.symm; have f5_ := f3_.symm; clear f1_ f2_ f3_; subst f4_; subst f5_))
              refine hK.out _ _ ⟨(blk_cell BK331.out 0).trans rfl, (blk_cell BK331.out 1).trans rfl, (blk_cell BK331.out 2).trans rfl, (blk_cell BK331.out 3).trans rfl, HS4_⟩ (fun hHeld => ?_)
              clear hK K
              refine norm_ (a' := ?_) ?_ ?_
              rotate_left
              ·show Act.put _ (some 152) _ = _
               simp only [Act.put, setIfInBounds_toArray, set_cons_zero, set_cons_succ, i64_w, i32_w]
               rfl
              refine one_ (i := 7) (N := some 153) #[true, true, true, true, true, true, true, true, false, false, false, false, false] rfl rfl (one_of HT_.out (by kernel_rfl)) (by decide) (fun K hK => ?_)
              refine goes_ Try.func18 (by kernel_rfl) rfl #[.agg #[.int .i64 t324, .int .i64 t325, .int .i64 t326, .int .i64 t327], .slice Ao107 x8_4.length co107, .slice Ao108 y353.length co108] (by rfl) rfl rfl (by (try simp only [List.map_toArray, List.map_cons, List.map_nil]); first | done | rfl | (simp only [List.length_drop, List.length_take]; rfl)) ?_
              with_reducible refine (space_Give.calls k4 t324 t325 t326 t327 (fun k_ => ((some k_ ≠ (.slice (some ad352) x11_2.length co78 : Value).ownBlock ∧ k_ ≠ gb331) ∧ some k_ ≠ (.slice Ao108 y353.length co108 : Value).ownBlock)) _ _ x8_4 _ _ y353 t356 false _ ?side1 ?side2 ?side3 A82.out).mono ?_
              (case side1 => exact HO_8.out)
              (case side2 => repeat (first | exact (Kd.R_reads' HO355.out).2.2 | (with_reducible refine Kd.C_alloc ?_ _) | (with_reducible refine Kd.C_drewN ?_ _) | (with_reducible refine Kd.C_drew ?_)))
              (case side3 => exact (Kd.R_reads' HO355.out).2.1)
              rintro e w109 ⟨v357, rfl, ho0, hb⟩
              have HS4_ := (hb.cell (World.block_lt_of_cell? _ _ (hHeld.2.2.2.2))).trans (hHeld.2.2.2.2)
              refine ⟨_, rfl, ?_⟩
              have n0_ := Aside0.mk (Kd.V_below (by (with_reducible repeat (first | apply Kd.V_alloc | apply Kd.V_drewN | apply Kd.V_drew)); exact HO_8.out) hb)
              have n1_ := Aside0.mk (Kd.V_below (by (with_reducible repeat (first | apply Kd.V_alloc | apply Kd.V_drewN | apply Kd.V_drew)); exact HO_9.out) hb)
              have n2_ := Aside0.mk (Kd.R_below (by (with_reducible repeat (first | apply Kd.R_alloc | apply Kd.R_drewN | apply Kd.R_drew)); exact HO_11.out) hb)
              have n3_ := Aside0.mk (Kd.R_below (by (with_reducible repeat (first | apply Kd.R_alloc | apply Kd.R_drewN | apply Kd.R_drew)); exact HO355.out) hb)
              have n4_ := Aside0.mk (Kd.V_lower (Kd.V_mono (ok' := fun k_ => some k_ ≠ (.slice (some ad352) x11_2.length co78 : Value).ownBlock ∧ some k_ ≠ (.slice Ao108 y353.length co108 : Value).ownBlock ∧ k_ ≠ gb331) ho0 (fun k_ hk_ => ⟨Or.elim hk_ (fun hs_ => hs_.1.1) (fun hn_ => (Kd.fresh' (Kd.R_lt (by (with_reducible repeat (first | apply Kd.R_alloc | apply Kd.R_drewN | apply Kd.R_drew)); exact HO_11.out)) k_ hn_)), Or.elim hk_ (fun hs_ => hs_.2) (fun hn_ => (Kd.fresh' (Kd.R_lt (by (with_reducible repeat (first | apply Kd.R_alloc | apply Kd.R_drewN | apply Kd.R_drew)); exact HO355.out)) k_ hn_)), Or.elim hk_ (fun hs_ => hs_.1.2) (fun hn_ => (Kd.freshB (g := gb331) (o := .cells #[.int .i64 t324, .int .i64 t325, .int .i64 t326, .int .i64 t327] 23 (0, 0)) (by (with_reducible repeat (first | refine blk_drewN ?_ _ | refine blk_drew ?_ | refine blk_alloc ?_ _)); exact BK331.out) k_ hn_))⟩)) (below_size (by repeat (first | (with_reducible first | exact HB.out | apply below_alloc | apply pw_below_drewN | apply below_drew1 | refine below_set ?_ GE331.out) | exact HB.out))))
              have n5_ := Aside0.mk (blk_below (g := gb331) (o := .cells #[.int .i64 t324, .int .i64 t325, .int .i64 t326, .int .i64 t327] 23 (0, 0)) (by (with_reducible repeat (first | refine blk_drewN ?_ _ | refine blk_drew ?_ | refine blk_alloc ?_ _)); exact BK331.out) hb)
              have n6_ := Aside0.mk (below_step (by repeat (first | (with_reducible first | exact HB.out | apply below_alloc | apply pw_below_drewN | apply below_drew1 | refine below_set ?_ GE331.out) | exact HB.out)) hb)
              clear HO_8
              clear HO_9
              clear HO_11
              clear HO355
              clear BK331
              clear HB
              have HO_8 := n0_
              have HO_9 := n1_
              have HO_11 := n2_
              have HO355 := n3_
              have HO358 := n4_
              have BK331 := n5_
              have HB := n6_
              clear n0_ n1_ n2_ n3_ n4_ n5_ n6_
              (try clear hb)
              (try clear hb2)
              (try clear hk)
              (try clear hi)
              (try clear ho0)
              refine hK.out _ _ ⟨(blk_cell BK331.out 0).trans rfl, (blk_cell BK331.out 1).trans rfl, (blk_cell BK331.out 2).trans rfl, (blk_cell BK331.out 3).trans rfl, HS4_⟩ (fun hHeld => ?_)
              clear hK K
              refine norm_ (a' := ?_) ?_ ?_
              rotate_left
              ·show Act.put _ (some 153) _ = _
               simp only [Act.put, setIfInBounds_toArray, set_cons_zero, set_cons_succ, i64_w, i32_w]
               rfl
              refine pure_ (i := 8) (N := some 145) (v := ?_) (a' := ?_) #[true, true, true, true, true, true, true, true, true, false, false, false, false] rfl rfl (any_of HT_.out (by kernel_rfl)) (fun _ _ _ h => h) (Or.inl ⟨by rfl, ?_⟩) ?_ ?_
              rotate_left
              ·intro w'
               go_simp
               first | with_reducible rfl | (rw [if_neg (by first | omega | (simp only [eq_iff_iff, iff_true, iff_false, decide_eq_true_eq, ByteArray.size_append, ByteArray.size_extract] at *; omega))])
              rotate_left
              ·simp only [Act.put, setIfInBounds_toArray, set_cons_zero, set_cons_succ, i64_w, i32_w]; rfl
              refine pure_ (i := 9) (N := some 154) (v := ?_) (a' := ?_) #[true, true, true, true, true, true, true, true, true, true, false, false, false] rfl rfl (any_of HT_.out (by kernel_rfl)) (fun _ _ _ h => h) (Or.inl ⟨by rfl, ?_⟩) ?_ ?_
              rotate_left
              ·intro w'
               go_simp
               first | with_reducible rfl | (rw [if_neg (by first | omega | (simp only [eq_iff_iff, iff_true, iff_false, decide_eq_true_eq, ByteArray.size_append, ByteArray.size_extract] at *; omega))])
              rotate_left
              ·simp only [Act.put, setIfInBounds_toArray, set_cons_zero, set_cons_succ, i64_w, i32_w]; rfl
              refine pure_ (i := 10) (N := some 155) (v := ?_) (a' := ?_) #[true, true, true, true, true, true, true, true, true, true, true, false, false] rfl rfl (any_of HT_.out (by kernel_rfl)) (fun _ _ _ h => h) (Or.inl ⟨by rfl, ?_⟩) ?_ ?_
              rotate_left
              ·intro w'
               go_simp
               first | with_reducible rfl | (rw [if_neg (by first | omega | (simp only [eq_iff_iff, iff_true, iff_false, decide_eq_true_eq, ByteArray.size_append, ByteArray.size_extract] at *; omega))])
              rotate_left
              ·simp only [Act.put, setIfInBounds_toArray, set_cons_zero, set_cons_succ, i64_w, i32_w]; rfl
              refine pure_ (i := 11) (N := some 19) (v := ?_) (a' := ?_) #[true, true, true, true, true, true, true, true, true, true, true, true, false] rfl rfl (any_of HT_.out (by kernel_rfl)) (fun _ _ _ h => h) (Or.inl ⟨by rfl, ?_⟩) ?_ ?_
              rotate_left
              ·intro w'
               go_simp
               first | with_reducible rfl | (rw [if_neg (by first | omega | (simp only [eq_iff_iff, iff_true, iff_false, decide_eq_true_eq, ByteArray.size_append, ByteArray.size_extract] at *; omega))])
              rotate_left
              ·simp only [Act.put, setIfInBounds_toArray, set_cons_zero, set_cons_succ, i64_w, i32_w]; rfl
              refine pure_ (i := 12) (N := some 20) (v := ?_) (a' := ?_) #[true, true, true, true, true, true, true, true, true, true, true, true, true] rfl rfl (any_of HT_.out (by kernel_rfl)) (fun _ _ _ h => h) (Or.inl ⟨by rfl, ?_⟩) ?_ ?_
              rotate_left
              ·intro w'
               go_simp
               first | with_reducible rfl | (rw [if_neg (by first | omega | (simp only [eq_iff_iff, iff_true, iff_false, decide_eq_true_eq, ByteArray.size_append, ByteArray.size_extract] at *; omega))])
              rotate_left
              ·simp only [Act.put, setIfInBounds_toArray, set_cons_zero, set_cons_succ, i64_w, i32_w]; rfl
              refine done_ (done_of HT_.out (by kernel_rfl)) ?_
              try go_wp2
              go_ret
              exact ⟨by first | rfl | (simp [errW_none, errW_some] <;> rfl) | (simp [*, errW_none, errW_some] <;> rfl), by repeat (first | (with_reducible first | exact HB.out | apply below_alloc | apply pw_below_drewN | apply below_drew1 | refine below_set ?_ GE331.out) | exact HB.out)⟩
            ·rw [if_neg c81] at H
             exact absurd H (by simp)
           ·rw [if_neg c80] at H
            exact absurd H (by simp)
          ·rw [if_neg c79] at H
           have c79b0 : decide (0 ≤ x18_4) = false := decide_eq_false c79
           clear c79
           replace H := Option.bind_eq_some_iff.mp H
           obtain ⟨t351, A1100, H⟩ := H
           replace H : (if t323 = true then (some t351) else (some false)) = some r := H
           have A110 := Aside0.mk A1100
           clear A1100
           by_cases c111 : t323 = true
           ·subst c111
            have H1 : (some t351) = some r := by rw [if_pos rfl] at H; exact H
            clear H
            have H := H1
            clear H1
            obtain rfl := Option.some.inj H
            obtain ⟨Ao112, co112, eo112⟩ := Kd.V_slice HO_8.out
            subst eo112
            go_wp2_with (first | ((with_reducible refine gate_callee (f := 20) rfl ?_); refine goesL_ (some 171) rfl rfl Try.func20 (by kernel_rfl) rfl #[.slice Ao112 x8_4.length co112, .slice Ao12 t328.length co12] rfl (by (try simp only [List.map_toArray, List.map_cons, List.map_nil]); first | done | rfl | (simp only [List.length_drop, List.length_take]; rfl)) ?_; (with_reducible refine (lockgateref15_SameNames.calls k4 _ _ x8_4 _ _ t328 t351 _ ?side1 ?side2 ?side3 ?side4 A110.out).mono ?_); (case side1 => repeat (first | exact (Kd.V_reads' HO_8.out).2.2 | (with_reducible refine Kd.C_alloc ?_ _) | (with_reducible refine Kd.C_drewN ?_ _) | (with_reducible refine Kd.C_drew ?_))); (case side2 => exact (Kd.V_reads' HO_8.out).2.1); (case side3 => repeat (first | exact (Kd.V_reads' HO_9.out).2.2 | (with_reducible refine Kd.C_alloc ?_ _) | (with_reducible refine Kd.C_drewN ?_ _) | (with_reducible refine Kd.C_drew ?_))); (case side4 => exact (Kd.V_reads' HO_9.out).2.1); rintro e w' ⟨rfl, ⟨nd, rfl⟩⟩; refine ⟨_, rfl, ?_⟩))
            go_ret
            exact ⟨by first | rfl | (simp [errW_none, errW_some] <;> rfl) | (simp [*, errW_none, errW_some] <;> rfl), by repeat (first | (with_reducible first | exact HB.out | apply below_alloc | apply pw_below_drewN | apply below_drew1 | refine below_set ?_ GE331.out) | exact HB.out)⟩
           ·replace c111 := Bool.eq_false_iff.mpr c111
            subst c111
            have H1 : (some false) = some r := by rw [if_neg (show ¬ (false = true) by decide)] at H; exact H
            clear H
            have H := H1
            clear H1
            obtain rfl := Option.some.inj H
            obtain ⟨Ao113, co113, eo113⟩ := Kd.V_slice HO_8.out
            subst eo113
            go_wp2_with (first | ((with_reducible refine gate_callee (f := 20) rfl ?_); refine goesL_ (some 171) rfl rfl Try.func20 (by kernel_rfl) rfl #[.slice Ao113 x8_4.length co113, .slice Ao12 t328.length co12] rfl (by (try simp only [List.map_toArray, List.map_cons, List.map_nil]); first | done | rfl | (simp only [List.length_drop, List.length_take]; rfl)) ?_; (with_reducible refine (lockgateref15_SameNames.calls k4 _ _ x8_4 _ _ t328 t351 _ ?side1 ?side2 ?side3 ?side4 A110.out).mono ?_); (case side1 => repeat (first | exact (Kd.V_reads' HO_8.out).2.2 | (with_reducible refine Kd.C_alloc ?_ _) | (with_reducible refine Kd.C_drewN ?_ _) | (with_reducible refine Kd.C_drew ?_))); (case side2 => exact (Kd.V_reads' HO_8.out).2.1); (case side3 => repeat (first | exact (Kd.V_reads' HO_9.out).2.2 | (with_reducible refine Kd.C_alloc ?_ _) | (with_reducible refine Kd.C_drewN ?_ _) | (with_reducible refine Kd.C_drew ?_))); (case side4 => exact (Kd.V_reads' HO_9.out).2.1); rintro e w' ⟨rfl, ⟨nd, rfl⟩⟩; refine ⟨_, rfl, ?_⟩))
            go_ret
            exact ⟨by first | rfl | (simp [errW_none, errW_some] <;> rfl) | (simp [*, errW_none, errW_some] <;> rfl), by repeat (first | (with_reducible first | exact HB.out | apply below_alloc | apply pw_below_drewN | apply below_drew1 | refine below_set ?_ GE331.out) | exact HB.out)⟩

end Go.Proofs.Ytehnbbabjnibkaa.Q
