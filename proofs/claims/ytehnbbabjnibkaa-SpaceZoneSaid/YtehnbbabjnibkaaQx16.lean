-- Written by mp.py (a program of this repo, over the print) for this seat: functions, contracts, walks.
import Derived.Test.YtehnbbabjnibkaaQx0
import Derived.Test.YtehnbbabjnibkaaQx3
import Derived.Test.YtehnbbabjnibkaaQx6
import Derived.Test.YtehnbbabjnibkaaQx8
import Derived.Test.YtehnbbabjnibkaaQx9
import Derived.Test.YtehnbbabjnibkaaQx10
import Derived.Test.YtehnbbabjnibkaaQx11
namespace Go.Proofs.Ytehnbbabjnibkaa.Q
open Go.RowKit Go.Proofs.YtehnbbabjnibkaaW.PrintWords Go.Proofs.YtehnbbabjnibkaaW.PrintLast Go.Proofs.YtehnbbabjnibkaaW.PrintMore
attribute [local go_sem] max2_int min2_int max_two min_two max_three min_three max_four min_four   -- for this text's walks alone
set_option linter.unusedVariables false
set_option linter.unusedSimpArgs false

/-! ### lockgatelaw17_SpaceZone: function 6 -/
open List (setIfInBounds_toArray set_cons_zero set_cons_succ)
mutual
def lockgatelaw17_SpaceZone.j0 : Nat → List (S32) → Bool → Int → Int → Int → List Int → Option (Bool)
 | 0, _, _, _, _, _, _ => none
 | k + 1, x1, x7, x8, x362000, x362001, x362002 => (lockgatelaw17_fresh.f k (wrap64 (140 + x8))).bind fun bt363 => (lockgatelaw17_SpaceZone.l0 k x1 x7 bt363.2.2.2.2 0 x362000 x362001 x362002 bt363.1 bt363.2.1 bt363.2.2.1 bt363.2.2.2.1)
def lockgatelaw17_SpaceZone.l0 : Nat → List (S32) → Bool → List ByteArray → Int → Int → Int → List Int → Int → Int → Int → Int → Option (Bool)
 | 0, _, _, _, _, _, _, _, _, _, _, _ => none
 | k + 1, x1, x7, x10, x11, x362000, x362001, x362002, x371000, x371001, x371002, x371003 => if x11 < (x1.length : Int) then (lockgatelaw17_SpaceZone.j2 k x1 x7 x10 x11 (decide (x11 < 6)) x362000 x362001 x362002 x371000 x371001 x371002 x371003) else (lockgatelaw17_SpaceZone.j2 k x1 x7 x10 x11 false x362000 x362001 x362002 x371000 x371001 x371002 x371003)
def lockgatelaw17_SpaceZone.j2 : Nat → List (S32) → Bool → List ByteArray → Int → Bool → Int → Int → List Int → Int → Int → Int → Int → Option (Bool)
 | 0, _, _, _, _, _, _, _, _, _, _, _, _ => none
 | k + 1, x1, x7, x10, x11, x46, x362000, x362001, x362002, x371000, x371001, x371002, x371003 => if x46 = true then (if 0 ≤ x11 then (if x11 < (x1.length : Int) then ((space_Take.f k x371000 x371001 x371002 x371003 x10 (Go.bits .and .i64 ((rd_T32 x1 x11).f0) 3) (Go.bits .and .i64 ((rd_T32 x1 x11).f1) 7)).bind fun bt373 => (if bt373.2.2 = true then (lockgatelaw17_SpaceZone.l0 k x1 x7 bt373.1 (wrap64 (x11 + 1)) x362000 x362001 x362002 x371000 x371001 x371002 x371003) else (lockgatelaw17_SpaceZone.l0 k x1 x7 x10 (wrap64 (x11 + 1)) x362000 x362001 x362002 x371000 x371001 x371002 x371003))) else (none)) else (none)) else (if (Int.tmod x362001 20) < 0 then (lockgatelaw17_SpaceZone.j3 k x7 x10 (Go.bits .and .i64 x362000 3) (wrap64 (-(Int.tmod x362001 20))) x371000 x371001 x371002 x371003) else (lockgatelaw17_SpaceZone.j3 k x7 x10 (Go.bits .and .i64 x362000 3) (Int.tmod x362001 20) x371000 x371001 x371002 x371003))
def lockgatelaw17_SpaceZone.j3 : Nat → Bool → List ByteArray → Int → Int → Int → Int → Int → Int → Option (Bool)
 | 0, _, _, _, _, _, _, _, _ => none
 | k + 1, x7, x10, x15, x16, x371000, x371001, x371002, x371003 => lockgatelaw17_SpaceZone.l1 k x7 x10 x15 x16 0 0 x371000 x371001 x371002 x371003
def lockgatelaw17_SpaceZone.l1 : Nat → Bool → List ByteArray → Int → Int → Int → Int → Int → Int → Int → Int → Option (Bool)
 | 0, _, _, _, _, _, _, _, _, _, _ => none
 | k + 1, x7, x10, x15, x16, x17, x18, x371000, x371001, x371002, x371003 => if x18 < x371003 then ((layout_Begin.f k x371000 x371001 x371002 x371003 x15).bind fun t380 => ((space_Taken.f k x371000 x371001 x371002 x371003 x10 (wrap64 (t380 + x18))).bind fun t381 => (if t381 = true then (lockgatelaw17_SpaceZone.l1 k x7 x10 x15 x16 x17 (wrap64 (x18 + 1)) x371000 x371001 x371002 x371003) else (lockgatelaw17_SpaceZone.l1 k x7 x10 x15 x16 (wrap64 (x17 + 1)) (wrap64 (x18 + 1)) x371000 x371001 x371002 x371003)))) else ((space_Take.f k x371000 x371001 x371002 x371003 x10 x15 x16).bind fun bt382 => (if bt382.2.2 = true then (lockgatelaw17_SpaceZone.l2 k x7 x15 x16 x17 bt382.2.1 0 0 x371000 x371001 x371002 x371003) else (if x7 = true then ((space_Free.f k x371000 x371001 x371002 x371003 x10).bind fun t389 => (some (decide (t389 < x16)))) else (some false))))
def lockgatelaw17_SpaceZone.l2 : Nat → Bool → Int → Int → Int → List Int → Int → Int → Int → Int → Int → Int → Option (Bool)
 | 0, _, _, _, _, _, _, _, _, _, _, _ => none
 | k + 1, x7, x15, x16, x17, x20, x22, x23, x371000, x371001, x371002, x371003 => if x23 < (x20.length : Int) then (if 0 ≤ x23 then ((layout_Zone.f k x371000 x371001 x371002 x371003 (rd x20 x23)).bind fun t391 => (if t391 = x15 then (lockgatelaw17_SpaceZone.j6 k x7 x15 x16 x17 x20 (wrap64 (x22 + 1)) x23 x371000 x371001 x371002 x371003) else (lockgatelaw17_SpaceZone.j6 k x7 x15 x16 x17 x20 x22 x23 x371000 x371001 x371002 x371003))) else (none)) else (if x17 < x16 then (if x7 = true then (if x22 = x17 then (some ((x20.length : Int) == x16)) else (some false)) else (some false)) else (if x7 = true then (if x22 = x16 then (some ((x20.length : Int) == x16)) else (some false)) else (some false)))
def lockgatelaw17_SpaceZone.j6 : Nat → Bool → Int → Int → Int → List Int → Int → Int → Int → Int → Int → Int → Option (Bool)
 | 0, _, _, _, _, _, _, _, _, _, _, _ => none
 | k + 1, x7, x15, x16, x17, x20, x22, x23, x371000, x371001, x371002, x371003 => lockgatelaw17_SpaceZone.l3 k x7 x15 x16 x17 x20 x22 x23 0 x371000 x371001 x371002 x371003
def lockgatelaw17_SpaceZone.l3 : Nat → Bool → Int → Int → Int → List Int → Int → Int → Int → Int → Int → Int → Int → Option (Bool)
 | 0, _, _, _, _, _, _, _, _, _, _, _, _ => none
 | k + 1, x7, x15, x16, x17, x20, x22, x23, x24, x371000, x371001, x371002, x371003 => if x24 < x23 then (if 0 ≤ x24 then (if x24 < (x20.length : Int) then (if 0 ≤ x23 then (if x23 < (x20.length : Int) then (if (rd x20 x24) = (rd x20 x23) then (some false) else (lockgatelaw17_SpaceZone.l3 k x7 x15 x16 x17 x20 x22 x23 (wrap64 (x24 + 1)) x371000 x371001 x371002 x371003)) else (none)) else (none)) else (none)) else (none)) else (lockgatelaw17_SpaceZone.l2 k x7 x15 x16 x17 x20 x22 (wrap64 (x23 + 1)) x371000 x371001 x371002 x371003)
end
def lockgatelaw17_SpaceZone.f (k : Nat) (a0 : Int) (l1 : List (S32)) (a2_0 : Int) (a2_1 : Int) (l2_2 : List Int) : Option (Bool) := (lockgatelaw17_awake.f k).bind fun t362 => (if (Int.tmod a0 101) < 0 then (lockgatelaw17_SpaceZone.j0 k l1 t362 (wrap64 (-(Int.tmod a0 101))) a2_0 a2_1 l2_2) else (lockgatelaw17_SpaceZone.j0 k l1 t362 (Int.tmod a0 101) a2_0 a2_1 l2_2))
theorem lockgatelaw17_SpaceZone.mono_l : ∀ k, (∀ y0 y1 y2 y3 y4 y5, LeO (lockgatelaw17_SpaceZone.j0 k y0 y1 y2 y3 y4 y5) (lockgatelaw17_SpaceZone.j0 (k + 1) y0 y1 y2 y3 y4 y5)) ∧ (∀ y0 y1 y2 y3 y4 y5 y6 y7 y8 y9 y10, LeO (lockgatelaw17_SpaceZone.l0 k y0 y1 y2 y3 y4 y5 y6 y7 y8 y9 y10) (lockgatelaw17_SpaceZone.l0 (k + 1) y0 y1 y2 y3 y4 y5 y6 y7 y8 y9 y10)) ∧ (∀ y0 y1 y2 y3 y4 y5 y6 y7 y8 y9 y10 y11, LeO (lockgatelaw17_SpaceZone.j2 k y0 y1 y2 y3 y4 y5 y6 y7 y8 y9 y10 y11) (lockgatelaw17_SpaceZone.j2 (k + 1) y0 y1 y2 y3 y4 y5 y6 y7 y8 y9 y10 y11)) ∧ (∀ y0 y1 y2 y3 y4 y5 y6 y7, LeO (lockgatelaw17_SpaceZone.j3 k y0 y1 y2 y3 y4 y5 y6 y7) (lockgatelaw17_SpaceZone.j3 (k + 1) y0 y1 y2 y3 y4 y5 y6 y7)) ∧ (∀ y0 y1 y2 y3 y4 y5 y6 y7 y8 y9, LeO (lockgatelaw17_SpaceZone.l1 k y0 y1 y2 y3 y4 y5 y6 y7 y8 y9) (lockgatelaw17_SpaceZone.l1 (k + 1) y0 y1 y2 y3 y4 y5 y6 y7 y8 y9)) ∧ (∀ y0 y1 y2 y3 y4 y5 y6 y7 y8 y9 y10, LeO (lockgatelaw17_SpaceZone.l2 k y0 y1 y2 y3 y4 y5 y6 y7 y8 y9 y10) (lockgatelaw17_SpaceZone.l2 (k + 1) y0 y1 y2 y3 y4 y5 y6 y7 y8 y9 y10)) ∧ (∀ y0 y1 y2 y3 y4 y5 y6 y7 y8 y9 y10, LeO (lockgatelaw17_SpaceZone.j6 k y0 y1 y2 y3 y4 y5 y6 y7 y8 y9 y10) (lockgatelaw17_SpaceZone.j6 (k + 1) y0 y1 y2 y3 y4 y5 y6 y7 y8 y9 y10)) ∧ (∀ y0 y1 y2 y3 y4 y5 y6 y7 y8 y9 y10 y11, LeO (lockgatelaw17_SpaceZone.l3 k y0 y1 y2 y3 y4 y5 y6 y7 y8 y9 y10 y11) (lockgatelaw17_SpaceZone.l3 (k + 1) y0 y1 y2 y3 y4 y5 y6 y7 y8 y9 y10 y11))
 | 0 => ⟨fun _ _ _ _ _ _ r h => by simp [lockgatelaw17_SpaceZone.j0] at h, fun _ _ _ _ _ _ _ _ _ _ _ r h => by simp [lockgatelaw17_SpaceZone.l0] at h, fun _ _ _ _ _ _ _ _ _ _ _ _ r h => by simp [lockgatelaw17_SpaceZone.j2] at h, fun _ _ _ _ _ _ _ _ r h => by simp [lockgatelaw17_SpaceZone.j3] at h, fun _ _ _ _ _ _ _ _ _ _ r h => by simp [lockgatelaw17_SpaceZone.l1] at h, fun _ _ _ _ _ _ _ _ _ _ _ r h => by simp [lockgatelaw17_SpaceZone.l2] at h, fun _ _ _ _ _ _ _ _ _ _ _ r h => by simp [lockgatelaw17_SpaceZone.j6] at h, fun _ _ _ _ _ _ _ _ _ _ _ _ r h => by simp [lockgatelaw17_SpaceZone.l3] at h⟩
 | k + 1 => by
  obtain ⟨ih0, ih1, ih2, ih3, ih4, ih5, ih6, ih7⟩ := lockgatelaw17_SpaceZone.mono_l k
  refine ⟨?_, ?_, ?_, ?_, ?_, ?_, ?_, ?_⟩
  ·intro y0 y1 y2 y3 y4 y5
   unfold lockgatelaw17_SpaceZone.j0
   repeat' first
   | (with_reducible exact ih0 _ _ _ _ _ _)
   | (with_reducible exact ih1 _ _ _ _ _ _ _ _ _ _ _)
   | (with_reducible exact ih2 _ _ _ _ _ _ _ _ _ _ _ _)
   | (with_reducible exact ih3 _ _ _ _ _ _ _ _)
   | (with_reducible exact ih4 _ _ _ _ _ _ _ _ _ _)
   | (with_reducible exact ih5 _ _ _ _ _ _ _ _ _ _ _)
   | (with_reducible exact ih6 _ _ _ _ _ _ _ _ _ _ _)
   | (with_reducible exact ih7 _ _ _ _ _ _ _ _ _ _ _ _)
   | (with_reducible exact layout_Begin.mono _ _ _ _ _ _)
   | (with_reducible exact layout_Zone.mono _ _ _ _ _ _)
   | (with_reducible exact lockgatelaw17_awake.mono _)
   | (with_reducible exact lockgatelaw17_fresh.mono _ _)
   | (with_reducible exact space_Free.mono _ _ _ _ _ _)
   | (with_reducible exact space_Take.mono _ _ _ _ _ _ _ _)
   | (with_reducible exact space_Taken.mono _ _ _ _ _ _ _)
   | (with_reducible exact LeO.refl _)
   | (with_reducible exact LeO.none _)
   | (with_reducible refine LeO.ite ?_ ?_)
   | (with_reducible refine LeO.bind ?_ (fun _ => ?_))
   | exact ih0 _ _ _ _ _ _
   | exact ih1 _ _ _ _ _ _ _ _ _ _ _
   | exact ih2 _ _ _ _ _ _ _ _ _ _ _ _
   | exact ih3 _ _ _ _ _ _ _ _
   | exact ih4 _ _ _ _ _ _ _ _ _ _
   | exact ih5 _ _ _ _ _ _ _ _ _ _ _
   | exact ih6 _ _ _ _ _ _ _ _ _ _ _
   | exact ih7 _ _ _ _ _ _ _ _ _ _ _ _
   | exact layout_Begin.mono _ _ _ _ _ _
   | exact layout_Zone.mono _ _ _ _ _ _
   | exact lockgatelaw17_awake.mono _
   | exact lockgatelaw17_fresh.mono _ _
   | exact space_Free.mono _ _ _ _ _ _
   | exact space_Take.mono _ _ _ _ _ _ _ _
   | exact space_Taken.mono _ _ _ _ _ _ _
   | exact LeO.none _
   | refine LeO.ite ?_ ?_
   | refine LeO.bind ?_ (fun _ => ?_)
  ·intro y0 y1 y2 y3 y4 y5 y6 y7 y8 y9 y10
   unfold lockgatelaw17_SpaceZone.l0
   repeat' first
   | (with_reducible exact ih0 _ _ _ _ _ _)
   | (with_reducible exact ih1 _ _ _ _ _ _ _ _ _ _ _)
   | (with_reducible exact ih2 _ _ _ _ _ _ _ _ _ _ _ _)
   | (with_reducible exact ih3 _ _ _ _ _ _ _ _)
   | (with_reducible exact ih4 _ _ _ _ _ _ _ _ _ _)
   | (with_reducible exact ih5 _ _ _ _ _ _ _ _ _ _ _)
   | (with_reducible exact ih6 _ _ _ _ _ _ _ _ _ _ _)
   | (with_reducible exact ih7 _ _ _ _ _ _ _ _ _ _ _ _)
   | (with_reducible exact layout_Begin.mono _ _ _ _ _ _)
   | (with_reducible exact layout_Zone.mono _ _ _ _ _ _)
   | (with_reducible exact lockgatelaw17_awake.mono _)
   | (with_reducible exact lockgatelaw17_fresh.mono _ _)
   | (with_reducible exact space_Free.mono _ _ _ _ _ _)
   | (with_reducible exact space_Take.mono _ _ _ _ _ _ _ _)
   | (with_reducible exact space_Taken.mono _ _ _ _ _ _ _)
   | (with_reducible exact LeO.refl _)
   | (with_reducible exact LeO.none _)
   | (with_reducible refine LeO.ite ?_ ?_)
   | (with_reducible refine LeO.bind ?_ (fun _ => ?_))
   | exact ih0 _ _ _ _ _ _
   | exact ih1 _ _ _ _ _ _ _ _ _ _ _
   | exact ih2 _ _ _ _ _ _ _ _ _ _ _ _
   | exact ih3 _ _ _ _ _ _ _ _
   | exact ih4 _ _ _ _ _ _ _ _ _ _
   | exact ih5 _ _ _ _ _ _ _ _ _ _ _
   | exact ih6 _ _ _ _ _ _ _ _ _ _ _
   | exact ih7 _ _ _ _ _ _ _ _ _ _ _ _
   | exact layout_Begin.mono _ _ _ _ _ _
   | exact layout_Zone.mono _ _ _ _ _ _
   | exact lockgatelaw17_awake.mono _
   | exact lockgatelaw17_fresh.mono _ _
   | exact space_Free.mono _ _ _ _ _ _
   | exact space_Take.mono _ _ _ _ _ _ _ _
   | exact space_Taken.mono _ _ _ _ _ _ _
   | exact LeO.none _
   | refine LeO.ite ?_ ?_
   | refine LeO.bind ?_ (fun _ => ?_)
  ·intro y0 y1 y2 y3 y4 y5 y6 y7 y8 y9 y10 y11
   unfold lockgatelaw17_SpaceZone.j2
   repeat' first
   | (with_reducible exact ih0 _ _ _ _ _ _)
   | (with_reducible exact ih1 _ _ _ _ _ _ _ _ _ _ _)
   | (with_reducible exact ih2 _ _ _ _ _ _ _ _ _ _ _ _)
   | (with_reducible exact ih3 _ _ _ _ _ _ _ _)
   | (with_reducible exact ih4 _ _ _ _ _ _ _ _ _ _)
   | (with_reducible exact ih5 _ _ _ _ _ _ _ _ _ _ _)
   | (with_reducible exact ih6 _ _ _ _ _ _ _ _ _ _ _)
   | (with_reducible exact ih7 _ _ _ _ _ _ _ _ _ _ _ _)
   | (with_reducible exact layout_Begin.mono _ _ _ _ _ _)
   | (with_reducible exact layout_Zone.mono _ _ _ _ _ _)
   | (with_reducible exact lockgatelaw17_awake.mono _)
   | (with_reducible exact lockgatelaw17_fresh.mono _ _)
   | (with_reducible exact space_Free.mono _ _ _ _ _ _)
   | (with_reducible exact space_Take.mono _ _ _ _ _ _ _ _)
   | (with_reducible exact space_Taken.mono _ _ _ _ _ _ _)
   | (with_reducible exact LeO.refl _)
   | (with_reducible exact LeO.none _)
   | (with_reducible refine LeO.ite ?_ ?_)
   | (with_reducible refine LeO.bind ?_ (fun _ => ?_))
   | exact ih0 _ _ _ _ _ _
   | exact ih1 _ _ _ _ _ _ _ _ _ _ _
   | exact ih2 _ _ _ _ _ _ _ _ _ _ _ _
   | exact ih3 _ _ _ _ _ _ _ _
   | exact ih4 _ _ _ _ _ _ _ _ _ _
   | exact ih5 _ _ _ _ _ _ _ _ _ _ _
   | exact ih6 _ _ _ _ _ _ _ _ _ _ _
   | exact ih7 _ _ _ _ _ _ _ _ _ _ _ _
   | exact layout_Begin.mono _ _ _ _ _ _
   | exact layout_Zone.mono _ _ _ _ _ _
   | exact lockgatelaw17_awake.mono _
   | exact lockgatelaw17_fresh.mono _ _
   | exact space_Free.mono _ _ _ _ _ _
   | exact space_Take.mono _ _ _ _ _ _ _ _
   | exact space_Taken.mono _ _ _ _ _ _ _
   | exact LeO.none _
   | refine LeO.ite ?_ ?_
   | refine LeO.bind ?_ (fun _ => ?_)
  ·intro y0 y1 y2 y3 y4 y5 y6 y7
   unfold lockgatelaw17_SpaceZone.j3
   repeat' first
   | (with_reducible exact ih0 _ _ _ _ _ _)
   | (with_reducible exact ih1 _ _ _ _ _ _ _ _ _ _ _)
   | (with_reducible exact ih2 _ _ _ _ _ _ _ _ _ _ _ _)
   | (with_reducible exact ih3 _ _ _ _ _ _ _ _)
   | (with_reducible exact ih4 _ _ _ _ _ _ _ _ _ _)
   | (with_reducible exact ih5 _ _ _ _ _ _ _ _ _ _ _)
   | (with_reducible exact ih6 _ _ _ _ _ _ _ _ _ _ _)
   | (with_reducible exact ih7 _ _ _ _ _ _ _ _ _ _ _ _)
   | (with_reducible exact layout_Begin.mono _ _ _ _ _ _)
   | (with_reducible exact layout_Zone.mono _ _ _ _ _ _)
   | (with_reducible exact lockgatelaw17_awake.mono _)
   | (with_reducible exact lockgatelaw17_fresh.mono _ _)
   | (with_reducible exact space_Free.mono _ _ _ _ _ _)
   | (with_reducible exact space_Take.mono _ _ _ _ _ _ _ _)
   | (with_reducible exact space_Taken.mono _ _ _ _ _ _ _)
   | (with_reducible exact LeO.refl _)
   | (with_reducible exact LeO.none _)
   | (with_reducible refine LeO.ite ?_ ?_)
   | (with_reducible refine LeO.bind ?_ (fun _ => ?_))
   | exact ih0 _ _ _ _ _ _
   | exact ih1 _ _ _ _ _ _ _ _ _ _ _
   | exact ih2 _ _ _ _ _ _ _ _ _ _ _ _
   | exact ih3 _ _ _ _ _ _ _ _
   | exact ih4 _ _ _ _ _ _ _ _ _ _
   | exact ih5 _ _ _ _ _ _ _ _ _ _ _
   | exact ih6 _ _ _ _ _ _ _ _ _ _ _
   | exact ih7 _ _ _ _ _ _ _ _ _ _ _ _
   | exact layout_Begin.mono _ _ _ _ _ _
   | exact layout_Zone.mono _ _ _ _ _ _
   | exact lockgatelaw17_awake.mono _
   | exact lockgatelaw17_fresh.mono _ _
   | exact space_Free.mono _ _ _ _ _ _
   | exact space_Take.mono _ _ _ _ _ _ _ _
   | exact space_Taken.mono _ _ _ _ _ _ _
   | exact LeO.none _
   | refine LeO.ite ?_ ?_
   | refine LeO.bind ?_ (fun _ => ?_)
  ·intro y0 y1 y2 y3 y4 y5 y6 y7 y8 y9
   unfold lockgatelaw17_SpaceZone.l1
   repeat' first
   | (with_reducible exact ih0 _ _ _ _ _ _)
   | (with_reducible exact ih1 _ _ _ _ _ _ _ _ _ _ _)
   | (with_reducible exact ih2 _ _ _ _ _ _ _ _ _ _ _ _)
   | (with_reducible exact ih3 _ _ _ _ _ _ _ _)
   | (with_reducible exact ih4 _ _ _ _ _ _ _ _ _ _)
   | (with_reducible exact ih5 _ _ _ _ _ _ _ _ _ _ _)
   | (with_reducible exact ih6 _ _ _ _ _ _ _ _ _ _ _)
   | (with_reducible exact ih7 _ _ _ _ _ _ _ _ _ _ _ _)
   | (with_reducible exact layout_Begin.mono _ _ _ _ _ _)
   | (with_reducible exact layout_Zone.mono _ _ _ _ _ _)
   | (with_reducible exact lockgatelaw17_awake.mono _)
   | (with_reducible exact lockgatelaw17_fresh.mono _ _)
   | (with_reducible exact space_Free.mono _ _ _ _ _ _)
   | (with_reducible exact space_Take.mono _ _ _ _ _ _ _ _)
   | (with_reducible exact space_Taken.mono _ _ _ _ _ _ _)
   | (with_reducible exact LeO.refl _)
   | (with_reducible exact LeO.none _)
   | (with_reducible refine LeO.ite ?_ ?_)
   | (with_reducible refine LeO.bind ?_ (fun _ => ?_))
   | exact ih0 _ _ _ _ _ _
   | exact ih1 _ _ _ _ _ _ _ _ _ _ _
   | exact ih2 _ _ _ _ _ _ _ _ _ _ _ _
   | exact ih3 _ _ _ _ _ _ _ _
   | exact ih4 _ _ _ _ _ _ _ _ _ _
   | exact ih5 _ _ _ _ _ _ _ _ _ _ _
   | exact ih6 _ _ _ _ _ _ _ _ _ _ _
   | exact ih7 _ _ _ _ _ _ _ _ _ _ _ _
   | exact layout_Begin.mono _ _ _ _ _ _
   | exact layout_Zone.mono _ _ _ _ _ _
   | exact lockgatelaw17_awake.mono _
   | exact lockgatelaw17_fresh.mono _ _
   | exact space_Free.mono _ _ _ _ _ _
   | exact space_Take.mono _ _ _ _ _ _ _ _
   | exact space_Taken.mono _ _ _ _ _ _ _
   | exact LeO.none _
   | refine LeO.ite ?_ ?_
   | refine LeO.bind ?_ (fun _ => ?_)
  ·intro y0 y1 y2 y3 y4 y5 y6 y7 y8 y9 y10
   unfold lockgatelaw17_SpaceZone.l2
   repeat' first
   | (with_reducible exact ih0 _ _ _ _ _ _)
   | (with_reducible exact ih1 _ _ _ _ _ _ _ _ _ _ _)
   | (with_reducible exact ih2 _ _ _ _ _ _ _ _ _ _ _ _)
   | (with_reducible exact ih3 _ _ _ _ _ _ _ _)
   | (with_reducible exact ih4 _ _ _ _ _ _ _ _ _ _)
   | (with_reducible exact ih5 _ _ _ _ _ _ _ _ _ _ _)
   | (with_reducible exact ih6 _ _ _ _ _ _ _ _ _ _ _)
   | (with_reducible exact ih7 _ _ _ _ _ _ _ _ _ _ _ _)
   | (with_reducible exact layout_Begin.mono _ _ _ _ _ _)
   | (with_reducible exact layout_Zone.mono _ _ _ _ _ _)
   | (with_reducible exact lockgatelaw17_awake.mono _)
   | (with_reducible exact lockgatelaw17_fresh.mono _ _)
   | (with_reducible exact space_Free.mono _ _ _ _ _ _)
   | (with_reducible exact space_Take.mono _ _ _ _ _ _ _ _)
   | (with_reducible exact space_Taken.mono _ _ _ _ _ _ _)
   | (with_reducible exact LeO.refl _)
   | (with_reducible exact LeO.none _)
   | (with_reducible refine LeO.ite ?_ ?_)
   | (with_reducible refine LeO.bind ?_ (fun _ => ?_))
   | exact ih0 _ _ _ _ _ _
   | exact ih1 _ _ _ _ _ _ _ _ _ _ _
   | exact ih2 _ _ _ _ _ _ _ _ _ _ _ _
   | exact ih3 _ _ _ _ _ _ _ _
   | exact ih4 _ _ _ _ _ _ _ _ _ _
   | exact ih5 _ _ _ _ _ _ _ _ _ _ _
   | exact ih6 _ _ _ _ _ _ _ _ _ _ _
   | exact ih7 _ _ _ _ _ _ _ _ _ _ _ _
   | exact layout_Begin.mono _ _ _ _ _ _
   | exact layout_Zone.mono _ _ _ _ _ _
   | exact lockgatelaw17_awake.mono _
   | exact lockgatelaw17_fresh.mono _ _
   | exact space_Free.mono _ _ _ _ _ _
   | exact space_Take.mono _ _ _ _ _ _ _ _
   | exact space_Taken.mono _ _ _ _ _ _ _
   | exact LeO.none _
   | refine LeO.ite ?_ ?_
   | refine LeO.bind ?_ (fun _ => ?_)
  ·intro y0 y1 y2 y3 y4 y5 y6 y7 y8 y9 y10
   unfold lockgatelaw17_SpaceZone.j6
   repeat' first
   | (with_reducible exact ih0 _ _ _ _ _ _)
   | (with_reducible exact ih1 _ _ _ _ _ _ _ _ _ _ _)
   | (with_reducible exact ih2 _ _ _ _ _ _ _ _ _ _ _ _)
   | (with_reducible exact ih3 _ _ _ _ _ _ _ _)
   | (with_reducible exact ih4 _ _ _ _ _ _ _ _ _ _)
   | (with_reducible exact ih5 _ _ _ _ _ _ _ _ _ _ _)
   | (with_reducible exact ih6 _ _ _ _ _ _ _ _ _ _ _)
   | (with_reducible exact ih7 _ _ _ _ _ _ _ _ _ _ _ _)
   | (with_reducible exact layout_Begin.mono _ _ _ _ _ _)
   | (with_reducible exact layout_Zone.mono _ _ _ _ _ _)
   | (with_reducible exact lockgatelaw17_awake.mono _)
   | (with_reducible exact lockgatelaw17_fresh.mono _ _)
   | (with_reducible exact space_Free.mono _ _ _ _ _ _)
   | (with_reducible exact space_Take.mono _ _ _ _ _ _ _ _)
   | (with_reducible exact space_Taken.mono _ _ _ _ _ _ _)
   | (with_reducible exact LeO.refl _)
   | (with_reducible exact LeO.none _)
   | (with_reducible refine LeO.ite ?_ ?_)
   | (with_reducible refine LeO.bind ?_ (fun _ => ?_))
   | exact ih0 _ _ _ _ _ _
   | exact ih1 _ _ _ _ _ _ _ _ _ _ _
   | exact ih2 _ _ _ _ _ _ _ _ _ _ _ _
   | exact ih3 _ _ _ _ _ _ _ _
   | exact ih4 _ _ _ _ _ _ _ _ _ _
   | exact ih5 _ _ _ _ _ _ _ _ _ _ _
   | exact ih6 _ _ _ _ _ _ _ _ _ _ _
   | exact ih7 _ _ _ _ _ _ _ _ _ _ _ _
   | exact layout_Begin.mono _ _ _ _ _ _
   | exact layout_Zone.mono _ _ _ _ _ _
   | exact lockgatelaw17_awake.mono _
   | exact lockgatelaw17_fresh.mono _ _
   | exact space_Free.mono _ _ _ _ _ _
   | exact space_Take.mono _ _ _ _ _ _ _ _
   | exact space_Taken.mono _ _ _ _ _ _ _
   | exact LeO.none _
   | refine LeO.ite ?_ ?_
   | refine LeO.bind ?_ (fun _ => ?_)
  ·intro y0 y1 y2 y3 y4 y5 y6 y7 y8 y9 y10 y11
   unfold lockgatelaw17_SpaceZone.l3
   repeat' first
   | (with_reducible exact ih0 _ _ _ _ _ _)
   | (with_reducible exact ih1 _ _ _ _ _ _ _ _ _ _ _)
   | (with_reducible exact ih2 _ _ _ _ _ _ _ _ _ _ _ _)
   | (with_reducible exact ih3 _ _ _ _ _ _ _ _)
   | (with_reducible exact ih4 _ _ _ _ _ _ _ _ _ _)
   | (with_reducible exact ih5 _ _ _ _ _ _ _ _ _ _ _)
   | (with_reducible exact ih6 _ _ _ _ _ _ _ _ _ _ _)
   | (with_reducible exact ih7 _ _ _ _ _ _ _ _ _ _ _ _)
   | (with_reducible exact layout_Begin.mono _ _ _ _ _ _)
   | (with_reducible exact layout_Zone.mono _ _ _ _ _ _)
   | (with_reducible exact lockgatelaw17_awake.mono _)
   | (with_reducible exact lockgatelaw17_fresh.mono _ _)
   | (with_reducible exact space_Free.mono _ _ _ _ _ _)
   | (with_reducible exact space_Take.mono _ _ _ _ _ _ _ _)
   | (with_reducible exact space_Taken.mono _ _ _ _ _ _ _)
   | (with_reducible exact LeO.refl _)
   | (with_reducible exact LeO.none _)
   | (with_reducible refine LeO.ite ?_ ?_)
   | (with_reducible refine LeO.bind ?_ (fun _ => ?_))
   | exact ih0 _ _ _ _ _ _
   | exact ih1 _ _ _ _ _ _ _ _ _ _ _
   | exact ih2 _ _ _ _ _ _ _ _ _ _ _ _
   | exact ih3 _ _ _ _ _ _ _ _
   | exact ih4 _ _ _ _ _ _ _ _ _ _
   | exact ih5 _ _ _ _ _ _ _ _ _ _ _
   | exact ih6 _ _ _ _ _ _ _ _ _ _ _
   | exact ih7 _ _ _ _ _ _ _ _ _ _ _ _
   | exact layout_Begin.mono _ _ _ _ _ _
   | exact layout_Zone.mono _ _ _ _ _ _
   | exact lockgatelaw17_awake.mono _
   | exact lockgatelaw17_fresh.mono _ _
   | exact space_Free.mono _ _ _ _ _ _
   | exact space_Take.mono _ _ _ _ _ _ _ _
   | exact space_Taken.mono _ _ _ _ _ _ _
   | exact LeO.none _
   | refine LeO.ite ?_ ?_
   | refine LeO.bind ?_ (fun _ => ?_)
theorem lockgatelaw17_SpaceZone.mono : ∀ a0 a1 a2 a3 a4 k, LeO (lockgatelaw17_SpaceZone.f k a0 a1 a2 a3 a4) (lockgatelaw17_SpaceZone.f (k + 1) a0 a1 a2 a3 a4) := by
 intro a0 a1 a2 a3 a4 k
 obtain ⟨ih0, ih1, ih2, ih3, ih4, ih5, ih6, ih7⟩ := lockgatelaw17_SpaceZone.mono_l k
 unfold lockgatelaw17_SpaceZone.f
 repeat' first
   | (with_reducible exact ih0 _ _ _ _ _ _)
   | (with_reducible exact ih1 _ _ _ _ _ _ _ _ _ _ _)
   | (with_reducible exact ih2 _ _ _ _ _ _ _ _ _ _ _ _)
   | (with_reducible exact ih3 _ _ _ _ _ _ _ _)
   | (with_reducible exact ih4 _ _ _ _ _ _ _ _ _ _)
   | (with_reducible exact ih5 _ _ _ _ _ _ _ _ _ _ _)
   | (with_reducible exact ih6 _ _ _ _ _ _ _ _ _ _ _)
   | (with_reducible exact ih7 _ _ _ _ _ _ _ _ _ _ _ _)
   | (with_reducible exact layout_Begin.mono _ _ _ _ _ _)
   | (with_reducible exact layout_Zone.mono _ _ _ _ _ _)
   | (with_reducible exact lockgatelaw17_awake.mono _)
   | (with_reducible exact lockgatelaw17_fresh.mono _ _)
   | (with_reducible exact space_Free.mono _ _ _ _ _ _)
   | (with_reducible exact space_Take.mono _ _ _ _ _ _ _ _)
   | (with_reducible exact space_Taken.mono _ _ _ _ _ _ _)
   | (with_reducible exact LeO.refl _)
   | (with_reducible exact LeO.none _)
   | (with_reducible refine LeO.ite ?_ ?_)
   | (with_reducible refine LeO.bind ?_ (fun _ => ?_))
   | exact ih0 _ _ _ _ _ _
   | exact ih1 _ _ _ _ _ _ _ _ _ _ _
   | exact ih2 _ _ _ _ _ _ _ _ _ _ _ _
   | exact ih3 _ _ _ _ _ _ _ _
   | exact ih4 _ _ _ _ _ _ _ _ _ _
   | exact ih5 _ _ _ _ _ _ _ _ _ _ _
   | exact ih6 _ _ _ _ _ _ _ _ _ _ _
   | exact ih7 _ _ _ _ _ _ _ _ _ _ _ _
   | exact layout_Begin.mono _ _ _ _ _ _
   | exact layout_Zone.mono _ _ _ _ _ _
   | exact lockgatelaw17_awake.mono _
   | exact lockgatelaw17_fresh.mono _ _
   | exact space_Free.mono _ _ _ _ _ _
   | exact space_Take.mono _ _ _ _ _ _ _ _
   | exact space_Taken.mono _ _ _ _ _ _ _
   | exact LeO.none _
   | refine LeO.ite ?_ ?_
   | refine LeO.bind ?_ (fun _ => ?_)
def lockgatelaw17_SpaceZone.T9 : Bool × List (List Nat × List Nat) := (true, [([], []), ([], []), ([], []), ([], []), ([2, 3], [2, 3]), ([4], [4]), ([5], [5]), ([6], [6]), ([], []), ([], []), ([8, 9], [8, 9]), ([10], [10]), ([11], [11]), ([12], [12]), ([0, 1, 7, 13], [0, 1, 7, 13]), ([14], [14]), ([15], [15]), ([15], [15]), ([15], [15]), ([16, 14, 0, 1, 2, 3, 4, 5, 6, 7, 8, 9, 10, 11, 12, 13, 14, 15, 16], [16]), ([17, 19, 0, 1, 2, 3, 4, 5, 6, 7, 8, 9, 10, 11, 12, 13, 14, 15, 16, 17, 19], [17]), ([18, 20, 0, 1, 2, 3, 4, 5, 6, 7, 8, 9, 10, 11, 12, 13, 14, 15, 16, 17, 18, 19, 20], [18])])
def lockgatelaw17_SpaceZone.B9 : List Nat := [0, 0, 0, 0, 12, 28, 60, 124, 0, 0, 768, 1792, 3840, 7936, 16383, 32767, 65535, 65535, 65535, 131071, 786431, 2097151]
theorem lockgatelaw17_SpaceZone.tab9 : rtab .any (opsOf Try.f6 9) = lockgatelaw17_SpaceZone.T9 := by kernel_rfl
theorem lockgatelaw17_SpaceZone.bits9 : waitsOk lockgatelaw17_SpaceZone.T9.2 lockgatelaw17_SpaceZone.B9 = true := by kernel_rfl
def lockgatelaw17_SpaceZone.T20 : Bool × List (List Nat × List Nat) := (true, [([], []), ([], []), ([], []), ([], []), ([2, 3], [2, 3]), ([], []), ([4, 5], [4, 5]), ([0, 1, 6, 4], [0, 1, 6]), ([7], [7])])
def lockgatelaw17_SpaceZone.B20 : List Nat := [0, 0, 0, 0, 12, 0, 60, 127, 255]
theorem lockgatelaw17_SpaceZone.tab20 : rtab .any (opsOf Try.f6 20) = lockgatelaw17_SpaceZone.T20 := by kernel_rfl
theorem lockgatelaw17_SpaceZone.bits20 : waitsOk lockgatelaw17_SpaceZone.T20.2 lockgatelaw17_SpaceZone.B20 = true := by kernel_rfl
def lockgatelaw17_SpaceZone.T29 : Bool × List (List Nat × List Nat) := (true, [([], []), ([], []), ([], []), ([1, 2], [1, 2]), ([3], [3]), ([0, 4], [0, 4]), ([], []), ([5, 6], [5, 6])])
def lockgatelaw17_SpaceZone.B29 : List Nat := [0, 0, 0, 6, 14, 31, 0, 127]
theorem lockgatelaw17_SpaceZone.tab29 : rtab .any (opsOf Try.f6 29) = lockgatelaw17_SpaceZone.T29 := by kernel_rfl
theorem lockgatelaw17_SpaceZone.bits29 : waitsOk lockgatelaw17_SpaceZone.T29.2 lockgatelaw17_SpaceZone.B29 = true := by kernel_rfl
def lockgatelaw17_SpaceZone.T34 : Bool × List (List Nat × List Nat) := (true, [([], []), ([], []), ([0, 1], [0, 1]), ([2], [2]), ([], []), ([], []), ([4, 5], [4, 5]), ([6], [6]), ([3, 7], [3, 7])])
def lockgatelaw17_SpaceZone.B34 : List Nat := [0, 0, 3, 7, 0, 0, 48, 112, 255]
theorem lockgatelaw17_SpaceZone.tab34 : rtab .any (opsOf Try.f6 34) = lockgatelaw17_SpaceZone.T34 := by kernel_rfl
theorem lockgatelaw17_SpaceZone.bits34 : waitsOk lockgatelaw17_SpaceZone.T34.2 lockgatelaw17_SpaceZone.B34 = true := by kernel_rfl
set_option maxHeartbeats 8000000 in
set_option maxRecDepth 100000 in
theorem lockgatelaw17_SpaceZone.calls (k : Nat) (a0 : Int) (A1 : Option Addr) (c1 : Nat) (l1 : List (S32)) (a2_0 : Int) (a2_1 : Int) (A2_2 : Option Addr) (c2_2 : Nat) (l2_2 : List Int) (r : Bool) (w : World) (hr1 : Kd.C k32 w A1 l1.length l1) (hc1 : l1.length ≤ c1) (hr2_2 : Kd.C (Kd.int .i64) w A2_2 l2_2.length l2_2) (hc2_2 : l2_2.length ≤ c2_2) (h : lockgatelaw17_SpaceZone.f k a0 l1 a2_0 a2_1 l2_2 = some r) :
  Calls Try.prog 6 #[.int .i64 a0, .slice A1 l1.length c1, .agg #[.int .i64 a2_0, .int .i64 a2_1, .slice A2_2 l2_2.length c2_2]] w fun e w' => e = .returned (.bool r) ∧ Below w.heap.size w w' := by
 have hu32 := Try.underlying32
 have hu23 := Try.underlying23
 have HR1 := Aside0.mk hr1
 have HC1 := Aside0.mk hc1
 clear hr1 hc1
 have HR2_2 := Aside0.mk hr2_2
 have HC2_2 := Aside0.mk hc2_2
 clear hr2_2 hc2_2
 have HB := Aside0.mk (Below.refl w.heap.size w)
 have H : ((lockgatelaw17_awake.f k).bind fun t362 => (if (Int.tmod a0 101) < 0 then (lockgatelaw17_SpaceZone.j0 k l1 t362 (wrap64 (-(Int.tmod a0 101))) a2_0 a2_1 l2_2) else (lockgatelaw17_SpaceZone.j0 k l1 t362 (Int.tmod a0 101) a2_0 a2_1 l2_2))) = some r := h
 clear h
 replace H := Option.bind_eq_some_iff.mp H
 obtain ⟨t362, A40, H⟩ := H
 replace H : (if (Int.tmod a0 101) < 0 then (lockgatelaw17_SpaceZone.j0 k l1 t362 (wrap64 (-(Int.tmod a0 101))) a2_0 a2_1 l2_2) else (lockgatelaw17_SpaceZone.j0 k l1 t362 (Int.tmod a0 101) a2_0 a2_1 l2_2)) = some r := H
 have A4 := Aside0.mk A40
 clear A40
 have HC5 := Aside0.mk H
 clear H
 go_enter Try.func6, Try.ntmps6
 go_upto_if 30 with (first | ((with_reducible refine gate_dst (N := 5) rfl ?_); (try (refine gate_guard (by rfl) ?_; dsimp only)); refine box_event ?hg (N := 5) ?hd (cs := #[.int .i64 a2_0, .int .i64 a2_1, .slice A2_2 l2_2.length c2_2]) (t := 32) ?hr ?_; (case hd => rfl); (case hg => rfl); (case hr => first | (go_simp; done) | (go_simp; rfl)); intro gb361 hg w6 hbox hb; have n0_ := Aside0.mk (below_step (by repeat (first | (with_reducible first | exact HB.out | apply below_alloc | apply pw_below_drewN | apply below_drew1) | exact HB.out)) hb); have n1_ := Aside0.mk (hbox); have n2_ := Aside0.mk ((by rw [hg]; exact (below_size (by repeat (first | (with_reducible first | exact HB.out | apply below_alloc | apply pw_below_drewN | apply below_drew1) | exact HB.out))) : w.heap.size ≤ gb361)); have n3_ := Aside0.mk ((by rw [hg]; exact (below_size (by repeat (first | (with_reducible first | exact HB.out | apply below_alloc | apply pw_below_drewN | apply below_drew1) | exact HB.out))) : w.heap.size ≤ gb361)); clear HB; have HB := n0_; have BK361 := n1_; have GW361 := n2_; have GE361 := n3_; clear n0_ n1_ n2_ n3_; clear hb hbox hg) | ((with_reducible refine gate_callee (f := 8) rfl ?_); refine goesL_ (some 26) rfl rfl Try.func8 (by kernel_rfl) rfl #[] rfl (by (try simp only [List.map_toArray, List.map_cons, List.map_nil]); first | done | rfl | (simp only [List.length_drop, List.length_take]; rfl)) ?_; (with_reducible refine (lockgatelaw17_awake.calls k  t362 _ A4.out).mono ?_); rintro e w7 ⟨rfl, hb⟩; refine ⟨_, rfl, ?_⟩; have n0_ := Aside0.mk (blk_below (g := gb361) (o := .cells #[.int .i64 a2_0, .int .i64 a2_1, .slice A2_2 l2_2.length c2_2] 32 (0, 0)) (by (with_reducible repeat (first | refine blk_drewN ?_ _ | refine blk_drew ?_ | refine blk_alloc ?_ _)); exact BK361.out) hb); have n1_ := Aside0.mk (below_step (by repeat (first | (with_reducible first | exact HB.out | apply below_alloc | apply pw_below_drewN | apply below_drew1 | refine below_set ?_ GE361.out) | exact HB.out)) hb); clear BK361; clear HB; have BK361 := n0_; have HB := n1_; clear n0_ n1_; (try clear hb); (try clear hb2); (try clear hk); (try clear hi)))
 (try simp only [Act.put, setIfInBounds_toArray, set_cons_zero, set_cons_succ])
 go_cut [8] (fun v8 wc => ∃ (kq : Nat) (x8_4 : Int), v8 = .int .i64 x8_4 ∧ Aside0 (lockgatelaw17_SpaceZone.j0 kq l1 t362 x8_4 a2_0 a2_1 l2_2 = some r) ∧ Aside0 (kq ≤ k) ∧ Aside0 (wc.heap[gb361]? = some (.cells #[.int .i64 a2_0, .int .i64 a2_1, (.slice A2_2 l2_2.length c2_2)] 32 (0, 0))) ∧ Aside0 (Below w.heap.size w wc))
 case first =>
  have H := HC5.out
  clear HC5
  by_cases c8 : (Int.tmod a0 101) < 0
  ·rw [if_pos c8] at H
   have c8b0 : decide ((Int.tmod a0 101) < 0) = true := decide_eq_true c8
   clear c8
   (first | rw [c8b0] | (simp only [i64_w, i32_w]; rw [c8b0]) | skip)
   have H' := Aside0.mk H
   clear H
   go_wp2
   go_meet
   case rel => exact ⟨_, (wrap64 (-(Int.tmod a0 101))), (by first | rfl | (simp; done) | (simp [*]; done)), H', ⟨by first | omega | exact Nat.le_refl _⟩, ⟨by (with_reducible repeat (first | refine blk_drewN ?_ _ | refine blk_drew ?_ | refine blk_alloc ?_ _)); exact BK361.out⟩, ⟨by repeat (first | (with_reducible first | exact HB.out | apply below_alloc | apply pw_below_drewN | apply below_drew1 | refine below_set ?_ GE361.out) | exact HB.out)⟩⟩
  ·rw [if_neg c8] at H
   have c8b0 : decide ((Int.tmod a0 101) < 0) = false := decide_eq_false c8
   clear c8
   (first | rw [c8b0] | (simp only [i64_w, i32_w]; rw [c8b0]) | skip)
   have H' := Aside0.mk H
   clear H
   go_wp2
   go_meet
   case rel => exact ⟨_, (Int.tmod a0 101), (by first | rfl | (simp; done) | (simp [*]; done)), H', ⟨by first | omega | exact Nat.le_refl _⟩, ⟨by (with_reducible repeat (first | refine blk_drewN ?_ _ | refine blk_drew ?_ | refine blk_alloc ?_ _)); exact BK361.out⟩, ⟨by repeat (first | (with_reducible first | exact HB.out | apply below_alloc | apply pw_below_drewN | apply below_drew1 | refine below_set ?_ GE361.out) | exact HB.out)⟩⟩
 case rest =>
  clear HC5
  try clear c1
  try clear c2
  try clear p2
  try clear c6
  try clear p6
  try clear c8
  try clear c8b0
  obtain ⟨kq, x8_4, rfl, HA, HJ4, BK361, HB⟩ := hcut
  cases kq with
  | zero => exact absurd HA.out (by simp [lockgatelaw17_SpaceZone.j0])
  | succ kj4 =>
   have H := HA.out
   clear HA
   simp only [lockgatelaw17_SpaceZone.j0] at H
   replace H := Option.bind_eq_some_iff.mp H
   obtain ⟨⟨t363, t364, t365, t366, t367⟩, A90, H⟩ := H
   replace H : (lockgatelaw17_SpaceZone.l0 kj4 l1 t362 t367 0 a2_0 a2_1 l2_2 t363 t364 t365 t366) = some r := H
   have A9 := Aside0.mk A90
   clear A90
   have H' := Aside0.mk H
   clear H
   go_wp2_with (first | ((with_reducible refine gate_callee (f := 22) rfl ?_); refine goesL_ (some 36) rfl rfl Try.func22 (by kernel_rfl) rfl #[.int .i64 (wrap64 (140 + x8_4))] rfl (by (try simp only [List.map_toArray, List.map_cons, List.map_nil]); first | done | rfl | (simp only [List.length_drop, List.length_take]; rfl)) ?_; (with_reducible refine (lockgatelaw17_fresh.calls kj4 (wrap64 (140 + x8_4)) t363 t364 t365 t366 t367 _ A9.out).mono ?_); rintro e w10 ⟨v368, rfl, ho0, hb⟩; refine ⟨_, rfl, ?_⟩; have n0_ := Aside0.mk (Kd.R_lower ho0 (below_size (by repeat (first | (with_reducible first | exact HB.out | apply below_alloc | apply pw_below_drewN | apply below_drew1 | refine below_set ?_ GE361.out) | exact HB.out)))); have n1_ := Aside0.mk (blk_below (g := gb361) (o := .cells #[.int .i64 a2_0, .int .i64 a2_1, .slice A2_2 l2_2.length c2_2] 32 (0, 0)) (by (with_reducible repeat (first | refine blk_drewN ?_ _ | refine blk_drew ?_ | refine blk_alloc ?_ _)); exact BK361.out) hb); have n2_ := Aside0.mk (below_step (by repeat (first | (with_reducible first | exact HB.out | apply below_alloc | apply pw_below_drewN | apply below_drew1 | refine below_set ?_ GE361.out) | exact HB.out)) hb); clear BK361; clear HB; have HO369 := n0_; have BK361 := n1_; have HB := n2_; clear n0_ n1_ n2_; (try clear hb); (try clear hb2); (try clear hk); (try clear hi); (try clear ho0)) | ((with_reducible refine gate_callee (f := 22) rfl ?_); refine goesL_ (some 36) rfl rfl Try.func22 (by kernel_rfl) rfl #[.int .i64 (140 + x8_4)] rfl (by (try simp only [List.map_toArray, List.map_cons, List.map_nil]); first | done | rfl | (simp only [List.length_drop, List.length_take]; rfl)) ?_; (have h_ := A9.out); (repeat (first | rw [IntWalk.wrap64_in _ ⟨by (try simp only [decide_eq_true_eq, decide_eq_false_iff_not] at *); omega, by (try simp only [decide_eq_true_eq, decide_eq_false_iff_not] at *); omega⟩] at h_)); (with_reducible refine (lockgatelaw17_fresh.calls kj4 (140 + x8_4) t363 t364 t365 t366 t367 _ h_).mono ?_); clear h_; rintro e w10 ⟨v368, rfl, ho0, hb⟩; refine ⟨_, rfl, ?_⟩; have n0_ := Aside0.mk (Kd.R_lower ho0 (below_size (by repeat (first | (with_reducible first | exact HB.out | apply below_alloc | apply pw_below_drewN | apply below_drew1 | refine below_set ?_ GE361.out) | exact HB.out)))); have n1_ := Aside0.mk (blk_below (g := gb361) (o := .cells #[.int .i64 a2_0, .int .i64 a2_1, .slice A2_2 l2_2.length c2_2] 32 (0, 0)) (by (with_reducible repeat (first | refine blk_drewN ?_ _ | refine blk_drew ?_ | refine blk_alloc ?_ _)); exact BK361.out) hb); have n2_ := Aside0.mk (below_step (by repeat (first | (with_reducible first | exact HB.out | apply below_alloc | apply pw_below_drewN | apply below_drew1 | refine below_set ?_ GE361.out) | exact HB.out)) hb); clear BK361; clear HB; have HO369 := n0_; have BK361 := n1_; have HB := n2_; clear n0_ n1_ n2_; (try clear hb); (try clear hb2); (try clear hk); (try clear hi); (try clear ho0)) | ((with_reducible refine gate_dst (N := 9) rfl ?_); (try (refine gate_guard (by rfl) ?_; dsimp only)); refine box_event ?hg (N := 9) ?hd (cs := #[.int .i64 0, .int .i64 0, .int .i64 0, .int .i64 0]) (t := 23) ?hr ?_; (case hd => rfl); (case hg => rfl); (case hr => first | (go_simp; done) | (go_simp; rfl)); intro gb370 hg w11 hbox hb; have n0_ := Aside0.mk (Kd.R_below (by (with_reducible repeat (first | apply Kd.R_alloc | apply Kd.R_drewN | apply Kd.R_drew)); exact HO369.out) hb); have n1_ := Aside0.mk (blk_below (g := gb361) (o := .cells #[.int .i64 a2_0, .int .i64 a2_1, .slice A2_2 l2_2.length c2_2] 32 (0, 0)) (by (with_reducible repeat (first | refine blk_drewN ?_ _ | refine blk_drew ?_ | refine blk_alloc ?_ _)); exact BK361.out) hb); have n2_ := Aside0.mk (below_step (by repeat (first | (with_reducible first | exact HB.out | apply below_alloc | apply pw_below_drewN | apply below_drew1 | refine below_set ?_ GE361.out) | exact HB.out)) hb); have n3_ := Aside0.mk (hbox); have n4_ := Aside0.mk ((by rw [hg]; exact (below_size (by repeat (first | (with_reducible first | exact HB.out | apply below_alloc | apply pw_below_drewN | apply below_drew1 | refine below_set ?_ GE361.out) | exact HB.out))) : w.heap.size ≤ gb370)); have n5_ := Aside0.mk ((by rw [hg]; exact (below_size (by repeat (first | (with_reducible first | exact HB.out | apply below_alloc | apply pw_below_drewN | apply below_drew1 | refine below_set ?_ GE361.out) | exact HB.out))) : w.heap.size ≤ gb370)); have n6_ := Aside0.mk ((by rw [hg]; exact Nat.ne_of_lt (blk_lt (g := gb361) (o := .cells #[.int .i64 a2_0, .int .i64 a2_1, .slice A2_2 l2_2.length c2_2] 32 (0, 0)) (by (with_reducible repeat (first | refine blk_drewN ?_ _ | refine blk_drew ?_ | refine blk_alloc ?_ _)); exact BK361.out)) : gb361 ≠ gb370)); have n7_ := Aside0.mk ((by rw [hg]; exact Nat.ne_of_gt (blk_lt (g := gb361) (o := .cells #[.int .i64 a2_0, .int .i64 a2_1, .slice A2_2 l2_2.length c2_2] 32 (0, 0)) (by (with_reducible repeat (first | refine blk_drewN ?_ _ | refine blk_drew ?_ | refine blk_alloc ?_ _)); exact BK361.out)) : gb370 ≠ gb361)); clear HO369; clear BK361; clear HB; have HO369 := n0_; have BK361 := n1_; have HB := n2_; have BK370 := n3_; have GW370 := n4_; have GE370 := n5_; have NB361_370 := n6_; have NB370_361 := n7_; clear n0_ n1_ n2_ n3_ n4_ n5_ n6_ n7_; clear hb hbox hg; have hnb12 := NB370_361.out; have hnc12 := NB361_370.out; have hcz13_0 : w11.cell? ⟨gb370, 0, none⟩ = some (.int .i64 0) := (blk_cell BK370.out 0).trans rfl; have hcz13_1 : w11.cell? ⟨gb370, 1, none⟩ = some (.int .i64 0) := (blk_cell BK370.out 1).trans rfl; have hcz13_2 : w11.cell? ⟨gb370, 2, none⟩ = some (.int .i64 0) := (blk_cell BK370.out 2).trans rfl; have hcz13_3 : w11.cell? ⟨gb370, 3, none⟩ = some (.int .i64 0) := (blk_cell BK370.out 3).trans rfl; have hfz13_0 := blk_frozen BK370.out 0; have hfz13_1 := blk_frozen BK370.out 1; have hfz13_2 := blk_frozen BK370.out 2; have hfz13_3 := blk_frozen BK370.out 3))
   go_loopg [10, 11] kj4 (fun kq v10 v11 w' => ∃ (x10_2 : List ByteArray) (x11_2 : Int), v11 = .int .i64 x11_2 ∧ Aside0 (lockgatelaw17_SpaceZone.l0 kq l1 t362 x10_2 x11_2 a2_0 a2_1 l2_2 t363 t364 t365 t366 = some r) ∧ Aside0 (kq ≤ kj4) ∧ Aside0 (Kd.V Kd.string 9 w' w.heap.size (fun k_ => k_ ≠ gb361 ∧ k_ ≠ gb370) v10 x10_2) ∧ Aside0 (w'.heap[gb361]? = some (.cells #[.int .i64 a2_0, .int .i64 a2_1, (.slice A2_2 l2_2.length c2_2)] 32 (0, 0))) ∧ Aside0 (w'.heap[gb370]? = some (.cells #[.int .i64 t363, .int .i64 t364, .int .i64 t365, .int .i64 t366] 23 (0, 0))) ∧ Aside0 (Below w.heap.size w w'))
   case atStart => exact ⟨(t367), (0), (by first | rfl | (simp; done) | (simp [*]; done)), H', ⟨Nat.le_refl _⟩, ⟨Kd.R_V (by (with_reducible repeat (first | apply Kd.R_alloc | apply Kd.R_drewN | apply Kd.R_drew)); exact Kd.R_mono (Kd.R_far (p := ⟨gb370, 3, none⟩) (Kd.R_far (p := ⟨gb370, 2, none⟩) (Kd.R_far (p := ⟨gb370, 1, none⟩) (Kd.R_far (p := ⟨gb370, 0, none⟩) (Kd.R_types (Kd.R_types (Kd.R_types HO369.out BK361.out (by decide)) BK370.out (by decide)) BK370.out (by decide)) (fun _ hk => hk.2) (.int .i64 t363)) (fun _ hk => hk.2) (.int .i64 t364)) (fun _ hk => hk.2) (.int .i64 t365)) (fun _ hk => hk.2) (.int .i64 t366)) (fun _ hk => ⟨hk.1.1.2, hk.1.2⟩))⟩, ⟨by (with_reducible repeat (first | refine blk_drewN ?_ _ | refine blk_drew ?_ | refine blk_alloc ?_ _)); refine blk_far ?_ NB361_370.out _; (with_reducible repeat (first | refine blk_drewN ?_ _ | refine blk_drew ?_ | refine blk_alloc ?_ _)); refine blk_far ?_ NB361_370.out _; (with_reducible repeat (first | refine blk_drewN ?_ _ | refine blk_drew ?_ | refine blk_alloc ?_ _)); refine blk_far ?_ NB361_370.out _; (with_reducible repeat (first | refine blk_drewN ?_ _ | refine blk_drew ?_ | refine blk_alloc ?_ _)); refine blk_far ?_ NB361_370.out _; (with_reducible repeat (first | refine blk_drewN ?_ _ | refine blk_drew ?_ | refine blk_alloc ?_ _)); exact BK361.out⟩, ⟨by (with_reducible repeat (first | refine blk_drewN ?_ _ | refine blk_drew ?_ | refine blk_alloc ?_ _)); refine blk_put (cs := #[.int .i64 t363, .int .i64 t364, .int .i64 t365, .int .i64 0]) ?_ 3 _ rfl; (with_reducible repeat (first | refine blk_drewN ?_ _ | refine blk_drew ?_ | refine blk_alloc ?_ _)); refine blk_put (cs := #[.int .i64 t363, .int .i64 t364, .int .i64 0, .int .i64 0]) ?_ 2 _ rfl; (with_reducible repeat (first | refine blk_drewN ?_ _ | refine blk_drew ?_ | refine blk_alloc ?_ _)); refine blk_put (cs := #[.int .i64 t363, .int .i64 0, .int .i64 0, .int .i64 0]) ?_ 1 _ rfl; (with_reducible repeat (first | refine blk_drewN ?_ _ | refine blk_drew ?_ | refine blk_alloc ?_ _)); refine blk_put (cs := #[.int .i64 0, .int .i64 0, .int .i64 0, .int .i64 0]) ?_ 0 _ rfl; (with_reducible repeat (first | refine blk_drewN ?_ _ | refine blk_drew ?_ | refine blk_alloc ?_ _)); exact BK370.out⟩, ⟨by repeat (first | (with_reducible first | exact HB.out | apply below_alloc | apply pw_below_drewN | apply below_drew1 | refine below_set ?_ GE361.out | refine below_set ?_ GE370.out) | exact HB.out)⟩⟩
   case round =>
    clear H'
    try clear c1
    try clear c2
    try clear p2
    try clear c6
    try clear p6
    try clear c8
    try clear c8b0
    try clear c12
    try clear hcz13_0
    try clear hcz13_1
    try clear hcz13_2
    try clear hcz13_3
    try clear hfz13_0
    try clear hfz13_1
    try clear hfz13_2
    try clear hfz13_3
    try clear p2
    try clear p6
    obtain ⟨x10_2, x11_2, rfl, HA, HK2, HO_10, BK361, BK370, HB⟩ := hrel
    cases gk with
    | zero => exact absurd HA.out (by simp [lockgatelaw17_SpaceZone.l0])
    | succ k2 =>
     have H := HA.out
     clear HA
     simp only [lockgatelaw17_SpaceZone.l0] at H
     have HC14 := Aside0.mk H
     clear H
     go_upto_region 7 with (fail)
     go_cut [46] (fun v46 wc => ∃ (kq : Nat) (x46_13 : Bool), v46 = .bool x46_13 ∧ Aside0 (lockgatelaw17_SpaceZone.j2 kq l1 t362 x10_2 x11_2 x46_13 a2_0 a2_1 l2_2 t363 t364 t365 t366 = some r) ∧ Aside0 (kq ≤ k2) ∧ Aside0 (Kd.V Kd.string 9 wc w.heap.size (fun k_ => k_ ≠ gb361 ∧ k_ ≠ gb370) u10 x10_2) ∧ Aside0 (wc.heap[gb361]? = some (.cells #[.int .i64 a2_0, .int .i64 a2_1, (.slice A2_2 l2_2.length c2_2)] 32 (0, 0))) ∧ Aside0 (wc.heap[gb370]? = some (.cells #[.int .i64 t363, .int .i64 t364, .int .i64 t365, .int .i64 t366] 23 (0, 0))) ∧ Aside0 (Below w.heap.size w wc))
     case first =>
      have H := HC14.out
      clear HC14
      by_cases c15 : x11_2 < (l1.length : Int)
      ·rw [if_pos c15] at H
       have c15b0 : decide (x11_2 < (l1.length : Int)) = true := decide_eq_true c15
       clear c15
       (first | rw [c15b0] | (simp only [i64_w, i32_w]; rw [c15b0]) | skip)
       have H' := Aside0.mk H
       clear H
       go_wp2
       go_meet
       case rel => exact ⟨_, (decide (x11_2 < 6)), (by first | rfl | (simp; done) | (simp [*]; done)), H', ⟨by have := HJ4.out; have := HK2.out; first | omega | exact Nat.le_refl _⟩, ⟨by (with_reducible repeat (first | apply Kd.V_alloc | apply Kd.V_drewN | apply Kd.V_drew)); exact HO_10.out⟩, ⟨by (with_reducible repeat (first | refine blk_drewN ?_ _ | refine blk_drew ?_ | refine blk_alloc ?_ _)); exact BK361.out⟩, ⟨by (with_reducible repeat (first | refine blk_drewN ?_ _ | refine blk_drew ?_ | refine blk_alloc ?_ _)); exact BK370.out⟩, ⟨by repeat (first | (with_reducible first | exact HB.out | apply below_alloc | apply pw_below_drewN | apply below_drew1 | refine below_set ?_ GE361.out | refine below_set ?_ GE370.out) | exact HB.out)⟩⟩
      ·rw [if_neg c15] at H
       have c15b0 : decide (x11_2 < (l1.length : Int)) = false := decide_eq_false c15
       clear c15
       (first | rw [c15b0] | (simp only [i64_w, i32_w]; rw [c15b0]) | skip)
       have H' := Aside0.mk H
       clear H
       go_wp2
       go_meet
       case rel => exact ⟨_, (false), (by first | rfl | (simp; done) | (simp [*]; done)), H', ⟨by have := HJ4.out; have := HK2.out; first | omega | exact Nat.le_refl _⟩, ⟨by (with_reducible repeat (first | apply Kd.V_alloc | apply Kd.V_drewN | apply Kd.V_drew)); exact HO_10.out⟩, ⟨by (with_reducible repeat (first | refine blk_drewN ?_ _ | refine blk_drew ?_ | refine blk_alloc ?_ _)); exact BK361.out⟩, ⟨by (with_reducible repeat (first | refine blk_drewN ?_ _ | refine blk_drew ?_ | refine blk_alloc ?_ _)); exact BK370.out⟩, ⟨by repeat (first | (with_reducible first | exact HB.out | apply below_alloc | apply pw_below_drewN | apply below_drew1 | refine below_set ?_ GE361.out | refine below_set ?_ GE370.out) | exact HB.out)⟩⟩
     case rest =>
      clear HC14
      try clear c1
      try clear c2
      try clear p2
      try clear c6
      try clear p6
      try clear c8
      try clear c8b0
      try clear c12
      try clear c15
      try clear c15b0
      try clear hcz13_0
      try clear hcz13_1
      try clear hcz13_2
      try clear hcz13_3
      try clear hfz13_0
      try clear hfz13_1
      try clear hfz13_2
      try clear hfz13_3
      try clear p2
      try clear p6
      obtain ⟨kq, x46_13, rfl, HA, HJ13, HO_10, BK361, BK370, HB⟩ := hcut
      cases kq with
      | zero => exact absurd HA.out (by simp [lockgatelaw17_SpaceZone.j2])
      | succ kj13 =>
       have H := HA.out
       clear HA
       simp only [lockgatelaw17_SpaceZone.j2] at H
       by_cases c16 : x46_13 = true
       ·subst c16
        have H1 : (if 0 ≤ x11_2 then (if x11_2 < (l1.length : Int) then ((space_Take.f kj13 t363 t364 t365 t366 x10_2 (Go.bits .and .i64 ((rd_T32 l1 x11_2).f0) 3) (Go.bits .and .i64 ((rd_T32 l1 x11_2).f1) 7)).bind fun bt373 => (if bt373.2.2 = true then (lockgatelaw17_SpaceZone.l0 kj13 l1 t362 bt373.1 (wrap64 (x11_2 + 1)) a2_0 a2_1 l2_2 t363 t364 t365 t366) else (lockgatelaw17_SpaceZone.l0 kj13 l1 t362 x10_2 (wrap64 (x11_2 + 1)) a2_0 a2_1 l2_2 t363 t364 t365 t366))) else (none)) else (none)) = some r := by rw [if_pos rfl] at H; exact H
        clear H
        have H := H1
        clear H1
        by_cases c17 : 0 ≤ x11_2
        ·rw [if_pos c17] at H
         have c17b0 : decide (0 ≤ x11_2) = true := decide_eq_true c17
         clear c17
         by_cases c18 : x11_2 < (l1.length : Int)
         ·rw [if_pos c18] at H
          have c18b0 : decide (x11_2 < (l1.length : Int)) = true := decide_eq_true c18
          clear c18
          replace H := Option.bind_eq_some_iff.mp H
          obtain ⟨⟨t373, t376, t379⟩, A190, H⟩ := H
          replace H : (if t379 = true then (lockgatelaw17_SpaceZone.l0 kj13 l1 t362 t373 (wrap64 (x11_2 + 1)) a2_0 a2_1 l2_2 t363 t364 t365 t366) else (lockgatelaw17_SpaceZone.l0 kj13 l1 t362 x10_2 (wrap64 (x11_2 + 1)) a2_0 a2_1 l2_2 t363 t364 t365 t366)) = some r := H
          have A19 := Aside0.mk A190
          clear A190
          by_cases c20 : t379 = true
          ·subst c20
           have H1 : (lockgatelaw17_SpaceZone.l0 kj13 l1 t362 t373 (wrap64 (x11_2 + 1)) a2_0 a2_1 l2_2 t363 t364 t365 t366) = some r := by rw [if_pos rfl] at H; exact H
           clear H
           have H := H1
           clear H1
           have H' := Aside0.mk H
           clear H
           try go_wp2
           have n0_ := Aside0.mk (Kd.V_drew HO_10.out)
           have n1_ := Aside0.mk (blk_drew BK361.out)
           have n2_ := Aside0.mk (blk_drew BK370.out)
           have n3_ := Aside0.mk (below_drew1 HB.out)
           clear HO_10
           clear BK361
           clear BK370
           clear HB
           have HO_10 := n0_
           have BK361 := n1_
           have BK370 := n2_
           have HB := n3_
           clear n0_ n1_ n2_ n3_
           have p371 : 0 ≤ (x11_2 : Int) := of_decide_eq_true (by first | (with_reducible assumption) | assumption)
           have q371 : x11_2 < (l1.length : Int) := of_decide_eq_true (by first | (with_reducible assumption) | assumption)
           obtain ⟨ad371, A371_2, c371_2, e371, hx371_0, hx371_1, hx371_2, hl371_2, hi371_2⟩ := at_T32 HR1.out x11_2 p371 q371
           have hw371_2 := hx371_2
           have hw371_1 := hx371_1
           have hw371_0 := hx371_0
           cases e371
           replace hx371_0 := (HB.out.cell (World.block_lt_of_cell? w _ hx371_0)).trans hx371_0
           replace hx371_1 := (HB.out.cell (World.block_lt_of_cell? w _ hx371_1)).trans hx371_1
           replace hx371_2 := (HB.out.cell (World.block_lt_of_cell? w _ hx371_2)).trans hx371_2
           have HR371_2 := Aside0.mk hi371_2
           have HC371_2 := Aside0.mk hl371_2
           clear hi371_2 hl371_2
           replace p371 := eq_true p371
           replace q371 := eq_true q371
           have p372 : 0 ≤ (x11_2 : Int) := of_decide_eq_true (by first | (with_reducible assumption) | assumption)
           have q372 : x11_2 < (l1.length : Int) := of_decide_eq_true (by first | (with_reducible assumption) | assumption)
           obtain ⟨ad372, A372_2, c372_2, e372, hx372_0, hx372_1, hx372_2, hl372_2, hi372_2⟩ := at_T32 HR1.out x11_2 p372 q372
           have hw372_2 := hx372_2
           have hw372_1 := hx372_1
           have hw372_0 := hx372_0
           obtain rfl : ad371 = ad372 := (by injection e372)
           replace hx372_0 := (HB.out.cell (World.block_lt_of_cell? w _ hx372_0)).trans hx372_0
           replace hx372_1 := (HB.out.cell (World.block_lt_of_cell? w _ hx372_1)).trans hx372_1
           replace hx372_2 := (HB.out.cell (World.block_lt_of_cell? w _ hx372_2)).trans hx372_2
           have HR372_2 := Aside0.mk hi372_2
           have HC372_2 := Aside0.mk hl372_2
           clear hi372_2 hl372_2
           replace p372 := eq_true p372
           replace q372 := eq_true q372
           have ea_ := Option.some.inj (hx371_2.symm.trans hx372_2)
           injection ea_ with ea_ en_ ec_
           subst ea_
           subst ec_
           clear en_
           obtain ⟨Ao22, co22, eo22⟩ := Kd.V_slice HO_10.out
           (first | subst eo22 | (injection eo22 with f1_ f2_ f3_; have f4_ := f1_.symm; have f5_ := f3_.symm; clear f1_ f2_ f3_; subst f4_; subst f5_))
           refine start_ (n := 22) (S := fun w' => w'.cell? ⟨gb370, 0, none⟩ = some (.int .i64 t363) ∧ w'.cell? ⟨gb370, 1, none⟩ = some (.int .i64 t364) ∧ w'.cell? ⟨gb370, 2, none⟩ = some (.int .i64 t365) ∧ w'.cell? ⟨gb370, 3, none⟩ = some (.int .i64 t366) ∧ w'.cell? (ad371.add ((x11_2).toNat * 3)) = some (.int .i64 ((rd_T32 l1 x11_2).f0)) ∧ w'.cell? ⟨(ad371.add ((x11_2).toNat * 3)).block, (ad371.add ((x11_2).toNat * 3)).off + 1, none⟩ = some (.int .i64 ((rd_T32 l1 x11_2).f1)) ∧ w'.cell? ⟨(ad371.add ((x11_2).toNat * 3)).block, (ad371.add ((x11_2).toNat * 3)).off + 2, none⟩ = some (.slice A371_2 ((rd_T32 l1 x11_2).f2).length c371_2) ∧ w'.cell? (ad371.add ((x11_2).toNat * 3)) = some (.int .i64 ((rd_T32 l1 x11_2).f0)) ∧ w'.cell? ⟨(ad371.add ((x11_2).toNat * 3)).block, (ad371.add ((x11_2).toNat * 3)).off + 1, none⟩ = some (.int .i64 ((rd_T32 l1 x11_2).f1)) ∧ w'.cell? ⟨(ad371.add ((x11_2).toNat * 3)).block, (ad371.add ((x11_2).toNat * 3)).off + 2, none⟩ = some (.slice A371_2 ((rd_T32 l1 x11_2).f2).length c371_2)) (ds := []) #[false, false, false, false, false, false, false, false, false, false, false, false, false, false, false, false, false, false, false, false, false, false] (by kernel_rfl) rfl rfl ⟨(blk_cell BK370.out 0).trans rfl, (blk_cell BK370.out 1).trans rfl, (blk_cell BK370.out 2).trans rfl, (blk_cell BK370.out 3).trans rfl, ((HB.out.cell (World.block_lt_of_cell? w _ hw371_0)).trans hw371_0), ((HB.out.cell (World.block_lt_of_cell? w _ hw371_1)).trans hw371_1), ((HB.out.cell (World.block_lt_of_cell? w _ hw371_2)).trans hw371_2), ((HB.out.cell (World.block_lt_of_cell? w _ hw372_0)).trans hw372_0), ((HB.out.cell (World.block_lt_of_cell? w _ hw372_1)).trans hw372_1), ((HB.out.cell (World.block_lt_of_cell? w _ hw372_2)).trans hw372_2)⟩ (fun hHeld => ?_); refine with_tabW lockgatelaw17_SpaceZone.tab9 lockgatelaw17_SpaceZone.bits9 (fun HT_ HW_ => ?_)
           generalize wc.drew = w21 at HO_10 BK361 BK370 HB HR371_2 HR372_2 hx371_0 hx371_1 hx371_2 hx372_0 hx372_1 hx372_2 hHeld ⊢
           refine pure_ (i := 1) (N := some 51) (v := ?_) (a' := ?_) #[false, true, false, false, false, false, false, false, false, false, false, false, false, false, false, false, false, false, false, false, false, false] rfl rfl (any_of HT_.out (by kernel_rfl)) (fun _ _ _ h => h) (Or.inl ⟨by rfl, ?_⟩) ?_ ?_
           rotate_left
           ·intro w'; go_simp; with_reducible rfl
           rotate_left
           ·simp only [Act.put, setIfInBounds_toArray, set_cons_zero, set_cons_succ, i64_w, i32_w]; rfl
           refine pure_ (i := 2) (N := some 52) (v := ?_) (a' := ?_) #[false, true, true, false, false, false, false, false, false, false, false, false, false, false, false, false, false, false, false, false, false, false] rfl rfl (any_of HT_.out (by kernel_rfl)) (fun _ _ _ h => h) (Or.inl ⟨by rfl, ?_⟩) ?_ ?_
           rotate_left
           ·intro w'; go_simp; with_reducible rfl
           rotate_left
           ·simp only [Act.put, setIfInBounds_toArray, set_cons_zero, set_cons_succ, i64_w, i32_w]; rfl
           refine pure_ (i := 3) (N := some 53) (v := ?_) (a' := ?_) #[false, true, true, true, false, false, false, false, false, false, false, false, false, false, false, false, false, false, false, false, false, false] rfl rfl (any_of HT_.out (by kernel_rfl)) (fun _ _ _ h => h) (Or.inl ⟨by rfl, ?_⟩) ?_ ?_
           rotate_left
           ·intro w'; go_simp; with_reducible rfl
           rotate_left
           ·simp only [Act.put, setIfInBounds_toArray, set_cons_zero, set_cons_succ, i64_w, i32_w]; rfl
           refine pure_ (i := 4) (N := some 54) (v := ?_) (a' := ?_) #[false, true, true, true, true, false, false, false, false, false, false, false, false, false, false, false, false, false, false, false, false, false] rfl rfl (any_of HT_.out (by kernel_rfl)) (fun _ _ _ h => h) (Or.inl ⟨by rfl, ?_⟩) ?_ ?_
           rotate_left
           ·intro w'; go_simp; with_reducible rfl
           rotate_left
           ·simp only [Act.put, setIfInBounds_toArray, set_cons_zero, set_cons_succ, i64_w, i32_w]; rfl
           refine pure_ (i := 5) (N := some 55) (v := ?_) (a' := ?_) #[false, true, true, true, true, true, false, false, false, false, false, false, false, false, false, false, false, false, false, false, false, false] rfl rfl (any_of HT_.out (by kernel_rfl)) (fun _ _ _ h => h) (Or.inl ⟨by rfl, ?_⟩) ?_ ?_
           rotate_left
           ·intro w'; go_simp; with_reducible rfl
           rotate_left
           ·simp only [Act.put, setIfInBounds_toArray, set_cons_zero, set_cons_succ, i64_w, i32_w]; rfl
           refine pure_ (i := 8) (N := some 58) (v := ?_) (a' := ?_) #[false, true, true, true, true, true, false, false, true, false, false, false, false, false, false, false, false, false, false, false, false, false] rfl rfl (any_of HT_.out (by kernel_rfl)) (fun _ _ _ h => h) (Or.inl ⟨by rfl, ?_⟩) ?_ ?_
           rotate_left
           ·intro w'; go_simp; with_reducible rfl
           rotate_left
           ·simp only [Act.put, setIfInBounds_toArray, set_cons_zero, set_cons_succ, i64_w, i32_w]; rfl
           refine pure_ (i := 9) (N := some 59) (v := ?_) (a' := ?_) #[false, true, true, true, true, true, false, false, true, true, false, false, false, false, false, false, false, false, false, false, false, false] rfl rfl (any_of HT_.out (by kernel_rfl)) (fun _ _ _ h => h) (Or.inl ⟨by rfl, ?_⟩) ?_ ?_
           rotate_left
           ·intro w'; go_simp; with_reducible rfl
           rotate_left
           ·simp only [Act.put, setIfInBounds_toArray, set_cons_zero, set_cons_succ, i64_w, i32_w]; rfl
           refine pure_ (i := 10) (N := some 60) (v := ?_) (a' := ?_) #[false, true, true, true, true, true, false, false, true, true, true, false, false, false, false, false, false, false, false, false, false, false] rfl rfl (any_of HT_.out (by kernel_rfl)) (fun _ _ _ h => h) (Or.inl ⟨by rfl, ?_⟩) ?_ ?_
           rotate_left
           ·intro w'; go_simp; with_reducible rfl
           rotate_left
           ·simp only [Act.put, setIfInBounds_toArray, set_cons_zero, set_cons_succ, i64_w, i32_w]; rfl
           refine pure_ (i := 11) (N := some 61) (v := ?_) (a' := ?_) #[false, true, true, true, true, true, false, false, true, true, true, true, false, false, false, false, false, false, false, false, false, false] rfl rfl (any_of HT_.out (by kernel_rfl)) (fun _ _ _ h => h) (Or.inl ⟨by rfl, ?_⟩) ?_ ?_
           rotate_left
           ·intro w'; go_simp; with_reducible rfl
           rotate_left
           ·simp only [Act.put, setIfInBounds_toArray, set_cons_zero, set_cons_succ, i64_w, i32_w]; rfl
           refine take_ (i := 0) (N := some 50) (v := ?_) (a' := ?_) #[true, true, true, true, true, true, false, false, true, true, true, true, false, false, false, false, false, false, false, false, false, false] rfl rfl (take_ofW HT_.out HW_.out (by kernel_rfl)) (fun _ _ _ h => h) (Or.inl ⟨by rfl, ?_⟩) hHeld ?_ ?_
           rotate_left
           ·rintro w' ⟨s0, s1, s2, s3, s4, s5, s6, s7, s8, s9⟩
            go_simp
            with_reducible rfl
           rotate_left
           ·simp only [Act.put, setIfInBounds_toArray, set_cons_zero, set_cons_succ, i64_w, i32_w]; rfl
           refine take_ (i := 6) (N := some 56) (v := ?_) (a' := ?_) #[true, true, true, true, true, true, true, false, true, true, true, true, false, false, false, false, false, false, false, false, false, false] rfl rfl (take_ofW HT_.out HW_.out (by kernel_rfl)) (fun _ _ _ h => h) (Or.inl ⟨by rfl, ?_⟩) hHeld ?_ ?_
           rotate_left
           ·rintro w' ⟨s0, s1, s2, s3, s4, s5, s6, s7, s8, s9⟩
            go_simp
            with_reducible rfl
           rotate_left
           ·simp only [Act.put, setIfInBounds_toArray, set_cons_zero, set_cons_succ, i64_w, i32_w]; rfl
           refine pure_ (i := 7) (N := some 57) (v := ?_) (a' := ?_) #[true, true, true, true, true, true, true, true, true, true, true, true, false, false, false, false, false, false, false, false, false, false] rfl rfl (any_of HT_.out (by kernel_rfl)) (fun _ _ _ h => h) (Or.inl ⟨by rfl, ?_⟩) ?_ ?_
           rotate_left
           ·intro w'; go_simp; with_reducible rfl
           rotate_left
           ·simp only [Act.put, setIfInBounds_toArray, set_cons_zero, set_cons_succ, i64_w, i32_w]; rfl
           refine take_ (i := 12) (N := some 62) (v := ?_) (a' := ?_) #[true, true, true, true, true, true, true, true, true, true, true, true, true, false, false, false, false, false, false, false, false, false] rfl rfl (take_ofW HT_.out HW_.out (by kernel_rfl)) (fun _ _ _ h => h) (Or.inl ⟨by rfl, ?_⟩) hHeld ?_ ?_
           rotate_left
           ·rintro w' ⟨s0, s1, s2, s3, s4, s5, s6, s7, s8, s9⟩
            go_simp
            with_reducible rfl
           rotate_left
           ·simp only [Act.put, setIfInBounds_toArray, set_cons_zero, set_cons_succ, i64_w, i32_w]; rfl
           refine pure_ (i := 13) (N := some 63) (v := ?_) (a' := ?_) #[true, true, true, true, true, true, true, true, true, true, true, true, true, true, false, false, false, false, false, false, false, false] rfl rfl (any_of HT_.out (by kernel_rfl)) (fun _ _ _ h => h) (Or.inl ⟨by rfl, ?_⟩) ?_ ?_
           rotate_left
           ·intro w'; go_simp; with_reducible rfl
           rotate_left
           ·simp only [Act.put, setIfInBounds_toArray, set_cons_zero, set_cons_succ, i64_w, i32_w]; rfl
           refine one_ (i := 14) (N := some 64) #[true, true, true, true, true, true, true, true, true, true, true, true, true, true, true, false, false, false, false, false, false, false] rfl rfl (one_of HT_.out (by kernel_rfl)) (by decide) (fun K hK => ?_)
           refine goes_ Try.func16 (by kernel_rfl) rfl #[.agg #[.int .i64 t363, .int .i64 t364, .int .i64 t365, .int .i64 t366], .slice Ao22 x10_2.length co22, .int .i64 (Go.bits .and .i64 ((rd_T32 l1 x11_2).f0) 3), .int .i64 (Go.bits .and .i64 ((rd_T32 l1 x11_2).f1) 7)] (by rfl) rfl rfl (by (try simp only [List.map_toArray, List.map_cons, List.map_nil]); first | done | rfl | (simp only [List.length_drop, List.length_take]; rfl)) ?_
           with_reducible refine (space_Take.calls kj13 t363 t364 t365 t366 (fun k_ => (k_ ≠ gb361 ∧ k_ ≠ gb370)) _ _ x10_2 (Go.bits .and .i64 ((rd_T32 l1 x11_2).f0) 3) (Go.bits .and .i64 ((rd_T32 l1 x11_2).f1) 7) t373 t376 true _ ?side1 A19.out).mono ?_
           (case side1 => exact HO_10.out)
           rintro e w23 ⟨v374, v377, rfl, ho0, ho1, hb⟩
           refine ⟨_, rfl, ?_⟩
           have n0_ := Aside0.mk (Kd.V_elder' (by (with_reducible repeat (first | apply Kd.V_alloc | apply Kd.V_drewN | apply Kd.V_drew)); exact HO_10.out) (Kd.R_base ho1) hb)
           have n1_ := Aside0.mk (Kd.V_lower (Kd.V_mono (ok' := fun k_ => some k_ ≠ (v377 : Value).ownBlock ∧ k_ ≠ gb361 ∧ k_ ≠ gb370) ho0 (fun k_ hk_ => ⟨hk_.2, Or.elim hk_.1 (fun hs_ => hs_.1) (fun hn_ => (Kd.freshB (g := gb361) (o := .cells #[.int .i64 a2_0, .int .i64 a2_1, .slice A2_2 l2_2.length c2_2] 32 (0, 0)) (by (with_reducible repeat (first | refine blk_drewN ?_ _ | refine blk_drew ?_ | refine blk_alloc ?_ _)); exact BK361.out) k_ hn_)), Or.elim hk_.1 (fun hs_ => hs_.2) (fun hn_ => (Kd.freshB (g := gb370) (o := .cells #[.int .i64 t363, .int .i64 t364, .int .i64 t365, .int .i64 t366] 23 (0, 0)) (by (with_reducible repeat (first | refine blk_drewN ?_ _ | refine blk_drew ?_ | refine blk_alloc ?_ _)); exact BK370.out) k_ hn_))⟩)) (below_size (by repeat (first | (with_reducible first | exact HB.out | apply below_alloc | apply pw_below_drewN | apply below_drew1 | refine below_set ?_ GE361.out | refine below_set ?_ GE370.out) | exact HB.out))))
           have n2_ := Aside0.mk (Kd.R_lower (Kd.R_mono (ok' := fun k_ => True) ho1 (fun _ hk_ => trivial)) (below_size (by repeat (first | (with_reducible first | exact HB.out | apply below_alloc | apply pw_below_drewN | apply below_drew1 | refine below_set ?_ GE361.out | refine below_set ?_ GE370.out) | exact HB.out))))
           have n3_ := Aside0.mk (blk_below (g := gb361) (o := .cells #[.int .i64 a2_0, .int .i64 a2_1, .slice A2_2 l2_2.length c2_2] 32 (0, 0)) (by (with_reducible repeat (first | refine blk_drewN ?_ _ | refine blk_drew ?_ | refine blk_alloc ?_ _)); exact BK361.out) hb)
           have n4_ := Aside0.mk (blk_below (g := gb370) (o := .cells #[.int .i64 t363, .int .i64 t364, .int .i64 t365, .int .i64 t366] 23 (0, 0)) (by (with_reducible repeat (first | refine blk_drewN ?_ _ | refine blk_drew ?_ | refine blk_alloc ?_ _)); exact BK370.out) hb)
           have n5_ := Aside0.mk (below_step (by repeat (first | (with_reducible first | exact HB.out | apply below_alloc | apply pw_below_drewN | apply below_drew1 | refine below_set ?_ GE361.out | refine below_set ?_ GE370.out) | exact HB.out)) hb)
           clear HO_10
           clear BK361
           clear BK370
           clear HB
           have HO_10 := n0_
           have HO375 := n1_
           have HO378 := n2_
           have BK361 := n3_
           have BK370 := n4_
           have HB := n5_
           clear n0_ n1_ n2_ n3_ n4_ n5_
           (try clear hb)
           (try clear hb2)
           (try clear hk)
           (try clear hi)
           (try clear ho0)
           (try clear ho1)
           refine hK.out _ _ ⟨(blk_cell BK370.out 0).trans rfl, (blk_cell BK370.out 1).trans rfl, (blk_cell BK370.out 2).trans rfl, (blk_cell BK370.out 3).trans rfl, ((HB.out.cell (World.block_lt_of_cell? w _ hw371_0)).trans hw371_0), ((HB.out.cell (World.block_lt_of_cell? w _ hw371_1)).trans hw371_1), ((HB.out.cell (World.block_lt_of_cell? w _ hw371_2)).trans hw371_2), ((HB.out.cell (World.block_lt_of_cell? w _ hw372_0)).trans hw372_0), ((HB.out.cell (World.block_lt_of_cell? w _ hw372_1)).trans hw372_1), ((HB.out.cell (World.block_lt_of_cell? w _ hw372_2)).trans hw372_2)⟩ (fun hHeld => ?_)
           clear hK K
           refine norm_ (a' := ?_) ?_ ?_
           rotate_left
           ·show Act.put _ (some 64) _ = _
            simp only [Act.put, setIfInBounds_toArray, set_cons_zero, set_cons_succ, i64_w, i32_w]
            rfl
           refine pure_ (i := 15) (N := some 49) (v := ?_) (a' := ?_) #[true, true, true, true, true, true, true, true, true, true, true, true, true, true, true, true, false, false, false, false, false, false] rfl rfl (any_of HT_.out (by kernel_rfl)) (fun _ _ _ h => h) (Or.inl ⟨by rfl, ?_⟩) ?_ ?_
           rotate_left
           ·intro w'; go_simp; with_reducible rfl
           rotate_left
           ·simp only [Act.put, setIfInBounds_toArray, set_cons_zero, set_cons_succ, i64_w, i32_w]; rfl
           refine pure_ (i := 16) (N := some 65) (v := ?_) (a' := ?_) #[true, true, true, true, true, true, true, true, true, true, true, true, true, true, true, true, true, false, false, false, false, false] rfl rfl (any_of HT_.out (by kernel_rfl)) (fun _ _ _ h => h) (Or.inl ⟨by rfl, ?_⟩) ?_ ?_
           rotate_left
           ·intro w'; go_simp; with_reducible rfl
           rotate_left
           ·simp only [Act.put, setIfInBounds_toArray, set_cons_zero, set_cons_succ, i64_w, i32_w]; rfl
           refine pure_ (i := 17) (N := some 66) (v := ?_) (a' := ?_) #[true, true, true, true, true, true, true, true, true, true, true, true, true, true, true, true, true, true, false, false, false, false] rfl rfl (any_of HT_.out (by kernel_rfl)) (fun _ _ _ h => h) (Or.inl ⟨by rfl, ?_⟩) ?_ ?_
           rotate_left
           ·intro w'; go_simp; with_reducible rfl
           rotate_left
           ·simp only [Act.put, setIfInBounds_toArray, set_cons_zero, set_cons_succ, i64_w, i32_w]; rfl
           refine pure_ (i := 18) (N := some 67) (v := ?_) (a' := ?_) #[true, true, true, true, true, true, true, true, true, true, true, true, true, true, true, true, true, true, true, false, false, false] rfl rfl (any_of HT_.out (by kernel_rfl)) (fun _ _ _ h => h) (Or.inl ⟨by rfl, ?_⟩) ?_ ?_
           rotate_left
           ·intro w'; go_simp; with_reducible rfl
           rotate_left
           ·simp only [Act.put, setIfInBounds_toArray, set_cons_zero, set_cons_succ, i64_w, i32_w]; rfl
           refine pure_ (i := 19) (N := some 12) (v := ?_) (a' := ?_) #[true, true, true, true, true, true, true, true, true, true, true, true, true, true, true, true, true, true, true, true, false, false] rfl rfl (any_of HT_.out (by kernel_rfl)) (fun _ _ _ h => h) (Or.inl ⟨by rfl, ?_⟩) ?_ ?_
           rotate_left
           ·intro w'; go_simp; with_reducible rfl
           rotate_left
           ·simp only [Act.put, setIfInBounds_toArray, set_cons_zero, set_cons_succ, i64_w, i32_w]; rfl
           refine pure_ (i := 20) (N := some 13) (v := ?_) (a' := ?_) #[true, true, true, true, true, true, true, true, true, true, true, true, true, true, true, true, true, true, true, true, true, false] rfl rfl (any_of HT_.out (by kernel_rfl)) (fun _ _ _ h => h) (Or.inl ⟨by rfl, ?_⟩) ?_ ?_
           rotate_left
           ·intro w'; go_simp; with_reducible rfl
           rotate_left
           ·simp only [Act.put, setIfInBounds_toArray, set_cons_zero, set_cons_succ, i64_w, i32_w]; rfl
           refine pure_ (i := 21) (N := some 14) (v := ?_) (a' := ?_) #[true, true, true, true, true, true, true, true, true, true, true, true, true, true, true, true, true, true, true, true, true, true] rfl rfl (any_of HT_.out (by kernel_rfl)) (fun _ _ _ h => h) (Or.inl ⟨by rfl, ?_⟩) ?_ ?_
           rotate_left
           ·intro w'; go_simp; with_reducible rfl
           rotate_left
           ·simp only [Act.put, setIfInBounds_toArray, set_cons_zero, set_cons_succ, i64_w, i32_w]; rfl
           refine done_ (done_of HT_.out (by kernel_rfl)) ?_
           try go_wp2
           go_roundg kj13
           case measure => have := HJ4.out; have := HK2.out; have := HJ13.out; omega
           case rel => exact ⟨(t373), (wrap64 (x11_2 + 1)), (by first | rfl | (simp; done) | (simp [*]; done)), H', ⟨by have := HJ4.out; have := HK2.out; have := HJ13.out; omega⟩, ⟨by (with_reducible repeat (first | apply Kd.V_alloc | apply Kd.V_drewN | apply Kd.V_drew)); exact Kd.V_mono HO375.out (fun _ hk => ⟨hk.2.1, hk.2.2⟩)⟩, ⟨by (with_reducible repeat (first | refine blk_drewN ?_ _ | refine blk_drew ?_ | refine blk_alloc ?_ _)); exact BK361.out⟩, ⟨by (with_reducible repeat (first | refine blk_drewN ?_ _ | refine blk_drew ?_ | refine blk_alloc ?_ _)); exact BK370.out⟩, ⟨by repeat (first | (with_reducible first | exact HB.out | apply below_alloc | apply pw_below_drewN | apply below_drew1 | refine below_set ?_ GE361.out | refine below_set ?_ GE370.out) | exact HB.out)⟩⟩
          ·replace c20 := Bool.eq_false_iff.mpr c20
           subst c20
           have H1 : (lockgatelaw17_SpaceZone.l0 kj13 l1 t362 x10_2 (wrap64 (x11_2 + 1)) a2_0 a2_1 l2_2 t363 t364 t365 t366) = some r := by rw [if_neg (show ¬ (false = true) by decide)] at H; exact H
           clear H
           have H := H1
           clear H1
           have H' := Aside0.mk H
           clear H
           try go_wp2
           have n0_ := Aside0.mk (Kd.V_drew HO_10.out)
           have n1_ := Aside0.mk (blk_drew BK361.out)
           have n2_ := Aside0.mk (blk_drew BK370.out)
           have n3_ := Aside0.mk (below_drew1 HB.out)
           clear HO_10
           clear BK361
           clear BK370
           clear HB
           have HO_10 := n0_
           have BK361 := n1_
           have BK370 := n2_
           have HB := n3_
           clear n0_ n1_ n2_ n3_
           have p371 : 0 ≤ (x11_2 : Int) := of_decide_eq_true (by first | (with_reducible assumption) | assumption)
           have q371 : x11_2 < (l1.length : Int) := of_decide_eq_true (by first | (with_reducible assumption) | assumption)
           obtain ⟨ad371, A371_2, c371_2, e371, hx371_0, hx371_1, hx371_2, hl371_2, hi371_2⟩ := at_T32 HR1.out x11_2 p371 q371
           have hw371_2 := hx371_2
           have hw371_1 := hx371_1
           have hw371_0 := hx371_0
           cases e371
           replace hx371_0 := (HB.out.cell (World.block_lt_of_cell? w _ hx371_0)).trans hx371_0
           replace hx371_1 := (HB.out.cell (World.block_lt_of_cell? w _ hx371_1)).trans hx371_1
           replace hx371_2 := (HB.out.cell (World.block_lt_of_cell? w _ hx371_2)).trans hx371_2
           have HR371_2 := Aside0.mk hi371_2
           have HC371_2 := Aside0.mk hl371_2
           clear hi371_2 hl371_2
           replace p371 := eq_true p371
           replace q371 := eq_true q371
           have p372 : 0 ≤ (x11_2 : Int) := of_decide_eq_true (by first | (with_reducible assumption) | assumption)
           have q372 : x11_2 < (l1.length : Int) := of_decide_eq_true (by first | (with_reducible assumption) | assumption)
           obtain ⟨ad372, A372_2, c372_2, e372, hx372_0, hx372_1, hx372_2, hl372_2, hi372_2⟩ := at_T32 HR1.out x11_2 p372 q372
           have hw372_2 := hx372_2
           have hw372_1 := hx372_1
           have hw372_0 := hx372_0
           obtain rfl : ad371 = ad372 := (by injection e372)
           replace hx372_0 := (HB.out.cell (World.block_lt_of_cell? w _ hx372_0)).trans hx372_0
           replace hx372_1 := (HB.out.cell (World.block_lt_of_cell? w _ hx372_1)).trans hx372_1
           replace hx372_2 := (HB.out.cell (World.block_lt_of_cell? w _ hx372_2)).trans hx372_2
           have HR372_2 := Aside0.mk hi372_2
           have HC372_2 := Aside0.mk hl372_2
           clear hi372_2 hl372_2
           replace p372 := eq_true p372
           replace q372 := eq_true q372
           have ea_ := Option.some.inj (hx371_2.symm.trans hx372_2)
           injection ea_ with ea_ en_ ec_
           subst ea_
           subst ec_
           clear en_
           obtain ⟨Ao25, co25, eo25⟩ := Kd.V_slice HO_10.out
           (first | subst eo25 | (injection eo25 with f1_ f2_ f3_; have f4_ := f1_.symm; have f5_ := f3_.symm; clear f1_ f2_ f3_; subst f4_; subst f5_))
           refine start_ (n := 22) (S := fun w' => w'.cell? ⟨gb370, 0, none⟩ = some (.int .i64 t363) ∧ w'.cell? ⟨gb370, 1, none⟩ = some (.int .i64 t364) ∧ w'.cell? ⟨gb370, 2, none⟩ = some (.int .i64 t365) ∧ w'.cell? ⟨gb370, 3, none⟩ = some (.int .i64 t366) ∧ w'.cell? (ad371.add ((x11_2).toNat * 3)) = some (.int .i64 ((rd_T32 l1 x11_2).f0)) ∧ w'.cell? ⟨(ad371.add ((x11_2).toNat * 3)).block, (ad371.add ((x11_2).toNat * 3)).off + 1, none⟩ = some (.int .i64 ((rd_T32 l1 x11_2).f1)) ∧ w'.cell? ⟨(ad371.add ((x11_2).toNat * 3)).block, (ad371.add ((x11_2).toNat * 3)).off + 2, none⟩ = some (.slice A371_2 ((rd_T32 l1 x11_2).f2).length c371_2) ∧ w'.cell? (ad371.add ((x11_2).toNat * 3)) = some (.int .i64 ((rd_T32 l1 x11_2).f0)) ∧ w'.cell? ⟨(ad371.add ((x11_2).toNat * 3)).block, (ad371.add ((x11_2).toNat * 3)).off + 1, none⟩ = some (.int .i64 ((rd_T32 l1 x11_2).f1)) ∧ w'.cell? ⟨(ad371.add ((x11_2).toNat * 3)).block, (ad371.add ((x11_2).toNat * 3)).off + 2, none⟩ = some (.slice A371_2 ((rd_T32 l1 x11_2).f2).length c371_2)) (ds := []) #[false, false, false, false, false, false, false, false, false, false, false, false, false, false, false, false, false, false, false, false, false, false] (by kernel_rfl) rfl rfl ⟨(blk_cell BK370.out 0).trans rfl, (blk_cell BK370.out 1).trans rfl, (blk_cell BK370.out 2).trans rfl, (blk_cell BK370.out 3).trans rfl, ((HB.out.cell (World.block_lt_of_cell? w _ hw371_0)).trans hw371_0), ((HB.out.cell (World.block_lt_of_cell? w _ hw371_1)).trans hw371_1), ((HB.out.cell (World.block_lt_of_cell? w _ hw371_2)).trans hw371_2), ((HB.out.cell (World.block_lt_of_cell? w _ hw372_0)).trans hw372_0), ((HB.out.cell (World.block_lt_of_cell? w _ hw372_1)).trans hw372_1), ((HB.out.cell (World.block_lt_of_cell? w _ hw372_2)).trans hw372_2)⟩ (fun hHeld => ?_); refine with_tabW lockgatelaw17_SpaceZone.tab9 lockgatelaw17_SpaceZone.bits9 (fun HT_ HW_ => ?_)
           generalize wc.drew = w24 at HO_10 BK361 BK370 HB HR371_2 HR372_2 hx371_0 hx371_1 hx371_2 hx372_0 hx372_1 hx372_2 hHeld ⊢
           refine pure_ (i := 1) (N := some 51) (v := ?_) (a' := ?_) #[false, true, false, false, false, false, false, false, false, false, false, false, false, false, false, false, false, false, false, false, false, false] rfl rfl (any_of HT_.out (by kernel_rfl)) (fun _ _ _ h => h) (Or.inl ⟨by rfl, ?_⟩) ?_ ?_
           rotate_left
           ·intro w'; go_simp; with_reducible rfl
           rotate_left
           ·simp only [Act.put, setIfInBounds_toArray, set_cons_zero, set_cons_succ, i64_w, i32_w]; rfl
           refine pure_ (i := 2) (N := some 52) (v := ?_) (a' := ?_) #[false, true, true, false, false, false, false, false, false, false, false, false, false, false, false, false, false, false, false, false, false, false] rfl rfl (any_of HT_.out (by kernel_rfl)) (fun _ _ _ h => h) (Or.inl ⟨by rfl, ?_⟩) ?_ ?_
           rotate_left
           ·intro w'; go_simp; with_reducible rfl
           rotate_left
           ·simp only [Act.put, setIfInBounds_toArray, set_cons_zero, set_cons_succ, i64_w, i32_w]; rfl
           refine pure_ (i := 3) (N := some 53) (v := ?_) (a' := ?_) #[false, true, true, true, false, false, false, false, false, false, false, false, false, false, false, false, false, false, false, false, false, false] rfl rfl (any_of HT_.out (by kernel_rfl)) (fun _ _ _ h => h) (Or.inl ⟨by rfl, ?_⟩) ?_ ?_
           rotate_left
           ·intro w'; go_simp; with_reducible rfl
           rotate_left
           ·simp only [Act.put, setIfInBounds_toArray, set_cons_zero, set_cons_succ, i64_w, i32_w]; rfl
           refine pure_ (i := 4) (N := some 54) (v := ?_) (a' := ?_) #[false, true, true, true, true, false, false, false, false, false, false, false, false, false, false, false, false, false, false, false, false, false] rfl rfl (any_of HT_.out (by kernel_rfl)) (fun _ _ _ h => h) (Or.inl ⟨by rfl, ?_⟩) ?_ ?_
           rotate_left
           ·intro w'; go_simp; with_reducible rfl
           rotate_left
           ·simp only [Act.put, setIfInBounds_toArray, set_cons_zero, set_cons_succ, i64_w, i32_w]; rfl
           refine pure_ (i := 5) (N := some 55) (v := ?_) (a' := ?_) #[false, true, true, true, true, true, false, false, false, false, false, false, false, false, false, false, false, false, false, false, false, false] rfl rfl (any_of HT_.out (by kernel_rfl)) (fun _ _ _ h => h) (Or.inl ⟨by rfl, ?_⟩) ?_ ?_
           rotate_left
           ·intro w'; go_simp; with_reducible rfl
           rotate_left
           ·simp only [Act.put, setIfInBounds_toArray, set_cons_zero, set_cons_succ, i64_w, i32_w]; rfl
           refine pure_ (i := 8) (N := some 58) (v := ?_) (a' := ?_) #[false, true, true, true, true, true, false, false, true, false, false, false, false, false, false, false, false, false, false, false, false, false] rfl rfl (any_of HT_.out (by kernel_rfl)) (fun _ _ _ h => h) (Or.inl ⟨by rfl, ?_⟩) ?_ ?_
           rotate_left
           ·intro w'; go_simp; with_reducible rfl
           rotate_left
           ·simp only [Act.put, setIfInBounds_toArray, set_cons_zero, set_cons_succ, i64_w, i32_w]; rfl
           refine pure_ (i := 9) (N := some 59) (v := ?_) (a' := ?_) #[false, true, true, true, true, true, false, false, true, true, false, false, false, false, false, false, false, false, false, false, false, false] rfl rfl (any_of HT_.out (by kernel_rfl)) (fun _ _ _ h => h) (Or.inl ⟨by rfl, ?_⟩) ?_ ?_
           rotate_left
           ·intro w'; go_simp; with_reducible rfl
           rotate_left
           ·simp only [Act.put, setIfInBounds_toArray, set_cons_zero, set_cons_succ, i64_w, i32_w]; rfl
           refine pure_ (i := 10) (N := some 60) (v := ?_) (a' := ?_) #[false, true, true, true, true, true, false, false, true, true, true, false, false, false, false, false, false, false, false, false, false, false] rfl rfl (any_of HT_.out (by kernel_rfl)) (fun _ _ _ h => h) (Or.inl ⟨by rfl, ?_⟩) ?_ ?_
           rotate_left
           ·intro w'; go_simp; with_reducible rfl
           rotate_left
           ·simp only [Act.put, setIfInBounds_toArray, set_cons_zero, set_cons_succ, i64_w, i32_w]; rfl
           refine pure_ (i := 11) (N := some 61) (v := ?_) (a' := ?_) #[false, true, true, true, true, true, false, false, true, true, true, true, false, false, false, false, false, false, false, false, false, false] rfl rfl (any_of HT_.out (by kernel_rfl)) (fun _ _ _ h => h) (Or.inl ⟨by rfl, ?_⟩) ?_ ?_
           rotate_left
           ·intro w'; go_simp; with_reducible rfl
           rotate_left
           ·simp only [Act.put, setIfInBounds_toArray, set_cons_zero, set_cons_succ, i64_w, i32_w]; rfl
           refine take_ (i := 0) (N := some 50) (v := ?_) (a' := ?_) #[true, true, true, true, true, true, false, false, true, true, true, true, false, false, false, false, false, false, false, false, false, false] rfl rfl (take_ofW HT_.out HW_.out (by kernel_rfl)) (fun _ _ _ h => h) (Or.inl ⟨by rfl, ?_⟩) hHeld ?_ ?_
           rotate_left
           ·rintro w' ⟨s0, s1, s2, s3, s4, s5, s6, s7, s8, s9⟩
            go_simp
            with_reducible rfl
           rotate_left
           ·simp only [Act.put, setIfInBounds_toArray, set_cons_zero, set_cons_succ, i64_w, i32_w]; rfl
           refine take_ (i := 6) (N := some 56) (v := ?_) (a' := ?_) #[true, true, true, true, true, true, true, false, true, true, true, true, false, false, false, false, false, false, false, false, false, false] rfl rfl (take_ofW HT_.out HW_.out (by kernel_rfl)) (fun _ _ _ h => h) (Or.inl ⟨by rfl, ?_⟩) hHeld ?_ ?_
           rotate_left
           ·rintro w' ⟨s0, s1, s2, s3, s4, s5, s6, s7, s8, s9⟩
            go_simp
            with_reducible rfl
           rotate_left
           ·simp only [Act.put, setIfInBounds_toArray, set_cons_zero, set_cons_succ, i64_w, i32_w]; rfl
           refine pure_ (i := 7) (N := some 57) (v := ?_) (a' := ?_) #[true, true, true, true, true, true, true, true, true, true, true, true, false, false, false, false, false, false, false, false, false, false] rfl rfl (any_of HT_.out (by kernel_rfl)) (fun _ _ _ h => h) (Or.inl ⟨by rfl, ?_⟩) ?_ ?_
           rotate_left
           ·intro w'; go_simp; with_reducible rfl
           rotate_left
           ·simp only [Act.put, setIfInBounds_toArray, set_cons_zero, set_cons_succ, i64_w, i32_w]; rfl
           refine take_ (i := 12) (N := some 62) (v := ?_) (a' := ?_) #[true, true, true, true, true, true, true, true, true, true, true, true, true, false, false, false, false, false, false, false, false, false] rfl rfl (take_ofW HT_.out HW_.out (by kernel_rfl)) (fun _ _ _ h => h) (Or.inl ⟨by rfl, ?_⟩) hHeld ?_ ?_
           rotate_left
           ·rintro w' ⟨s0, s1, s2, s3, s4, s5, s6, s7, s8, s9⟩
            go_simp
            with_reducible rfl
           rotate_left
           ·simp only [Act.put, setIfInBounds_toArray, set_cons_zero, set_cons_succ, i64_w, i32_w]; rfl
           refine pure_ (i := 13) (N := some 63) (v := ?_) (a' := ?_) #[true, true, true, true, true, true, true, true, true, true, true, true, true, true, false, false, false, false, false, false, false, false] rfl rfl (any_of HT_.out (by kernel_rfl)) (fun _ _ _ h => h) (Or.inl ⟨by rfl, ?_⟩) ?_ ?_
           rotate_left
           ·intro w'; go_simp; with_reducible rfl
           rotate_left
           ·simp only [Act.put, setIfInBounds_toArray, set_cons_zero, set_cons_succ, i64_w, i32_w]; rfl
           refine one_ (i := 14) (N := some 64) #[true, true, true, true, true, true, true, true, true, true, true, true, true, true, true, false, false, false, false, false, false, false] rfl rfl (one_of HT_.out (by kernel_rfl)) (by decide) (fun K hK => ?_)
           refine goes_ Try.func16 (by kernel_rfl) rfl #[.agg #[.int .i64 t363, .int .i64 t364, .int .i64 t365, .int .i64 t366], .slice Ao25 x10_2.length co25, .int .i64 (Go.bits .and .i64 ((rd_T32 l1 x11_2).f0) 3), .int .i64 (Go.bits .and .i64 ((rd_T32 l1 x11_2).f1) 7)] (by rfl) rfl rfl (by (try simp only [List.map_toArray, List.map_cons, List.map_nil]); first | done | rfl | (simp only [List.length_drop, List.length_take]; rfl)) ?_
           with_reducible refine (space_Take.calls kj13 t363 t364 t365 t366 (fun k_ => (k_ ≠ gb361 ∧ k_ ≠ gb370)) _ _ x10_2 (Go.bits .and .i64 ((rd_T32 l1 x11_2).f0) 3) (Go.bits .and .i64 ((rd_T32 l1 x11_2).f1) 7) t373 t376 false _ ?side1 A19.out).mono ?_
           (case side1 => exact HO_10.out)
           rintro e w26 ⟨v374, v377, rfl, ho0, ho1, hb⟩
           refine ⟨_, rfl, ?_⟩
           have n0_ := Aside0.mk (Kd.V_elder' (by (with_reducible repeat (first | apply Kd.V_alloc | apply Kd.V_drewN | apply Kd.V_drew)); exact HO_10.out) (Kd.R_base ho1) hb)
           have n1_ := Aside0.mk (Kd.V_lower (Kd.V_mono (ok' := fun k_ => some k_ ≠ (v377 : Value).ownBlock ∧ k_ ≠ gb361 ∧ k_ ≠ gb370) ho0 (fun k_ hk_ => ⟨hk_.2, Or.elim hk_.1 (fun hs_ => hs_.1) (fun hn_ => (Kd.freshB (g := gb361) (o := .cells #[.int .i64 a2_0, .int .i64 a2_1, .slice A2_2 l2_2.length c2_2] 32 (0, 0)) (by (with_reducible repeat (first | refine blk_drewN ?_ _ | refine blk_drew ?_ | refine blk_alloc ?_ _)); exact BK361.out) k_ hn_)), Or.elim hk_.1 (fun hs_ => hs_.2) (fun hn_ => (Kd.freshB (g := gb370) (o := .cells #[.int .i64 t363, .int .i64 t364, .int .i64 t365, .int .i64 t366] 23 (0, 0)) (by (with_reducible repeat (first | refine blk_drewN ?_ _ | refine blk_drew ?_ | refine blk_alloc ?_ _)); exact BK370.out) k_ hn_))⟩)) (below_size (by repeat (first | (with_reducible first | exact HB.out | apply below_alloc | apply pw_below_drewN | apply below_drew1 | refine below_set ?_ GE361.out | refine below_set ?_ GE370.out) | exact HB.out))))
           have n2_ := Aside0.mk (Kd.R_lower (Kd.R_mono (ok' := fun k_ => True) ho1 (fun _ hk_ => trivial)) (below_size (by repeat (first | (with_reducible first | exact HB.out | apply below_alloc | apply pw_below_drewN | apply below_drew1 | refine below_set ?_ GE361.out | refine below_set ?_ GE370.out) | exact HB.out))))
           have n3_ := Aside0.mk (blk_below (g := gb361) (o := .cells #[.int .i64 a2_0, .int .i64 a2_1, .slice A2_2 l2_2.length c2_2] 32 (0, 0)) (by (with_reducible repeat (first | refine blk_drewN ?_ _ | refine blk_drew ?_ | refine blk_alloc ?_ _)); exact BK361.out) hb)
           have n4_ := Aside0.mk (blk_below (g := gb370) (o := .cells #[.int .i64 t363, .int .i64 t364, .int .i64 t365, .int .i64 t366] 23 (0, 0)) (by (with_reducible repeat (first | refine blk_drewN ?_ _ | refine blk_drew ?_ | refine blk_alloc ?_ _)); exact BK370.out) hb)
           have n5_ := Aside0.mk (below_step (by repeat (first | (with_reducible first | exact HB.out | apply below_alloc | apply pw_below_drewN | apply below_drew1 | refine below_set ?_ GE361.out | refine below_set ?_ GE370.out) | exact HB.out)) hb)
           clear HO_10
           clear BK361
           clear BK370
           clear HB
           have HO_10 := n0_
           have HO375 := n1_
           have HO378 := n2_
           have BK361 := n3_
           have BK370 := n4_
           have HB := n5_
           clear n0_ n1_ n2_ n3_ n4_ n5_
           (try clear hb)
           (try clear hb2)
           (try clear hk)
           (try clear hi)
           (try clear ho0)
           (try clear ho1)
           refine hK.out _ _ ⟨(blk_cell BK370.out 0).trans rfl, (blk_cell BK370.out 1).trans rfl, (blk_cell BK370.out 2).trans rfl, (blk_cell BK370.out 3).trans rfl, ((HB.out.cell (World.block_lt_of_cell? w _ hw371_0)).trans hw371_0), ((HB.out.cell (World.block_lt_of_cell? w _ hw371_1)).trans hw371_1), ((HB.out.cell (World.block_lt_of_cell? w _ hw371_2)).trans hw371_2), ((HB.out.cell (World.block_lt_of_cell? w _ hw372_0)).trans hw372_0), ((HB.out.cell (World.block_lt_of_cell? w _ hw372_1)).trans hw372_1), ((HB.out.cell (World.block_lt_of_cell? w _ hw372_2)).trans hw372_2)⟩ (fun hHeld => ?_)
           clear hK K
           refine norm_ (a' := ?_) ?_ ?_
           rotate_left
           ·show Act.put _ (some 64) _ = _
            simp only [Act.put, setIfInBounds_toArray, set_cons_zero, set_cons_succ, i64_w, i32_w]
            rfl
           refine pure_ (i := 15) (N := some 49) (v := ?_) (a' := ?_) #[true, true, true, true, true, true, true, true, true, true, true, true, true, true, true, true, false, false, false, false, false, false] rfl rfl (any_of HT_.out (by kernel_rfl)) (fun _ _ _ h => h) (Or.inl ⟨by rfl, ?_⟩) ?_ ?_
           rotate_left
           ·intro w'; go_simp; with_reducible rfl
           rotate_left
           ·simp only [Act.put, setIfInBounds_toArray, set_cons_zero, set_cons_succ, i64_w, i32_w]; rfl
           refine pure_ (i := 16) (N := some 65) (v := ?_) (a' := ?_) #[true, true, true, true, true, true, true, true, true, true, true, true, true, true, true, true, true, false, false, false, false, false] rfl rfl (any_of HT_.out (by kernel_rfl)) (fun _ _ _ h => h) (Or.inl ⟨by rfl, ?_⟩) ?_ ?_
           rotate_left
           ·intro w'; go_simp; with_reducible rfl
           rotate_left
           ·simp only [Act.put, setIfInBounds_toArray, set_cons_zero, set_cons_succ, i64_w, i32_w]; rfl
           refine pure_ (i := 17) (N := some 66) (v := ?_) (a' := ?_) #[true, true, true, true, true, true, true, true, true, true, true, true, true, true, true, true, true, true, false, false, false, false] rfl rfl (any_of HT_.out (by kernel_rfl)) (fun _ _ _ h => h) (Or.inl ⟨by rfl, ?_⟩) ?_ ?_
           rotate_left
           ·intro w'; go_simp; with_reducible rfl
           rotate_left
           ·simp only [Act.put, setIfInBounds_toArray, set_cons_zero, set_cons_succ, i64_w, i32_w]; rfl
           refine pure_ (i := 18) (N := some 67) (v := ?_) (a' := ?_) #[true, true, true, true, true, true, true, true, true, true, true, true, true, true, true, true, true, true, true, false, false, false] rfl rfl (any_of HT_.out (by kernel_rfl)) (fun _ _ _ h => h) (Or.inl ⟨by rfl, ?_⟩) ?_ ?_
           rotate_left
           ·intro w'; go_simp; with_reducible rfl
           rotate_left
           ·simp only [Act.put, setIfInBounds_toArray, set_cons_zero, set_cons_succ, i64_w, i32_w]; rfl
           refine pure_ (i := 19) (N := some 12) (v := ?_) (a' := ?_) #[true, true, true, true, true, true, true, true, true, true, true, true, true, true, true, true, true, true, true, true, false, false] rfl rfl (any_of HT_.out (by kernel_rfl)) (fun _ _ _ h => h) (Or.inl ⟨by rfl, ?_⟩) ?_ ?_
           rotate_left
           ·intro w'; go_simp; with_reducible rfl
           rotate_left
           ·simp only [Act.put, setIfInBounds_toArray, set_cons_zero, set_cons_succ, i64_w, i32_w]; rfl
           refine pure_ (i := 20) (N := some 13) (v := ?_) (a' := ?_) #[true, true, true, true, true, true, true, true, true, true, true, true, true, true, true, true, true, true, true, true, true, false] rfl rfl (any_of HT_.out (by kernel_rfl)) (fun _ _ _ h => h) (Or.inl ⟨by rfl, ?_⟩) ?_ ?_
           rotate_left
           ·intro w'; go_simp; with_reducible rfl
           rotate_left
           ·simp only [Act.put, setIfInBounds_toArray, set_cons_zero, set_cons_succ, i64_w, i32_w]; rfl
           refine pure_ (i := 21) (N := some 14) (v := ?_) (a' := ?_) #[true, true, true, true, true, true, true, true, true, true, true, true, true, true, true, true, true, true, true, true, true, true] rfl rfl (any_of HT_.out (by kernel_rfl)) (fun _ _ _ h => h) (Or.inl ⟨by rfl, ?_⟩) ?_ ?_
           rotate_left
           ·intro w'; go_simp; with_reducible rfl
           rotate_left
           ·simp only [Act.put, setIfInBounds_toArray, set_cons_zero, set_cons_succ, i64_w, i32_w]; rfl
           refine done_ (done_of HT_.out (by kernel_rfl)) ?_
           try go_wp2
           go_roundg kj13
           case measure => have := HJ4.out; have := HK2.out; have := HJ13.out; omega
           case rel => exact ⟨(x10_2), (wrap64 (x11_2 + 1)), (by first | rfl | (simp; done) | (simp [*]; done)), H', ⟨by have := HJ4.out; have := HK2.out; have := HJ13.out; omega⟩, ⟨by (with_reducible repeat (first | apply Kd.V_alloc | apply Kd.V_drewN | apply Kd.V_drew)); exact Kd.V_mono HO_10.out (fun _ hk => ⟨hk.1.1, hk.1.2⟩)⟩, ⟨by (with_reducible repeat (first | refine blk_drewN ?_ _ | refine blk_drew ?_ | refine blk_alloc ?_ _)); exact BK361.out⟩, ⟨by (with_reducible repeat (first | refine blk_drewN ?_ _ | refine blk_drew ?_ | refine blk_alloc ?_ _)); exact BK370.out⟩, ⟨by repeat (first | (with_reducible first | exact HB.out | apply below_alloc | apply pw_below_drewN | apply below_drew1 | refine below_set ?_ GE361.out | refine below_set ?_ GE370.out) | exact HB.out)⟩⟩
         ·rw [if_neg c18] at H
          exact absurd H (by simp)
        ·rw [if_neg c17] at H
         exact absurd H (by simp)
       ·replace c16 := Bool.eq_false_iff.mpr c16
        subst c16
        have H1 : (if (Int.tmod a2_1 20) < 0 then (lockgatelaw17_SpaceZone.j3 kj13 t362 x10_2 (Go.bits .and .i64 a2_0 3) (wrap64 (-(Int.tmod a2_1 20))) t363 t364 t365 t366) else (lockgatelaw17_SpaceZone.j3 kj13 t362 x10_2 (Go.bits .and .i64 a2_0 3) (Int.tmod a2_1 20) t363 t364 t365 t366)) = some r := by rw [if_neg (show ¬ (false = true) by decide)] at H; exact H
        clear H
        have H := H1
        clear H1
        have HC27 := Aside0.mk H
        clear H
        have hnb28 := NB361_370.out
        have hnc28 := NB370_361.out
        have hcz29_0 : wc.cell? ⟨gb361, 0, none⟩ = some (.int .i64 a2_0) := (blk_cell BK361.out 0).trans rfl
        have hcz29_1 : wc.cell? ⟨gb361, 1, none⟩ = some (.int .i64 a2_1) := (blk_cell BK361.out 1).trans rfl
        have hcz29_2 : wc.cell? ⟨gb361, 2, none⟩ = some (.slice A2_2 l2_2.length c2_2) := (blk_cell BK361.out 2).trans rfl
        have hfz29_0 := blk_frozen BK361.out 0
        have hfz29_1 := blk_frozen BK361.out 1
        have hfz29_2 := blk_frozen BK361.out 2
        go_upto_if 77 with (fail)
        go_cut [16] (fun v16 wc => ∃ (kq : Nat) (x16_26 : Int), v16 = .int .i64 x16_26 ∧ Aside0 (lockgatelaw17_SpaceZone.j3 kq t362 x10_2 (Go.bits .and .i64 a2_0 3) x16_26 t363 t364 t365 t366 = some r) ∧ Aside0 (kq ≤ kj13) ∧ Aside0 (Kd.V Kd.string 9 wc w.heap.size (fun k_ => k_ ≠ gb361 ∧ k_ ≠ gb370) u10 x10_2) ∧ Aside0 (wc.heap[gb361]? = some (.cells #[.int .i64 a2_0, .int .i64 a2_1, (.slice A2_2 l2_2.length c2_2)] 32 (0, 0))) ∧ Aside0 (wc.heap[gb370]? = some (.cells #[.int .i64 t363, .int .i64 t364, .int .i64 t365, .int .i64 t366] 23 (0, 0))) ∧ Aside0 (Below w.heap.size w wc))
        case first =>
         have H := HC27.out
         clear HC27
         by_cases c30 : (Int.tmod a2_1 20) < 0
         ·rw [if_pos c30] at H
          have c30b0 : decide ((Int.tmod a2_1 20) < 0) = true := decide_eq_true c30
          clear c30
          (first | rw [c30b0] | (simp only [i64_w, i32_w]; rw [c30b0]) | skip)
          have H' := Aside0.mk H
          clear H
          go_wp2
          go_meet
          case rel => exact ⟨_, (wrap64 (-(Int.tmod a2_1 20))), (by first | rfl | (simp; done) | (simp [*]; done)), H', ⟨by have := HJ4.out; have := HK2.out; have := HJ13.out; first | omega | exact Nat.le_refl _⟩, ⟨by (with_reducible repeat (first | apply Kd.V_alloc | apply Kd.V_drewN | apply Kd.V_drew)); exact HO_10.out⟩, ⟨by (with_reducible repeat (first | refine blk_drewN ?_ _ | refine blk_drew ?_ | refine blk_alloc ?_ _)); exact BK361.out⟩, ⟨by (with_reducible repeat (first | refine blk_drewN ?_ _ | refine blk_drew ?_ | refine blk_alloc ?_ _)); exact BK370.out⟩, ⟨by repeat (first | (with_reducible first | exact HB.out | apply below_alloc | apply pw_below_drewN | apply below_drew1 | refine below_set ?_ GE361.out | refine below_set ?_ GE370.out) | exact HB.out)⟩⟩
         ·rw [if_neg c30] at H
          have c30b0 : decide ((Int.tmod a2_1 20) < 0) = false := decide_eq_false c30
          clear c30
          (first | rw [c30b0] | (simp only [i64_w, i32_w]; rw [c30b0]) | skip)
          have H' := Aside0.mk H
          clear H
          go_wp2
          go_meet
          case rel => exact ⟨_, (Int.tmod a2_1 20), (by first | rfl | (simp; done) | (simp [*]; done)), H', ⟨by have := HJ4.out; have := HK2.out; have := HJ13.out; first | omega | exact Nat.le_refl _⟩, ⟨by (with_reducible repeat (first | apply Kd.V_alloc | apply Kd.V_drewN | apply Kd.V_drew)); exact HO_10.out⟩, ⟨by (with_reducible repeat (first | refine blk_drewN ?_ _ | refine blk_drew ?_ | refine blk_alloc ?_ _)); exact BK361.out⟩, ⟨by (with_reducible repeat (first | refine blk_drewN ?_ _ | refine blk_drew ?_ | refine blk_alloc ?_ _)); exact BK370.out⟩, ⟨by repeat (first | (with_reducible first | exact HB.out | apply below_alloc | apply pw_below_drewN | apply below_drew1 | refine below_set ?_ GE361.out | refine below_set ?_ GE370.out) | exact HB.out)⟩⟩
        case rest =>
         clear HC27
         try clear c1
         try clear c2
         try clear p2
         try clear c3
         try clear p3
         try clear q3
         try clear hx3
         try clear p6
         try clear c16
         try clear c17
         try clear c17b0
         try clear c18
         try clear c18b0
         try clear c20
         try clear c28
         try clear c30
         try clear c30b0
         try clear hcz29_0
         try clear hcz29_1
         try clear hcz29_2
         try clear hfz29_0
         try clear hfz29_1
         try clear hfz29_2
         try clear hx371_0
         try clear hx371_1
         try clear hx371_2
         try clear hx372_0
         try clear hx372_1
         try clear hx372_2
         try clear p371
         try clear p372
         try clear q371
         try clear q372
         obtain ⟨kq, x16_26, rfl, HA, HJ26, HO_10, BK361, BK370, HB⟩ := hcut
         cases kq with
         | zero => exact absurd HA.out (by simp [lockgatelaw17_SpaceZone.j3])
         | succ kj26 =>
          have H := HA.out
          clear HA
          simp only [lockgatelaw17_SpaceZone.j3] at H
          have H' := Aside0.mk H
          clear H
          go_wp2
          go_loopg [17, 18] kj26 (fun kq v17 v18 w' => ∃ (x17_5 : Int) (x18_5 : Int), v17 = .int .i64 x17_5 ∧ v18 = .int .i64 x18_5 ∧ Aside0 (lockgatelaw17_SpaceZone.l1 kq t362 x10_2 (Go.bits .and .i64 a2_0 3) x16_26 x17_5 x18_5 t363 t364 t365 t366 = some r) ∧ Aside0 (kq ≤ kj26) ∧ Aside0 (Kd.V Kd.string 9 w' w.heap.size (fun k_ => k_ ≠ gb361 ∧ k_ ≠ gb370) u10 x10_2) ∧ Aside0 (w'.heap[gb361]? = some (.cells #[.int .i64 a2_0, .int .i64 a2_1, (.slice A2_2 l2_2.length c2_2)] 32 (0, 0))) ∧ Aside0 (w'.heap[gb370]? = some (.cells #[.int .i64 t363, .int .i64 t364, .int .i64 t365, .int .i64 t366] 23 (0, 0))) ∧ Aside0 (Below w.heap.size w w'))
          case atStart => exact ⟨(0), (0), (by first | rfl | (simp; done) | (simp [*]; done)), (by first | rfl | (simp; done) | (simp [*]; done)), H', ⟨Nat.le_refl _⟩, ⟨by (with_reducible repeat (first | apply Kd.V_alloc | apply Kd.V_drewN | apply Kd.V_drew)); exact HO_10.out⟩, ⟨by (with_reducible repeat (first | refine blk_drewN ?_ _ | refine blk_drew ?_ | refine blk_alloc ?_ _)); exact BK361.out⟩, ⟨by (with_reducible repeat (first | refine blk_drewN ?_ _ | refine blk_drew ?_ | refine blk_alloc ?_ _)); exact BK370.out⟩, ⟨by repeat (first | (with_reducible first | exact HB.out | apply below_alloc | apply pw_below_drewN | apply below_drew1 | refine below_set ?_ GE361.out | refine below_set ?_ GE370.out) | exact HB.out)⟩⟩
          case round =>
           clear H'
           try clear c1
           try clear c2
           try clear p2
           try clear c3
           try clear p3
           try clear q3
           try clear hx3
           try clear p6
           try clear c16
           try clear c17
           try clear c17b0
           try clear c18
           try clear c18b0
           try clear c20
           try clear c28
           try clear c30
           try clear c30b0
           try clear hcz29_0
           try clear hcz29_1
           try clear hcz29_2
           try clear hfz29_0
           try clear hfz29_1
           try clear hfz29_2
           try clear hx371_0
           try clear hx371_1
           try clear hx371_2
           try clear hx372_0
           try clear hx372_1
           try clear hx372_2
           try clear p2
           try clear p3
           try clear p371
           try clear p372
           try clear p6
           try clear q3
           try clear q371
           try clear q372
           obtain ⟨x17_5, x18_5, rfl, rfl, HA, HK5, HO_10, BK361, BK370, HB⟩ := hrel
           cases gk with
           | zero => exact absurd HA.out (by simp [lockgatelaw17_SpaceZone.l1])
           | succ k5 =>
            have H := HA.out
            clear HA
            simp only [lockgatelaw17_SpaceZone.l1] at H
            by_cases c31 : x18_5 < t366
            ·rw [if_pos c31] at H
             have c31b0 : decide (x18_5 < t366) = true := decide_eq_true c31
             clear c31
             replace H := Option.bind_eq_some_iff.mp H
             obtain ⟨t380, A320, H⟩ := H
             replace H : ((space_Taken.f k5 t363 t364 t365 t366 x10_2 (wrap64 (t380 + x18_5))).bind fun t381 => (if t381 = true then (lockgatelaw17_SpaceZone.l1 k5 t362 x10_2 (Go.bits .and .i64 a2_0 3) x16_26 x17_5 (wrap64 (x18_5 + 1)) t363 t364 t365 t366) else (lockgatelaw17_SpaceZone.l1 k5 t362 x10_2 (Go.bits .and .i64 a2_0 3) x16_26 (wrap64 (x17_5 + 1)) (wrap64 (x18_5 + 1)) t363 t364 t365 t366))) = some r := H
             have A32 := Aside0.mk A320
             clear A320
             replace H := Option.bind_eq_some_iff.mp H
             obtain ⟨t381, A330, H⟩ := H
             replace H : (if t381 = true then (lockgatelaw17_SpaceZone.l1 k5 t362 x10_2 (Go.bits .and .i64 a2_0 3) x16_26 x17_5 (wrap64 (x18_5 + 1)) t363 t364 t365 t366) else (lockgatelaw17_SpaceZone.l1 k5 t362 x10_2 (Go.bits .and .i64 a2_0 3) x16_26 (wrap64 (x17_5 + 1)) (wrap64 (x18_5 + 1)) t363 t364 t365 t366)) = some r := H
             have A33 := Aside0.mk A330
             clear A330
             by_cases c34 : t381 = true
             ·subst c34
              have H1 : (lockgatelaw17_SpaceZone.l1 k5 t362 x10_2 (Go.bits .and .i64 a2_0 3) x16_26 x17_5 (wrap64 (x18_5 + 1)) t363 t364 t365 t366) = some r := by rw [if_pos rfl] at H; exact H
              clear H
              have H := H1
              clear H1
              have H' := Aside0.mk H
              clear H
              have hnb35 := NB370_361.out
              have hnc35 := NB361_370.out
              have hcz36_0 : wr.cell? ⟨gb370, 0, none⟩ = some (.int .i64 t363) := (blk_cell BK370.out 0).trans rfl
              have hcz36_1 : wr.cell? ⟨gb370, 1, none⟩ = some (.int .i64 t364) := (blk_cell BK370.out 1).trans rfl
              have hcz36_2 : wr.cell? ⟨gb370, 2, none⟩ = some (.int .i64 t365) := (blk_cell BK370.out 2).trans rfl
              have hcz36_3 : wr.cell? ⟨gb370, 3, none⟩ = some (.int .i64 t366) := (blk_cell BK370.out 3).trans rfl
              have hfz36_0 := blk_frozen BK370.out 0
              have hfz36_1 := blk_frozen BK370.out 1
              have hfz36_2 := blk_frozen BK370.out 2
              have hfz36_3 := blk_frozen BK370.out 3
              try go_wp2
              have n0_ := Aside0.mk (Kd.V_drew HO_10.out)
              have n1_ := Aside0.mk (blk_drew BK361.out)
              have n2_ := Aside0.mk (blk_drew BK370.out)
              have n3_ := Aside0.mk (below_drew1 HB.out)
              clear HO_10
              clear BK361
              clear BK370
              clear HB
              have HO_10 := n0_
              have BK361 := n1_
              have BK370 := n2_
              have HB := n3_
              clear n0_ n1_ n2_ n3_
              refine start_ (n := 9) (S := fun w' => w'.cell? ⟨gb370, 0, none⟩ = some (.int .i64 t363) ∧ w'.cell? ⟨gb370, 1, none⟩ = some (.int .i64 t364) ∧ w'.cell? ⟨gb370, 2, none⟩ = some (.int .i64 t365) ∧ w'.cell? ⟨gb370, 3, none⟩ = some (.int .i64 t366)) (ds := []) #[false, false, false, false, false, false, false, false, false] (by kernel_rfl) rfl rfl ⟨(blk_cell BK370.out 0).trans rfl, (blk_cell BK370.out 1).trans rfl, (blk_cell BK370.out 2).trans rfl, (blk_cell BK370.out 3).trans rfl⟩ (fun hHeld => ?_); refine with_tabW lockgatelaw17_SpaceZone.tab20 lockgatelaw17_SpaceZone.bits20 (fun HT_ HW_ => ?_)
              generalize wr.drew = w37 at HO_10 BK361 BK370 HB hHeld ⊢
              refine pure_ (i := 1) (N := some 87) (v := ?_) (a' := ?_) #[false, true, false, false, false, false, false, false, false] rfl rfl (any_of HT_.out (by kernel_rfl)) (fun _ _ _ h => h) (Or.inl ⟨by rfl, ?_⟩) ?_ ?_
              rotate_left
              ·intro w'; go_simp; with_reducible rfl
              rotate_left
              ·simp only [Act.put, setIfInBounds_toArray, set_cons_zero, set_cons_succ, i64_w, i32_w]; rfl
              refine pure_ (i := 3) (N := some 89) (v := ?_) (a' := ?_) #[false, true, false, true, false, false, false, false, false] rfl rfl (any_of HT_.out (by kernel_rfl)) (fun _ _ _ h => h) (Or.inl ⟨by rfl, ?_⟩) ?_ ?_
              rotate_left
              ·intro w'; go_simp; with_reducible rfl
              rotate_left
              ·simp only [Act.put, setIfInBounds_toArray, set_cons_zero, set_cons_succ, i64_w, i32_w]; rfl
              refine pure_ (i := 5) (N := some 91) (v := ?_) (a' := ?_) #[false, true, false, true, false, true, false, false, false] rfl rfl (any_of HT_.out (by kernel_rfl)) (fun _ _ _ h => h) (Or.inl ⟨by rfl, ?_⟩) ?_ ?_
              rotate_left
              ·intro w'; go_simp; with_reducible rfl
              rotate_left
              ·simp only [Act.put, setIfInBounds_toArray, set_cons_zero, set_cons_succ, i64_w, i32_w]; rfl
              refine take_ (i := 0) (N := some 86) (v := ?_) (a' := ?_) #[true, true, false, true, false, true, false, false, false] rfl rfl (take_ofW HT_.out HW_.out (by kernel_rfl)) (fun _ _ _ h => h) (Or.inl ⟨by rfl, ?_⟩) hHeld ?_ ?_
              rotate_left
              ·rintro w' ⟨s0, s1, s2, s3⟩
               go_simp
               with_reducible rfl
              rotate_left
              ·simp only [Act.put, setIfInBounds_toArray, set_cons_zero, set_cons_succ, i64_w, i32_w]; rfl
              refine take_ (i := 2) (N := some 88) (v := ?_) (a' := ?_) #[true, true, true, true, false, true, false, false, false] rfl rfl (take_ofW HT_.out HW_.out (by kernel_rfl)) (fun _ _ _ h => h) (Or.inl ⟨by rfl, ?_⟩) hHeld ?_ ?_
              rotate_left
              ·rintro w' ⟨s0, s1, s2, s3⟩
               go_simp
               with_reducible rfl
              rotate_left
              ·simp only [Act.put, setIfInBounds_toArray, set_cons_zero, set_cons_succ, i64_w, i32_w]; rfl
              refine one_ (i := 4) (N := some 90) #[true, true, true, true, true, true, false, false, false] rfl rfl (one_of HT_.out (by kernel_rfl)) (by decide) (fun K hK => ?_)
              refine goes_ Try.func23 (by kernel_rfl) rfl #[.agg #[.int .i64 t363, .int .i64 t364, .int .i64 t365, .int .i64 t366], .int .i64 (Go.bits .and .i64 a2_0 3)] (by rfl) rfl rfl (by (try simp only [List.map_toArray, List.map_cons, List.map_nil]); first | done | rfl | (simp only [List.length_drop, List.length_take]; rfl)) ?_
              with_reducible refine (layout_Begin.calls k5 t363 t364 t365 t366 (Go.bits .and .i64 a2_0 3) t380 _ A32.out).mono ?_
              rintro e w38 ⟨rfl, hb⟩
              refine ⟨_, rfl, ?_⟩
              have n0_ := Aside0.mk (Kd.V_below (by (with_reducible repeat (first | apply Kd.V_alloc | apply Kd.V_drewN | apply Kd.V_drew)); exact HO_10.out) hb)
              have n1_ := Aside0.mk (blk_below (g := gb361) (o := .cells #[.int .i64 a2_0, .int .i64 a2_1, .slice A2_2 l2_2.length c2_2] 32 (0, 0)) (by (with_reducible repeat (first | refine blk_drewN ?_ _ | refine blk_drew ?_ | refine blk_alloc ?_ _)); exact BK361.out) hb)
              have n2_ := Aside0.mk (blk_below (g := gb370) (o := .cells #[.int .i64 t363, .int .i64 t364, .int .i64 t365, .int .i64 t366] 23 (0, 0)) (by (with_reducible repeat (first | refine blk_drewN ?_ _ | refine blk_drew ?_ | refine blk_alloc ?_ _)); exact BK370.out) hb)
              have n3_ := Aside0.mk (below_step (by repeat (first | (with_reducible first | exact HB.out | apply below_alloc | apply pw_below_drewN | apply below_drew1 | refine below_set ?_ GE361.out | refine below_set ?_ GE370.out) | exact HB.out)) hb)
              clear HO_10
              clear BK361
              clear BK370
              clear HB
              have HO_10 := n0_
              have BK361 := n1_
              have BK370 := n2_
              have HB := n3_
              clear n0_ n1_ n2_ n3_
              (try clear hb)
              (try clear hb2)
              (try clear hk)
              (try clear hi)
              obtain ⟨Ao39, co39, eo39⟩ := Kd.V_slice HO_10.out
              (first | subst eo39 | (injection eo39 with f1_ f2_ f3_; have f4_ := f1_.symm; have f5_ := f3_.symm; clear f1_ f2_ f3_; subst f4_; subst f5_))
              refine hK.out _ _ ⟨(blk_cell BK370.out 0).trans rfl, (blk_cell BK370.out 1).trans rfl, (blk_cell BK370.out 2).trans rfl, (blk_cell BK370.out 3).trans rfl⟩ (fun hHeld => ?_)
              clear hK K
              refine norm_ (a' := ?_) ?_ ?_
              rotate_left
              ·show Act.put _ (some 90) _ = _
               simp only [Act.put, setIfInBounds_toArray, set_cons_zero, set_cons_succ, i64_w, i32_w]
               rfl
              refine pure_ (i := 6) (N := some 92) (v := ?_) (a' := ?_) #[true, true, true, true, true, true, true, false, false] rfl rfl (any_of HT_.out (by kernel_rfl)) (fun _ _ _ h => h) (Or.inl ⟨by rfl, ?_⟩) ?_ ?_
              rotate_left
              ·intro w'; go_simp; with_reducible rfl
              rotate_left
              ·simp only [Act.put, setIfInBounds_toArray, set_cons_zero, set_cons_succ, i64_w, i32_w]; rfl
              refine one_ (i := 7) (N := some 93) #[true, true, true, true, true, true, true, true, false] rfl rfl (one_of HT_.out (by kernel_rfl)) (by decide) (fun K hK => ?_)
              refine goes_ Try.func14 (by kernel_rfl) rfl #[.agg #[.int .i64 t363, .int .i64 t364, .int .i64 t365, .int .i64 t366], .slice Ao39 x10_2.length co39, .int .i64 (wrap64 (t380 + x18_5))] (by rfl) rfl rfl (by (try simp only [List.map_toArray, List.map_cons, List.map_nil]); first | done | rfl | (simp only [List.length_drop, List.length_take]; rfl)) ?_
              with_reducible refine (space_Taken.calls k5 t363 t364 t365 t366 _ _ x10_2 (wrap64 (t380 + x18_5)) true _ ?side1 ?side2 A33.out).mono ?_
              (case side1 => repeat (first | exact (Kd.V_reads' HO_10.out).2.2 | (with_reducible refine Kd.C_alloc ?_ _) | (with_reducible refine Kd.C_drewN ?_ _) | (with_reducible refine Kd.C_drew ?_)))
              (case side2 => exact (Kd.V_reads' HO_10.out).2.1)
              rintro e w40 ⟨rfl, hb⟩
              refine ⟨_, rfl, ?_⟩
              have n0_ := Aside0.mk (Kd.V_below (by (with_reducible repeat (first | apply Kd.V_alloc | apply Kd.V_drewN | apply Kd.V_drew)); exact HO_10.out) hb)
              have n1_ := Aside0.mk (blk_below (g := gb361) (o := .cells #[.int .i64 a2_0, .int .i64 a2_1, .slice A2_2 l2_2.length c2_2] 32 (0, 0)) (by (with_reducible repeat (first | refine blk_drewN ?_ _ | refine blk_drew ?_ | refine blk_alloc ?_ _)); exact BK361.out) hb)
              have n2_ := Aside0.mk (blk_below (g := gb370) (o := .cells #[.int .i64 t363, .int .i64 t364, .int .i64 t365, .int .i64 t366] 23 (0, 0)) (by (with_reducible repeat (first | refine blk_drewN ?_ _ | refine blk_drew ?_ | refine blk_alloc ?_ _)); exact BK370.out) hb)
              have n3_ := Aside0.mk (below_step (by repeat (first | (with_reducible first | exact HB.out | apply below_alloc | apply pw_below_drewN | apply below_drew1 | refine below_set ?_ GE361.out | refine below_set ?_ GE370.out) | exact HB.out)) hb)
              clear HO_10
              clear BK361
              clear BK370
              clear HB
              have HO_10 := n0_
              have BK361 := n1_
              have BK370 := n2_
              have HB := n3_
              clear n0_ n1_ n2_ n3_
              (try clear hb)
              (try clear hb2)
              (try clear hk)
              (try clear hi)
              refine hK.out _ _ ⟨(blk_cell BK370.out 0).trans rfl, (blk_cell BK370.out 1).trans rfl, (blk_cell BK370.out 2).trans rfl, (blk_cell BK370.out 3).trans rfl⟩ (fun hHeld => ?_)
              clear hK K
              refine norm_ (a' := ?_) ?_ ?_
              rotate_left
              ·show Act.put _ (some 93) _ = _
               simp only [Act.put, setIfInBounds_toArray, set_cons_zero, set_cons_succ, i64_w, i32_w]
               rfl
              refine pure_ (i := 8) (N := some 94) (v := ?_) (a' := ?_) #[true, true, true, true, true, true, true, true, true] rfl rfl (any_of HT_.out (by kernel_rfl)) (fun _ _ _ h => h) (Or.inl ⟨by rfl, ?_⟩) ?_ ?_
              rotate_left
              ·intro w'; go_simp; with_reducible rfl
              rotate_left
              ·simp only [Act.put, setIfInBounds_toArray, set_cons_zero, set_cons_succ, i64_w, i32_w]; rfl
              refine done_ (done_of HT_.out (by kernel_rfl)) ?_
              try go_wp2
              go_roundg k5
              case measure => have := HJ4.out; have := HK2.out; have := HJ13.out; have := HJ26.out; have := HK5.out; omega
              case rel => exact ⟨(x17_5), (wrap64 (x18_5 + 1)), (by first | rfl | (simp; done) | (simp [*]; done)), (by first | rfl | (simp; done) | (simp [*]; done)), H', ⟨by have := HJ4.out; have := HK2.out; have := HJ13.out; have := HJ26.out; have := HK5.out; omega⟩, ⟨by (with_reducible repeat (first | apply Kd.V_alloc | apply Kd.V_drewN | apply Kd.V_drew)); exact HO_10.out⟩, ⟨by (with_reducible repeat (first | refine blk_drewN ?_ _ | refine blk_drew ?_ | refine blk_alloc ?_ _)); exact BK361.out⟩, ⟨by (with_reducible repeat (first | refine blk_drewN ?_ _ | refine blk_drew ?_ | refine blk_alloc ?_ _)); exact BK370.out⟩, ⟨by repeat (first | (with_reducible first | exact HB.out | apply below_alloc | apply pw_below_drewN | apply below_drew1 | refine below_set ?_ GE361.out | refine below_set ?_ GE370.out) | exact HB.out)⟩⟩
             ·replace c34 := Bool.eq_false_iff.mpr c34
              subst c34
              have H1 : (lockgatelaw17_SpaceZone.l1 k5 t362 x10_2 (Go.bits .and .i64 a2_0 3) x16_26 (wrap64 (x17_5 + 1)) (wrap64 (x18_5 + 1)) t363 t364 t365 t366) = some r := by rw [if_neg (show ¬ (false = true) by decide)] at H; exact H
              clear H
              have H := H1
              clear H1
              have H' := Aside0.mk H
              clear H
              have hnb41 := NB370_361.out
              have hnc41 := NB361_370.out
              have hcz42_0 : wr.cell? ⟨gb370, 0, none⟩ = some (.int .i64 t363) := (blk_cell BK370.out 0).trans rfl
              have hcz42_1 : wr.cell? ⟨gb370, 1, none⟩ = some (.int .i64 t364) := (blk_cell BK370.out 1).trans rfl
              have hcz42_2 : wr.cell? ⟨gb370, 2, none⟩ = some (.int .i64 t365) := (blk_cell BK370.out 2).trans rfl
              have hcz42_3 : wr.cell? ⟨gb370, 3, none⟩ = some (.int .i64 t366) := (blk_cell BK370.out 3).trans rfl
              have hfz42_0 := blk_frozen BK370.out 0
              have hfz42_1 := blk_frozen BK370.out 1
              have hfz42_2 := blk_frozen BK370.out 2
              have hfz42_3 := blk_frozen BK370.out 3
              try go_wp2
              have n0_ := Aside0.mk (Kd.V_drew HO_10.out)
              have n1_ := Aside0.mk (blk_drew BK361.out)
              have n2_ := Aside0.mk (blk_drew BK370.out)
              have n3_ := Aside0.mk (below_drew1 HB.out)
              clear HO_10
              clear BK361
              clear BK370
              clear HB
              have HO_10 := n0_
              have BK361 := n1_
              have BK370 := n2_
              have HB := n3_
              clear n0_ n1_ n2_ n3_
              refine start_ (n := 9) (S := fun w' => w'.cell? ⟨gb370, 0, none⟩ = some (.int .i64 t363) ∧ w'.cell? ⟨gb370, 1, none⟩ = some (.int .i64 t364) ∧ w'.cell? ⟨gb370, 2, none⟩ = some (.int .i64 t365) ∧ w'.cell? ⟨gb370, 3, none⟩ = some (.int .i64 t366)) (ds := []) #[false, false, false, false, false, false, false, false, false] (by kernel_rfl) rfl rfl ⟨(blk_cell BK370.out 0).trans rfl, (blk_cell BK370.out 1).trans rfl, (blk_cell BK370.out 2).trans rfl, (blk_cell BK370.out 3).trans rfl⟩ (fun hHeld => ?_); refine with_tabW lockgatelaw17_SpaceZone.tab20 lockgatelaw17_SpaceZone.bits20 (fun HT_ HW_ => ?_)
              generalize wr.drew = w43 at HO_10 BK361 BK370 HB hHeld ⊢
              refine pure_ (i := 1) (N := some 87) (v := ?_) (a' := ?_) #[false, true, false, false, false, false, false, false, false] rfl rfl (any_of HT_.out (by kernel_rfl)) (fun _ _ _ h => h) (Or.inl ⟨by rfl, ?_⟩) ?_ ?_
              rotate_left
              ·intro w'; go_simp; with_reducible rfl
              rotate_left
              ·simp only [Act.put, setIfInBounds_toArray, set_cons_zero, set_cons_succ, i64_w, i32_w]; rfl
              refine pure_ (i := 3) (N := some 89) (v := ?_) (a' := ?_) #[false, true, false, true, false, false, false, false, false] rfl rfl (any_of HT_.out (by kernel_rfl)) (fun _ _ _ h => h) (Or.inl ⟨by rfl, ?_⟩) ?_ ?_
              rotate_left
              ·intro w'; go_simp; with_reducible rfl
              rotate_left
              ·simp only [Act.put, setIfInBounds_toArray, set_cons_zero, set_cons_succ, i64_w, i32_w]; rfl
              refine pure_ (i := 5) (N := some 91) (v := ?_) (a' := ?_) #[false, true, false, true, false, true, false, false, false] rfl rfl (any_of HT_.out (by kernel_rfl)) (fun _ _ _ h => h) (Or.inl ⟨by rfl, ?_⟩) ?_ ?_
              rotate_left
              ·intro w'; go_simp; with_reducible rfl
              rotate_left
              ·simp only [Act.put, setIfInBounds_toArray, set_cons_zero, set_cons_succ, i64_w, i32_w]; rfl
              refine take_ (i := 0) (N := some 86) (v := ?_) (a' := ?_) #[true, true, false, true, false, true, false, false, false] rfl rfl (take_ofW HT_.out HW_.out (by kernel_rfl)) (fun _ _ _ h => h) (Or.inl ⟨by rfl, ?_⟩) hHeld ?_ ?_
              rotate_left
              ·rintro w' ⟨s0, s1, s2, s3⟩
               go_simp
               with_reducible rfl
              rotate_left
              ·simp only [Act.put, setIfInBounds_toArray, set_cons_zero, set_cons_succ, i64_w, i32_w]; rfl
              refine take_ (i := 2) (N := some 88) (v := ?_) (a' := ?_) #[true, true, true, true, false, true, false, false, false] rfl rfl (take_ofW HT_.out HW_.out (by kernel_rfl)) (fun _ _ _ h => h) (Or.inl ⟨by rfl, ?_⟩) hHeld ?_ ?_
              rotate_left
              ·rintro w' ⟨s0, s1, s2, s3⟩
               go_simp
               with_reducible rfl
              rotate_left
              ·simp only [Act.put, setIfInBounds_toArray, set_cons_zero, set_cons_succ, i64_w, i32_w]; rfl
              refine one_ (i := 4) (N := some 90) #[true, true, true, true, true, true, false, false, false] rfl rfl (one_of HT_.out (by kernel_rfl)) (by decide) (fun K hK => ?_)
              refine goes_ Try.func23 (by kernel_rfl) rfl #[.agg #[.int .i64 t363, .int .i64 t364, .int .i64 t365, .int .i64 t366], .int .i64 (Go.bits .and .i64 a2_0 3)] (by rfl) rfl rfl (by (try simp only [List.map_toArray, List.map_cons, List.map_nil]); first | done | rfl | (simp only [List.length_drop, List.length_take]; rfl)) ?_
              with_reducible refine (layout_Begin.calls k5 t363 t364 t365 t366 (Go.bits .and .i64 a2_0 3) t380 _ A32.out).mono ?_
              rintro e w44 ⟨rfl, hb⟩
              refine ⟨_, rfl, ?_⟩
              have n0_ := Aside0.mk (Kd.V_below (by (with_reducible repeat (first | apply Kd.V_alloc | apply Kd.V_drewN | apply Kd.V_drew)); exact HO_10.out) hb)
              have n1_ := Aside0.mk (blk_below (g := gb361) (o := .cells #[.int .i64 a2_0, .int .i64 a2_1, .slice A2_2 l2_2.length c2_2] 32 (0, 0)) (by (with_reducible repeat (first | refine blk_drewN ?_ _ | refine blk_drew ?_ | refine blk_alloc ?_ _)); exact BK361.out) hb)
              have n2_ := Aside0.mk (blk_below (g := gb370) (o := .cells #[.int .i64 t363, .int .i64 t364, .int .i64 t365, .int .i64 t366] 23 (0, 0)) (by (with_reducible repeat (first | refine blk_drewN ?_ _ | refine blk_drew ?_ | refine blk_alloc ?_ _)); exact BK370.out) hb)
              have n3_ := Aside0.mk (below_step (by repeat (first | (with_reducible first | exact HB.out | apply below_alloc | apply pw_below_drewN | apply below_drew1 | refine below_set ?_ GE361.out | refine below_set ?_ GE370.out) | exact HB.out)) hb)
              clear HO_10
              clear BK361
              clear BK370
              clear HB
              have HO_10 := n0_
              have BK361 := n1_
              have BK370 := n2_
              have HB := n3_
              clear n0_ n1_ n2_ n3_
              (try clear hb)
              (try clear hb2)
              (try clear hk)
              (try clear hi)
              obtain ⟨Ao45, co45, eo45⟩ := Kd.V_slice HO_10.out
              (first | subst eo45 | (injection eo45 with f1_ f2_ f3_; have f4_ := f1_.symm; have f5_ := f3_.symm; clear f1_ f2_ f3_; subst f4_; subst f5_))
              refine hK.out _ _ ⟨(blk_cell BK370.out 0).trans rfl, (blk_cell BK370.out 1).trans rfl, (blk_cell BK370.out 2).trans rfl, (blk_cell BK370.out 3).trans rfl⟩ (fun hHeld => ?_)
              clear hK K
              refine norm_ (a' := ?_) ?_ ?_
              rotate_left
              ·show Act.put _ (some 90) _ = _
               simp only [Act.put, setIfInBounds_toArray, set_cons_zero, set_cons_succ, i64_w, i32_w]
               rfl
              refine pure_ (i := 6) (N := some 92) (v := ?_) (a' := ?_) #[true, true, true, true, true, true, true, false, false] rfl rfl (any_of HT_.out (by kernel_rfl)) (fun _ _ _ h => h) (Or.inl ⟨by rfl, ?_⟩) ?_ ?_
              rotate_left
              ·intro w'; go_simp; with_reducible rfl
              rotate_left
              ·simp only [Act.put, setIfInBounds_toArray, set_cons_zero, set_cons_succ, i64_w, i32_w]; rfl
              refine one_ (i := 7) (N := some 93) #[true, true, true, true, true, true, true, true, false] rfl rfl (one_of HT_.out (by kernel_rfl)) (by decide) (fun K hK => ?_)
              refine goes_ Try.func14 (by kernel_rfl) rfl #[.agg #[.int .i64 t363, .int .i64 t364, .int .i64 t365, .int .i64 t366], .slice Ao45 x10_2.length co45, .int .i64 (wrap64 (t380 + x18_5))] (by rfl) rfl rfl (by (try simp only [List.map_toArray, List.map_cons, List.map_nil]); first | done | rfl | (simp only [List.length_drop, List.length_take]; rfl)) ?_
              with_reducible refine (space_Taken.calls k5 t363 t364 t365 t366 _ _ x10_2 (wrap64 (t380 + x18_5)) false _ ?side1 ?side2 A33.out).mono ?_
              (case side1 => repeat (first | exact (Kd.V_reads' HO_10.out).2.2 | (with_reducible refine Kd.C_alloc ?_ _) | (with_reducible refine Kd.C_drewN ?_ _) | (with_reducible refine Kd.C_drew ?_)))
              (case side2 => exact (Kd.V_reads' HO_10.out).2.1)
              rintro e w46 ⟨rfl, hb⟩
              refine ⟨_, rfl, ?_⟩
              have n0_ := Aside0.mk (Kd.V_below (by (with_reducible repeat (first | apply Kd.V_alloc | apply Kd.V_drewN | apply Kd.V_drew)); exact HO_10.out) hb)
              have n1_ := Aside0.mk (blk_below (g := gb361) (o := .cells #[.int .i64 a2_0, .int .i64 a2_1, .slice A2_2 l2_2.length c2_2] 32 (0, 0)) (by (with_reducible repeat (first | refine blk_drewN ?_ _ | refine blk_drew ?_ | refine blk_alloc ?_ _)); exact BK361.out) hb)
              have n2_ := Aside0.mk (blk_below (g := gb370) (o := .cells #[.int .i64 t363, .int .i64 t364, .int .i64 t365, .int .i64 t366] 23 (0, 0)) (by (with_reducible repeat (first | refine blk_drewN ?_ _ | refine blk_drew ?_ | refine blk_alloc ?_ _)); exact BK370.out) hb)
              have n3_ := Aside0.mk (below_step (by repeat (first | (with_reducible first | exact HB.out | apply below_alloc | apply pw_below_drewN | apply below_drew1 | refine below_set ?_ GE361.out | refine below_set ?_ GE370.out) | exact HB.out)) hb)
              clear HO_10
              clear BK361
              clear BK370
              clear HB
              have HO_10 := n0_
              have BK361 := n1_
              have BK370 := n2_
              have HB := n3_
              clear n0_ n1_ n2_ n3_
              (try clear hb)
              (try clear hb2)
              (try clear hk)
              (try clear hi)
              refine hK.out _ _ ⟨(blk_cell BK370.out 0).trans rfl, (blk_cell BK370.out 1).trans rfl, (blk_cell BK370.out 2).trans rfl, (blk_cell BK370.out 3).trans rfl⟩ (fun hHeld => ?_)
              clear hK K
              refine norm_ (a' := ?_) ?_ ?_
              rotate_left
              ·show Act.put _ (some 93) _ = _
               simp only [Act.put, setIfInBounds_toArray, set_cons_zero, set_cons_succ, i64_w, i32_w]
               rfl
              refine pure_ (i := 8) (N := some 94) (v := ?_) (a' := ?_) #[true, true, true, true, true, true, true, true, true] rfl rfl (any_of HT_.out (by kernel_rfl)) (fun _ _ _ h => h) (Or.inl ⟨by rfl, ?_⟩) ?_ ?_
              rotate_left
              ·intro w'; go_simp; with_reducible rfl
              rotate_left
              ·simp only [Act.put, setIfInBounds_toArray, set_cons_zero, set_cons_succ, i64_w, i32_w]; rfl
              refine done_ (done_of HT_.out (by kernel_rfl)) ?_
              try go_wp2
              go_roundg k5
              case measure => have := HJ4.out; have := HK2.out; have := HJ13.out; have := HJ26.out; have := HK5.out; omega
              case rel => exact ⟨(wrap64 (x17_5 + 1)), (wrap64 (x18_5 + 1)), (by first | rfl | (simp; done) | (simp [*]; done)), (by first | rfl | (simp; done) | (simp [*]; done)), H', ⟨by have := HJ4.out; have := HK2.out; have := HJ13.out; have := HJ26.out; have := HK5.out; omega⟩, ⟨by (with_reducible repeat (first | apply Kd.V_alloc | apply Kd.V_drewN | apply Kd.V_drew)); exact HO_10.out⟩, ⟨by (with_reducible repeat (first | refine blk_drewN ?_ _ | refine blk_drew ?_ | refine blk_alloc ?_ _)); exact BK361.out⟩, ⟨by (with_reducible repeat (first | refine blk_drewN ?_ _ | refine blk_drew ?_ | refine blk_alloc ?_ _)); exact BK370.out⟩, ⟨by repeat (first | (with_reducible first | exact HB.out | apply below_alloc | apply pw_below_drewN | apply below_drew1 | refine below_set ?_ GE361.out | refine below_set ?_ GE370.out) | exact HB.out)⟩⟩
            ·rw [if_neg c31] at H
             have c31b0 : decide (x18_5 < t366) = false := decide_eq_false c31
             clear c31
             replace H := Option.bind_eq_some_iff.mp H
             obtain ⟨⟨t382, t385, t388⟩, A470, H⟩ := H
             replace H : (if t388 = true then (lockgatelaw17_SpaceZone.l2 k5 t362 (Go.bits .and .i64 a2_0 3) x16_26 x17_5 t385 0 0 t363 t364 t365 t366) else (if t362 = true then ((space_Free.f k5 t363 t364 t365 t366 x10_2).bind fun t389 => (some (decide (t389 < x16_26)))) else (some false))) = some r := H
             have A47 := Aside0.mk A470
             clear A470
             by_cases c48 : t388 = true
             ·subst c48
              have H1 : (lockgatelaw17_SpaceZone.l2 k5 t362 (Go.bits .and .i64 a2_0 3) x16_26 x17_5 t385 0 0 t363 t364 t365 t366) = some r := by rw [if_pos rfl] at H; exact H
              clear H
              have H := H1
              clear H1
              have H' := Aside0.mk H
              clear H
              have hnb49 := NB370_361.out
              have hnc49 := NB361_370.out
              have hcz50_0 : wr.cell? ⟨gb370, 0, none⟩ = some (.int .i64 t363) := (blk_cell BK370.out 0).trans rfl
              have hcz50_1 : wr.cell? ⟨gb370, 1, none⟩ = some (.int .i64 t364) := (blk_cell BK370.out 1).trans rfl
              have hcz50_2 : wr.cell? ⟨gb370, 2, none⟩ = some (.int .i64 t365) := (blk_cell BK370.out 2).trans rfl
              have hcz50_3 : wr.cell? ⟨gb370, 3, none⟩ = some (.int .i64 t366) := (blk_cell BK370.out 3).trans rfl
              have hfz50_0 := blk_frozen BK370.out 0
              have hfz50_1 := blk_frozen BK370.out 1
              have hfz50_2 := blk_frozen BK370.out 2
              have hfz50_3 := blk_frozen BK370.out 3
              obtain ⟨Ao51, co51, eo51⟩ := Kd.V_slice HO_10.out
              subst eo51
              go_wp2_with (first | ((with_reducible refine gate_callee (f := 16) rfl ?_); refine goesL_ (some 102) rfl rfl Try.func16 (by kernel_rfl) rfl #[.agg #[.int .i64 t363, .int .i64 t364, .int .i64 t365, .int .i64 t366], .slice Ao51 x10_2.length co51, .int .i64 (Go.bits .and .i64 a2_0 3), .int .i64 x16_26] rfl (by (try simp only [List.map_toArray, List.map_cons, List.map_nil]); first | done | rfl | (simp only [List.length_drop, List.length_take]; rfl)) ?_; (with_reducible refine (space_Take.calls k5 t363 t364 t365 t366 (fun k_ => (k_ ≠ gb361 ∧ k_ ≠ gb370)) _ _ x10_2 (Go.bits .and .i64 a2_0 3) x16_26 t382 t385 true _ ?side1 A47.out).mono ?_); (case side1 => exact HO_10.out); rintro e w52 ⟨v383, v386, rfl, ho0, ho1, hb⟩; refine ⟨_, rfl, ?_⟩; have n0_ := Aside0.mk (Kd.V_elder' (by (with_reducible repeat (first | apply Kd.V_alloc | apply Kd.V_drewN | apply Kd.V_drew)); exact HO_10.out) (Kd.R_base ho1) hb); have n1_ := Aside0.mk (Kd.V_lower (Kd.V_mono (ok' := fun k_ => some k_ ≠ (v386 : Value).ownBlock ∧ k_ ≠ gb361 ∧ k_ ≠ gb370) ho0 (fun k_ hk_ => ⟨hk_.2, Or.elim hk_.1 (fun hs_ => hs_.1) (fun hn_ => (Kd.freshB (g := gb361) (o := .cells #[.int .i64 a2_0, .int .i64 a2_1, .slice A2_2 l2_2.length c2_2] 32 (0, 0)) (by (with_reducible repeat (first | refine blk_drewN ?_ _ | refine blk_drew ?_ | refine blk_alloc ?_ _)); exact BK361.out) k_ hn_)), Or.elim hk_.1 (fun hs_ => hs_.2) (fun hn_ => (Kd.freshB (g := gb370) (o := .cells #[.int .i64 t363, .int .i64 t364, .int .i64 t365, .int .i64 t366] 23 (0, 0)) (by (with_reducible repeat (first | refine blk_drewN ?_ _ | refine blk_drew ?_ | refine blk_alloc ?_ _)); exact BK370.out) k_ hn_))⟩)) (below_size (by repeat (first | (with_reducible first | exact HB.out | apply below_alloc | apply pw_below_drewN | apply below_drew1 | refine below_set ?_ GE361.out | refine below_set ?_ GE370.out) | exact HB.out)))); have n2_ := Aside0.mk (Kd.R_lower (Kd.R_mono (ok' := fun k_ => True) ho1 (fun _ hk_ => trivial)) (below_size (by repeat (first | (with_reducible first | exact HB.out | apply below_alloc | apply pw_below_drewN | apply below_drew1 | refine below_set ?_ GE361.out | refine below_set ?_ GE370.out) | exact HB.out)))); have n3_ := Aside0.mk (blk_below (g := gb361) (o := .cells #[.int .i64 a2_0, .int .i64 a2_1, .slice A2_2 l2_2.length c2_2] 32 (0, 0)) (by (with_reducible repeat (first | refine blk_drewN ?_ _ | refine blk_drew ?_ | refine blk_alloc ?_ _)); exact BK361.out) hb); have n4_ := Aside0.mk (blk_below (g := gb370) (o := .cells #[.int .i64 t363, .int .i64 t364, .int .i64 t365, .int .i64 t366] 23 (0, 0)) (by (with_reducible repeat (first | refine blk_drewN ?_ _ | refine blk_drew ?_ | refine blk_alloc ?_ _)); exact BK370.out) hb); have n5_ := Aside0.mk (below_step (by repeat (first | (with_reducible first | exact HB.out | apply below_alloc | apply pw_below_drewN | apply below_drew1 | refine below_set ?_ GE361.out | refine below_set ?_ GE370.out) | exact HB.out)) hb); clear HO_10; clear BK361; clear BK370; clear HB; have HO_10 := n0_; have HO384 := n1_; have HO387 := n2_; have BK361 := n3_; have BK370 := n4_; have HB := n5_; clear n0_ n1_ n2_ n3_ n4_ n5_; (try clear hb); (try clear hb2); (try clear hk); (try clear hi); (try clear ho0); (try clear ho1)))
              go_loopg [22, 23] k5 (fun kq v22 v23 w' => ∃ (x22_6 : Int) (x23_6 : Int), v22 = .int .i64 x22_6 ∧ v23 = .int .i64 x23_6 ∧ Aside0 (lockgatelaw17_SpaceZone.l2 kq t362 (Go.bits .and .i64 a2_0 3) x16_26 x17_5 t385 x22_6 x23_6 t363 t364 t365 t366 = some r) ∧ Aside0 (kq ≤ k5) ∧ Aside0 (Kd.R (Kd.int .i64) 3 w' w.heap.size (fun _ => True) v386 t385) ∧ Aside0 (w'.heap[gb361]? = some (.cells #[.int .i64 a2_0, .int .i64 a2_1, (.slice A2_2 l2_2.length c2_2)] 32 (0, 0))) ∧ Aside0 (w'.heap[gb370]? = some (.cells #[.int .i64 t363, .int .i64 t364, .int .i64 t365, .int .i64 t366] 23 (0, 0))) ∧ Aside0 (Below w.heap.size w w'))
              case atStart => exact ⟨(0), (0), (by first | rfl | (simp; done) | (simp [*]; done)), (by first | rfl | (simp; done) | (simp [*]; done)), H', ⟨Nat.le_refl _⟩, ⟨by (with_reducible repeat (first | apply Kd.R_alloc | apply Kd.R_drewN | apply Kd.R_drew)); exact HO387.out⟩, ⟨by (with_reducible repeat (first | refine blk_drewN ?_ _ | refine blk_drew ?_ | refine blk_alloc ?_ _)); exact BK361.out⟩, ⟨by (with_reducible repeat (first | refine blk_drewN ?_ _ | refine blk_drew ?_ | refine blk_alloc ?_ _)); exact BK370.out⟩, ⟨by repeat (first | (with_reducible first | exact HB.out | apply below_alloc | apply pw_below_drewN | apply below_drew1 | refine below_set ?_ GE361.out | refine below_set ?_ GE370.out) | exact HB.out)⟩⟩
              case round =>
               clear H'
               try clear c1
               try clear c2
               try clear p2
               try clear c3
               try clear p3
               try clear q3
               try clear hx3
               try clear c4
               try clear p6
               try clear c14
               try clear c16
               try clear c17
               try clear c17b0
               try clear c18
               try clear c18b0
               try clear c20
               try clear c23
               try clear c28
               try clear c30
               try clear c30b0
               try clear c31
               try clear c31b0
               try clear c34
               try clear c35
               try clear p37
               try clear q37
               try clear hx37
               try clear c41
               try clear c48
               try clear c49
               try clear hcz29_0
               try clear hcz29_1
               try clear hcz29_2
               try clear hcz36_0
               try clear hcz36_1
               try clear hcz36_2
               try clear hcz36_3
               try clear hcz42_0
               try clear hcz42_1
               try clear hcz42_2
               try clear hcz42_3
               try clear hcz50_0
               try clear hcz50_1
               try clear hcz50_2
               try clear hcz50_3
               try clear hfz29_0
               try clear hfz29_1
               try clear hfz29_2
               try clear hfz36_0
               try clear hfz36_1
               try clear hfz36_2
               try clear hfz36_3
               try clear hfz42_0
               try clear hfz42_1
               try clear hfz42_2
               try clear hfz42_3
               try clear hfz50_0
               try clear hfz50_1
               try clear hfz50_2
               try clear hfz50_3
               try clear hx371_0
               try clear hx371_1
               try clear hx371_2
               try clear hx372_0
               try clear hx372_1
               try clear hx372_2
               try clear p2
               try clear p3
               try clear p371
               try clear p372
               try clear p6
               try clear q3
               try clear q371
               try clear q372
               obtain ⟨x22_6, x23_6, rfl, rfl, HA, HK6, HO_20, BK361, BK370, HB⟩ := hrel
               cases gk with
               | zero => exact absurd HA.out (by simp [lockgatelaw17_SpaceZone.l2])
               | succ k6 =>
                have H := HA.out
                clear HA
                simp only [lockgatelaw17_SpaceZone.l2] at H
                by_cases c53 : x23_6 < (t385.length : Int)
                ·rw [if_pos c53] at H
                 have c53b0 : decide (x23_6 < (t385.length : Int)) = true := decide_eq_true c53
                 clear c53
                 by_cases c54 : 0 ≤ x23_6
                 ·rw [if_pos c54] at H
                  have c54b0 : decide (0 ≤ x23_6) = true := decide_eq_true c54
                  clear c54
                  replace H := Option.bind_eq_some_iff.mp H
                  obtain ⟨t391, A550, H⟩ := H
                  replace H : (if t391 = (Go.bits .and .i64 a2_0 3) then (lockgatelaw17_SpaceZone.j6 k6 t362 (Go.bits .and .i64 a2_0 3) x16_26 x17_5 t385 (wrap64 (x22_6 + 1)) x23_6 t363 t364 t365 t366) else (lockgatelaw17_SpaceZone.j6 k6 t362 (Go.bits .and .i64 a2_0 3) x16_26 x17_5 t385 x22_6 x23_6 t363 t364 t365 t366)) = some r := H
                  have A55 := Aside0.mk A550
                  clear A550
                  have HC56 := Aside0.mk H
                  clear H
                  obtain ⟨Ao57, co57, eo57⟩ := Kd.R_slice HO_20.out
                  subst eo57
                  try go_wp2
                  have n0_ := Aside0.mk (Kd.R_drew HO_20.out)
                  have n1_ := Aside0.mk (blk_drew BK361.out)
                  have n2_ := Aside0.mk (blk_drew BK370.out)
                  have n3_ := Aside0.mk (below_drew1 HB.out)
                  clear HO_20
                  clear BK361
                  clear BK370
                  clear HB
                  have HO_20 := n0_
                  have BK361 := n1_
                  have BK370 := n2_
                  have HB := n3_
                  clear n0_ n1_ n2_ n3_
                  have p390 : 0 ≤ (x23_6 : Int) := of_decide_eq_true (by first | (with_reducible assumption) | assumption)
                  have q390 : x23_6 < (t385.length : Int) := of_decide_eq_true (by first | (with_reducible assumption) | assumption)
                  obtain ⟨ad390, e390, hx390_0⟩ := Kd.at_int (Kd.R_reads' HO_20.out).2.2 x23_6 p390 q390
                  cases e390
                  replace p390 := eq_true p390
                  replace q390 := eq_true q390
                  refine start_ (n := 8) (S := fun w' => w'.cell? ⟨gb370, 0, none⟩ = some (.int .i64 t363) ∧ w'.cell? ⟨gb370, 1, none⟩ = some (.int .i64 t364) ∧ w'.cell? ⟨gb370, 2, none⟩ = some (.int .i64 t365) ∧ w'.cell? ⟨gb370, 3, none⟩ = some (.int .i64 t366) ∧ w'.cell? (ad390.add (x23_6).toNat) = some (.int .i64 (rd t385 x23_6))) (ds := []) #[false, false, false, false, false, false, false, false] (by kernel_rfl) rfl rfl ⟨(blk_cell BK370.out 0).trans rfl, (blk_cell BK370.out 1).trans rfl, (blk_cell BK370.out 2).trans rfl, (blk_cell BK370.out 3).trans rfl, hx390_0⟩ (fun hHeld => ?_); refine with_tabW lockgatelaw17_SpaceZone.tab29 lockgatelaw17_SpaceZone.bits29 (fun HT_ HW_ => ?_)
                  generalize wr.drew = w58 at HO_20 BK361 BK370 HB hx390_0 hHeld ⊢
                  refine pure_ (i := 1) (N := some 123) (v := ?_) (a' := ?_) #[false, true, false, false, false, false, false, false] rfl rfl (any_of HT_.out (by kernel_rfl)) (fun _ _ _ h => h) (Or.inl ⟨by rfl, ?_⟩) ?_ ?_
                  rotate_left
                  ·intro w'; go_simp; with_reducible rfl
                  rotate_left
                  ·simp only [Act.put, setIfInBounds_toArray, set_cons_zero, set_cons_succ, i64_w, i32_w]; rfl
                  refine pure_ (i := 2) (N := some 124) (v := ?_) (a' := ?_) #[false, true, true, false, false, false, false, false] rfl rfl (any_of HT_.out (by kernel_rfl)) (fun _ _ _ h => h) (Or.inl ⟨by rfl, ?_⟩) ?_ ?_
                  rotate_left
                  ·intro w'; go_simp; with_reducible rfl
                  rotate_left
                  ·simp only [Act.put, setIfInBounds_toArray, set_cons_zero, set_cons_succ, i64_w, i32_w]; rfl
                  refine pure_ (i := 3) (N := some 125) (v := ?_) (a' := ?_) #[false, true, true, true, false, false, false, false] rfl rfl (any_of HT_.out (by kernel_rfl)) (fun _ _ _ h => h) (Or.inl ⟨by rfl, ?_⟩) ?_ ?_
                  rotate_left
                  ·intro w'; go_simp; with_reducible rfl
                  rotate_left
                  ·simp only [Act.put, setIfInBounds_toArray, set_cons_zero, set_cons_succ, i64_w, i32_w]; rfl
                  refine pure_ (i := 6) (N := some 128) (v := ?_) (a' := ?_) #[false, true, true, true, false, false, true, false] rfl rfl (any_of HT_.out (by kernel_rfl)) (fun _ _ _ h => h) (Or.inl ⟨by rfl, ?_⟩) ?_ ?_
                  rotate_left
                  ·intro w'; go_simp; with_reducible rfl
                  rotate_left
                  ·simp only [Act.put, setIfInBounds_toArray, set_cons_zero, set_cons_succ, i64_w, i32_w]; rfl
                  refine take_ (i := 0) (N := some 122) (v := ?_) (a' := ?_) #[true, true, true, true, false, false, true, false] rfl rfl (take_ofW HT_.out HW_.out (by kernel_rfl)) (fun _ _ _ h => h) (Or.inl ⟨by rfl, ?_⟩) hHeld ?_ ?_
                  rotate_left
                  ·rintro w' ⟨s0, s1, s2, s3, s4⟩
                   go_simp
                   with_reducible rfl
                  rotate_left
                  ·simp only [Act.put, setIfInBounds_toArray, set_cons_zero, set_cons_succ, i64_w, i32_w]; rfl
                  refine take_ (i := 4) (N := some 126) (v := ?_) (a' := ?_) #[true, true, true, true, true, false, true, false] rfl rfl (take_ofW HT_.out HW_.out (by kernel_rfl)) (fun _ _ _ h => h) (Or.inl ⟨by rfl, ?_⟩) hHeld ?_ ?_
                  rotate_left
                  ·rintro w' ⟨s0, s1, s2, s3, s4⟩
                   go_simp
                   with_reducible rfl
                  rotate_left
                  ·simp only [Act.put, setIfInBounds_toArray, set_cons_zero, set_cons_succ, i64_w, i32_w]; rfl
                  refine one_ (i := 5) (N := some 127) #[true, true, true, true, true, true, true, false] rfl rfl (one_of HT_.out (by kernel_rfl)) (by decide) (fun K hK => ?_)
                  refine goes_ Try.func24 (by kernel_rfl) rfl #[.agg #[.int .i64 t363, .int .i64 t364, .int .i64 t365, .int .i64 t366], .int .i64 (rd t385 x23_6)] (by rfl) rfl rfl (by (try simp only [List.map_toArray, List.map_cons, List.map_nil]); first | done | rfl | (simp only [List.length_drop, List.length_take]; rfl)) ?_
                  with_reducible refine (layout_Zone.calls k6 t363 t364 t365 t366 (rd t385 x23_6) t391 _ A55.out).mono ?_
                  rintro e w59 ⟨rfl, hb⟩
                  have HS4_ := (hb.cell (World.block_lt_of_cell? _ _ (hHeld.2.2.2.2))).trans (hHeld.2.2.2.2)
                  refine ⟨_, rfl, ?_⟩
                  have n0_ := Aside0.mk (Kd.R_below (by (with_reducible repeat (first | apply Kd.R_alloc | apply Kd.R_drewN | apply Kd.R_drew)); exact HO_20.out) hb)
                  have n1_ := Aside0.mk (blk_below (g := gb361) (o := .cells #[.int .i64 a2_0, .int .i64 a2_1, .slice A2_2 l2_2.length c2_2] 32 (0, 0)) (by (with_reducible repeat (first | refine blk_drewN ?_ _ | refine blk_drew ?_ | refine blk_alloc ?_ _)); exact BK361.out) hb)
                  have n2_ := Aside0.mk (blk_below (g := gb370) (o := .cells #[.int .i64 t363, .int .i64 t364, .int .i64 t365, .int .i64 t366] 23 (0, 0)) (by (with_reducible repeat (first | refine blk_drewN ?_ _ | refine blk_drew ?_ | refine blk_alloc ?_ _)); exact BK370.out) hb)
                  have n3_ := Aside0.mk (below_step (by repeat (first | (with_reducible first | exact HB.out | apply below_alloc | apply pw_below_drewN | apply below_drew1 | refine below_set ?_ GE361.out | refine below_set ?_ GE370.out) | exact HB.out)) hb)
                  clear HO_20
                  clear BK361
                  clear BK370
                  clear HB
                  have HO_20 := n0_
                  have BK361 := n1_
                  have BK370 := n2_
                  have HB := n3_
                  clear n0_ n1_ n2_ n3_
                  (try clear hb)
                  (try clear hb2)
                  (try clear hk)
                  (try clear hi)
                  refine hK.out _ _ ⟨(blk_cell BK370.out 0).trans rfl, (blk_cell BK370.out 1).trans rfl, (blk_cell BK370.out 2).trans rfl, (blk_cell BK370.out 3).trans rfl, HS4_⟩ (fun hHeld => ?_)
                  clear hK K
                  refine norm_ (a' := ?_) ?_ ?_
                  rotate_left
                  ·show Act.put _ (some 127) _ = _
                   simp only [Act.put, setIfInBounds_toArray, set_cons_zero, set_cons_succ, i64_w, i32_w]
                   rfl
                  refine pure_ (i := 7) (N := some 129) (v := ?_) (a' := ?_) #[true, true, true, true, true, true, true, true] rfl rfl (any_of HT_.out (by kernel_rfl)) (fun _ _ _ h => h) (Or.inl ⟨by rfl, ?_⟩) ?_ ?_
                  rotate_left
                  ·intro w'; go_simp; with_reducible rfl
                  rotate_left
                  ·simp only [Act.put, setIfInBounds_toArray, set_cons_zero, set_cons_succ, i64_w, i32_w]; rfl
                  refine done_ (done_of HT_.out (by kernel_rfl)) ?_
                  go_upto_if 129 with (fail)
                  go_cut [22] (fun v22 wc => ∃ (kq : Nat) (x22_55 : Int), v22 = .int .i64 x22_55 ∧ Aside0 (lockgatelaw17_SpaceZone.j6 kq t362 (Go.bits .and .i64 a2_0 3) x16_26 x17_5 t385 x22_55 x23_6 t363 t364 t365 t366 = some r) ∧ Aside0 (kq ≤ k6) ∧ Aside0 (Kd.R (Kd.int .i64) 3 wc w.heap.size (fun _ => True) (.slice (some ad390) t385.length co57) t385) ∧ Aside0 (wc.heap[gb361]? = some (.cells #[.int .i64 a2_0, .int .i64 a2_1, (.slice A2_2 l2_2.length c2_2)] 32 (0, 0))) ∧ Aside0 (wc.heap[gb370]? = some (.cells #[.int .i64 t363, .int .i64 t364, .int .i64 t365, .int .i64 t366] 23 (0, 0))) ∧ Aside0 (Below w.heap.size w wc))
                  case first =>
                   have H := HC56.out
                   clear HC56
                   by_cases c60 : t391 = (Go.bits .and .i64 a2_0 3)
                   ·rw [if_pos c60] at H
                    have c60b0 : (t391 == (Go.bits .and .i64 a2_0 3)) = true := beq_iff_eq.mpr c60
                    have c60b1 : (t391 != (Go.bits .and .i64 a2_0 3)) = false := bne_eq_false_iff_eq.mpr c60
                    clear c60
                    (first | rw [c60b0] | (simp only [i64_w, i32_w]; rw [c60b0]) | skip)
                    have H' := Aside0.mk H
                    clear H
                    go_wp2
                    go_meet
                    case rel => exact ⟨_, (wrap64 (x22_6 + 1)), (by first | rfl | (simp; done) | (simp [*]; done)), H', ⟨by have := HJ4.out; have := HK2.out; have := HJ13.out; have := HJ26.out; have := HK5.out; have := HK6.out; first | omega | exact Nat.le_refl _⟩, ⟨by (with_reducible repeat (first | apply Kd.R_alloc | apply Kd.R_drewN | apply Kd.R_drew)); exact HO_20.out⟩, ⟨by (with_reducible repeat (first | refine blk_drewN ?_ _ | refine blk_drew ?_ | refine blk_alloc ?_ _)); exact BK361.out⟩, ⟨by (with_reducible repeat (first | refine blk_drewN ?_ _ | refine blk_drew ?_ | refine blk_alloc ?_ _)); exact BK370.out⟩, ⟨by repeat (first | (with_reducible first | exact HB.out | apply below_alloc | apply pw_below_drewN | apply below_drew1 | refine below_set ?_ GE361.out | refine below_set ?_ GE370.out) | exact HB.out)⟩⟩
                   ·rw [if_neg c60] at H
                    have c60b0 : (t391 == (Go.bits .and .i64 a2_0 3)) = false := beq_eq_false_iff_ne.mpr c60
                    have c60b1 : (t391 != (Go.bits .and .i64 a2_0 3)) = true := bne_iff_ne.mpr c60
                    (first | rw [c60b0] | (simp only [i64_w, i32_w]; rw [c60b0]) | skip)
                    have H' := Aside0.mk H
                    clear H
                    go_wp2
                    go_meet
                    case rel => exact ⟨_, (x22_6), (by first | rfl | (simp; done) | (simp [*]; done)), H', ⟨by have := HJ4.out; have := HK2.out; have := HJ13.out; have := HJ26.out; have := HK5.out; have := HK6.out; first | omega | exact Nat.le_refl _⟩, ⟨by (with_reducible repeat (first | apply Kd.R_alloc | apply Kd.R_drewN | apply Kd.R_drew)); exact HO_20.out⟩, ⟨by (with_reducible repeat (first | refine blk_drewN ?_ _ | refine blk_drew ?_ | refine blk_alloc ?_ _)); exact BK361.out⟩, ⟨by (with_reducible repeat (first | refine blk_drewN ?_ _ | refine blk_drew ?_ | refine blk_alloc ?_ _)); exact BK370.out⟩, ⟨by repeat (first | (with_reducible first | exact HB.out | apply below_alloc | apply pw_below_drewN | apply below_drew1 | refine below_set ?_ GE361.out | refine below_set ?_ GE370.out) | exact HB.out)⟩⟩
                  case rest =>
                   clear HC56
                   try clear c1
                   try clear c2
                   try clear p2
                   try clear c3
                   try clear p3
                   try clear q3
                   try clear hx3
                   try clear c4
                   try clear c5
                   try clear c6
                   try clear p6
                   try clear c14
                   try clear c16
                   try clear c17
                   try clear c17b0
                   try clear c18
                   try clear c18b0
                   try clear c20
                   try clear c23
                   try clear c24
                   try clear c28
                   try clear c30
                   try clear c30b0
                   try clear c31
                   try clear c31b0
                   try clear c34
                   try clear c35
                   try clear p37
                   try clear q37
                   try clear hx37
                   try clear p39
                   try clear q39
                   try clear hx39
                   try clear c41
                   try clear c48
                   try clear c49
                   try clear c53
                   try clear c53b0
                   try clear c54
                   try clear c54b0
                   try clear c60
                   try clear c60b0
                   try clear c60b1
                   try clear hcz29_0
                   try clear hcz29_1
                   try clear hcz29_2
                   try clear hcz36_0
                   try clear hcz36_1
                   try clear hcz36_2
                   try clear hcz36_3
                   try clear hcz42_0
                   try clear hcz42_1
                   try clear hcz42_2
                   try clear hcz42_3
                   try clear hcz50_0
                   try clear hcz50_1
                   try clear hcz50_2
                   try clear hcz50_3
                   try clear hfz29_0
                   try clear hfz29_1
                   try clear hfz29_2
                   try clear hfz36_0
                   try clear hfz36_1
                   try clear hfz36_2
                   try clear hfz36_3
                   try clear hfz42_0
                   try clear hfz42_1
                   try clear hfz42_2
                   try clear hfz42_3
                   try clear hfz50_0
                   try clear hfz50_1
                   try clear hfz50_2
                   try clear hfz50_3
                   try clear hx371_0
                   try clear hx371_1
                   try clear hx371_2
                   try clear hx372_0
                   try clear hx372_1
                   try clear hx372_2
                   try clear hx390_0
                   try clear p2
                   try clear p3
                   try clear p37
                   try clear p371
                   try clear p372
                   try clear p390
                   try clear p6
                   try clear q3
                   try clear q37
                   try clear q371
                   try clear q372
                   try clear q390
                   obtain ⟨kq, x22_55, rfl, HA, HJ55, HO_20, BK361, BK370, HB⟩ := hcut
                   cases kq with
                   | zero => exact absurd HA.out (by simp [lockgatelaw17_SpaceZone.j6])
                   | succ kj55 =>
                    have H := HA.out
                    clear HA
                    simp only [lockgatelaw17_SpaceZone.j6] at H
                    have H' := Aside0.mk H
                    clear H
                    go_wp2
                    go_loopg [24] kj55 (fun kq v24 w' => ∃ (x24_8 : Int), v24 = .int .i64 x24_8 ∧ Aside0 (lockgatelaw17_SpaceZone.l3 kq t362 (Go.bits .and .i64 a2_0 3) x16_26 x17_5 t385 x22_55 x23_6 x24_8 t363 t364 t365 t366 = some r) ∧ Aside0 (kq ≤ kj55) ∧ Aside0 (Kd.R (Kd.int .i64) 3 w' w.heap.size (fun _ => True) (.slice (some ad390) t385.length co57) t385) ∧ Aside0 (w'.heap[gb361]? = some (.cells #[.int .i64 a2_0, .int .i64 a2_1, (.slice A2_2 l2_2.length c2_2)] 32 (0, 0))) ∧ Aside0 (w'.heap[gb370]? = some (.cells #[.int .i64 t363, .int .i64 t364, .int .i64 t365, .int .i64 t366] 23 (0, 0))) ∧ Aside0 (Below w.heap.size w w'))
                    case atStart => exact ⟨(0), (by first | rfl | (simp; done) | (simp [*]; done)), H', ⟨Nat.le_refl _⟩, ⟨by (with_reducible repeat (first | apply Kd.R_alloc | apply Kd.R_drewN | apply Kd.R_drew)); exact HO_20.out⟩, ⟨by (with_reducible repeat (first | refine blk_drewN ?_ _ | refine blk_drew ?_ | refine blk_alloc ?_ _)); exact BK361.out⟩, ⟨by (with_reducible repeat (first | refine blk_drewN ?_ _ | refine blk_drew ?_ | refine blk_alloc ?_ _)); exact BK370.out⟩, ⟨by repeat (first | (with_reducible first | exact HB.out | apply below_alloc | apply pw_below_drewN | apply below_drew1 | refine below_set ?_ GE361.out | refine below_set ?_ GE370.out) | exact HB.out)⟩⟩
                    case round =>
                     clear H'
                     try clear c1
                     try clear c2
                     try clear p2
                     try clear c3
                     try clear p3
                     try clear q3
                     try clear hx3
                     try clear c4
                     try clear c5
                     try clear c6
                     try clear p6
                     try clear c14
                     try clear c16
                     try clear c17
                     try clear c17b0
                     try clear c18
                     try clear c18b0
                     try clear c20
                     try clear c23
                     try clear c24
                     try clear c28
                     try clear c30
                     try clear c30b0
                     try clear c31
                     try clear c31b0
                     try clear c34
                     try clear c35
                     try clear p37
                     try clear q37
                     try clear hx37
                     try clear p39
                     try clear q39
                     try clear hx39
                     try clear c41
                     try clear c48
                     try clear c49
                     try clear c53
                     try clear c53b0
                     try clear c54
                     try clear c54b0
                     try clear c60
                     try clear c60b0
                     try clear c60b1
                     try clear hcz29_0
                     try clear hcz29_1
                     try clear hcz29_2
                     try clear hcz36_0
                     try clear hcz36_1
                     try clear hcz36_2
                     try clear hcz36_3
                     try clear hcz42_0
                     try clear hcz42_1
                     try clear hcz42_2
                     try clear hcz42_3
                     try clear hcz50_0
                     try clear hcz50_1
                     try clear hcz50_2
                     try clear hcz50_3
                     try clear hfz29_0
                     try clear hfz29_1
                     try clear hfz29_2
                     try clear hfz36_0
                     try clear hfz36_1
                     try clear hfz36_2
                     try clear hfz36_3
                     try clear hfz42_0
                     try clear hfz42_1
                     try clear hfz42_2
                     try clear hfz42_3
                     try clear hfz50_0
                     try clear hfz50_1
                     try clear hfz50_2
                     try clear hfz50_3
                     try clear hx371_0
                     try clear hx371_1
                     try clear hx371_2
                     try clear hx372_0
                     try clear hx372_1
                     try clear hx372_2
                     try clear hx390_0
                     try clear p2
                     try clear p3
                     try clear p37
                     try clear p371
                     try clear p372
                     try clear p39
                     try clear p390
                     try clear p6
                     try clear q3
                     try clear q37
                     try clear q371
                     try clear q372
                     try clear q39
                     try clear q390
                     obtain ⟨x24_8, rfl, HA, HK8, HO_20, BK361, BK370, HB⟩ := hrel
                     cases gk with
                     | zero => exact absurd HA.out (by simp [lockgatelaw17_SpaceZone.l3])
                     | succ k8 =>
                      have H := HA.out
                      clear HA
                      simp only [lockgatelaw17_SpaceZone.l3] at H
                      by_cases c61 : x24_8 < x23_6
                      ·rw [if_pos c61] at H
                       have c61b0 : decide (x24_8 < x23_6) = true := decide_eq_true c61
                       clear c61
                       by_cases c62 : 0 ≤ x24_8
                       ·rw [if_pos c62] at H
                        have c62b0 : decide (0 ≤ x24_8) = true := decide_eq_true c62
                        clear c62
                        by_cases c63 : x24_8 < (t385.length : Int)
                        ·rw [if_pos c63] at H
                         have c63b0 : decide (x24_8 < (t385.length : Int)) = true := decide_eq_true c63
                         clear c63
                         by_cases c64 : 0 ≤ x23_6
                         ·rw [if_pos c64] at H
                          have c64b0 : decide (0 ≤ x23_6) = true := decide_eq_true c64
                          clear c64
                          by_cases c65 : x23_6 < (t385.length : Int)
                          ·rw [if_pos c65] at H
                           have c65b0 : decide (x23_6 < (t385.length : Int)) = true := decide_eq_true c65
                           clear c65
                           by_cases c66 : (rd t385 x24_8) = (rd t385 x23_6)
                           ·rw [if_pos c66] at H
                            have c66b0 : ((rd t385 x24_8) == (rd t385 x23_6)) = true := beq_iff_eq.mpr c66
                            have c66b1 : ((rd t385 x24_8) != (rd t385 x23_6)) = false := bne_eq_false_iff_eq.mpr c66
                            clear c66
                            obtain rfl := Option.some.inj H
                            try go_wp2
                            have n0_ := Aside0.mk (Kd.R_drew HO_20.out)
                            have n1_ := Aside0.mk (blk_drew BK361.out)
                            have n2_ := Aside0.mk (blk_drew BK370.out)
                            have n3_ := Aside0.mk (below_drew1 HB.out)
                            clear HO_20
                            clear BK361
                            clear BK370
                            clear HB
                            have HO_20 := n0_
                            have BK361 := n1_
                            have BK370 := n2_
                            have HB := n3_
                            clear n0_ n1_ n2_ n3_
                            have p392 : 0 ≤ (x24_8 : Int) := of_decide_eq_true (by first | (with_reducible assumption) | assumption)
                            have q392 : x24_8 < (t385.length : Int) := of_decide_eq_true (by first | (with_reducible assumption) | assumption)
                            obtain ⟨ad392, e392, hx392_0⟩ := Kd.at_int (Kd.R_reads' HO_20.out).2.2 x24_8 p392 q392
                            obtain rfl : ad390 = ad392 := (by injection e392)
                            replace p392 := eq_true p392
                            replace q392 := eq_true q392
                            have p393 : 0 ≤ (x23_6 : Int) := of_decide_eq_true (by first | (with_reducible assumption) | assumption)
                            have q393 : x23_6 < (t385.length : Int) := of_decide_eq_true (by first | (with_reducible assumption) | assumption)
                            obtain ⟨ad393, e393, hx393_0⟩ := Kd.at_int (Kd.R_reads' HO_20.out).2.2 x23_6 p393 q393
                            obtain rfl : ad390 = ad393 := (by injection e393)
                            replace p393 := eq_true p393
                            replace q393 := eq_true q393
                            refine start_ (n := 9) (S := fun w' => w'.cell? (ad390.add (x24_8).toNat) = some (.int .i64 (rd t385 x24_8)) ∧ w'.cell? (ad390.add (x23_6).toNat) = some (.int .i64 (rd t385 x23_6))) (ds := []) #[false, false, false, false, false, false, false, false, false] (by kernel_rfl) rfl rfl ⟨hx392_0, hx393_0⟩ (fun hHeld => ?_); refine with_tabW lockgatelaw17_SpaceZone.tab34 lockgatelaw17_SpaceZone.bits34 (fun HT_ HW_ => ?_)
                            generalize wr.drew = w67 at HO_20 BK361 BK370 HB hx392_0 hx393_0 hHeld ⊢
                            refine pure_ (i := 0) (N := some 137) (v := ?_) (a' := ?_) #[true, false, false, false, false, false, false, false, false] rfl rfl (any_of HT_.out (by kernel_rfl)) (fun _ _ _ h => h) (Or.inl ⟨by rfl, ?_⟩) ?_ ?_
                            rotate_left
                            ·intro w'; go_simp; with_reducible rfl
                            rotate_left
                            ·simp only [Act.put, setIfInBounds_toArray, set_cons_zero, set_cons_succ, i64_w, i32_w]; rfl
                            refine pure_ (i := 1) (N := some 138) (v := ?_) (a' := ?_) #[true, true, false, false, false, false, false, false, false] rfl rfl (any_of HT_.out (by kernel_rfl)) (fun _ _ _ h => h) (Or.inl ⟨by rfl, ?_⟩) ?_ ?_
                            rotate_left
                            ·intro w'; go_simp; with_reducible rfl
                            rotate_left
                            ·simp only [Act.put, setIfInBounds_toArray, set_cons_zero, set_cons_succ, i64_w, i32_w]; rfl
                            refine pure_ (i := 2) (N := some 139) (v := ?_) (a' := ?_) #[true, true, true, false, false, false, false, false, false] rfl rfl (any_of HT_.out (by kernel_rfl)) (fun _ _ _ h => h) (Or.inl ⟨by rfl, ?_⟩) ?_ ?_
                            rotate_left
                            ·intro w'; go_simp; with_reducible rfl
                            rotate_left
                            ·simp only [Act.put, setIfInBounds_toArray, set_cons_zero, set_cons_succ, i64_w, i32_w]; rfl
                            refine pure_ (i := 4) (N := some 141) (v := ?_) (a' := ?_) #[true, true, true, false, true, false, false, false, false] rfl rfl (any_of HT_.out (by kernel_rfl)) (fun _ _ _ h => h) (Or.inl ⟨by rfl, ?_⟩) ?_ ?_
                            rotate_left
                            ·intro w'; go_simp; with_reducible rfl
                            rotate_left
                            ·simp only [Act.put, setIfInBounds_toArray, set_cons_zero, set_cons_succ, i64_w, i32_w]; rfl
                            refine pure_ (i := 5) (N := some 142) (v := ?_) (a' := ?_) #[true, true, true, false, true, true, false, false, false] rfl rfl (any_of HT_.out (by kernel_rfl)) (fun _ _ _ h => h) (Or.inl ⟨by rfl, ?_⟩) ?_ ?_
                            rotate_left
                            ·intro w'; go_simp; with_reducible rfl
                            rotate_left
                            ·simp only [Act.put, setIfInBounds_toArray, set_cons_zero, set_cons_succ, i64_w, i32_w]; rfl
                            refine pure_ (i := 6) (N := some 143) (v := ?_) (a' := ?_) #[true, true, true, false, true, true, true, false, false] rfl rfl (any_of HT_.out (by kernel_rfl)) (fun _ _ _ h => h) (Or.inl ⟨by rfl, ?_⟩) ?_ ?_
                            rotate_left
                            ·intro w'; go_simp; with_reducible rfl
                            rotate_left
                            ·simp only [Act.put, setIfInBounds_toArray, set_cons_zero, set_cons_succ, i64_w, i32_w]; rfl
                            refine take_ (i := 3) (N := some 140) (v := ?_) (a' := ?_) #[true, true, true, true, true, true, true, false, false] rfl rfl (take_ofW HT_.out HW_.out (by kernel_rfl)) (fun _ _ _ h => h) (Or.inl ⟨by rfl, ?_⟩) hHeld ?_ ?_
                            rotate_left
                            ·rintro w' ⟨s0, s1⟩
                             go_simp
                             with_reducible rfl
                            rotate_left
                            ·simp only [Act.put, setIfInBounds_toArray, set_cons_zero, set_cons_succ, i64_w, i32_w]; rfl
                            refine take_ (i := 7) (N := some 144) (v := ?_) (a' := ?_) #[true, true, true, true, true, true, true, true, false] rfl rfl (take_ofW HT_.out HW_.out (by kernel_rfl)) (fun _ _ _ h => h) (Or.inl ⟨by rfl, ?_⟩) hHeld ?_ ?_
                            rotate_left
                            ·rintro w' ⟨s0, s1⟩
                             go_simp
                             with_reducible rfl
                            rotate_left
                            ·simp only [Act.put, setIfInBounds_toArray, set_cons_zero, set_cons_succ, i64_w, i32_w]; rfl
                            refine pure_ (i := 8) (N := some 145) (v := ?_) (a' := ?_) #[true, true, true, true, true, true, true, true, true] rfl rfl (any_of HT_.out (by kernel_rfl)) (fun _ _ _ h => h) (Or.inl ⟨by rfl, ?_⟩) ?_ ?_
                            rotate_left
                            ·intro w'; go_simp; with_reducible rfl
                            rotate_left
                            ·simp only [Act.put, setIfInBounds_toArray, set_cons_zero, set_cons_succ, i64_w, i32_w]; rfl
                            refine done_ (done_of HT_.out (by kernel_rfl)) ?_
                            try go_wp2
                            go_ret
                            exact ⟨by first | rfl | (simp [errW_none, errW_some] <;> rfl) | (simp [*, errW_none, errW_some] <;> rfl), by repeat (first | (with_reducible first | exact HB.out | apply below_alloc | apply pw_below_drewN | apply below_drew1 | refine below_set ?_ GE361.out | refine below_set ?_ GE370.out) | exact HB.out)⟩
                           ·rw [if_neg c66] at H
                            have c66b0 : ((rd t385 x24_8) == (rd t385 x23_6)) = false := beq_eq_false_iff_ne.mpr c66
                            have c66b1 : ((rd t385 x24_8) != (rd t385 x23_6)) = true := bne_iff_ne.mpr c66
                            have H' := Aside0.mk H
                            clear H
                            try go_wp2
                            have n0_ := Aside0.mk (Kd.R_drew HO_20.out)
                            have n1_ := Aside0.mk (blk_drew BK361.out)
                            have n2_ := Aside0.mk (blk_drew BK370.out)
                            have n3_ := Aside0.mk (below_drew1 HB.out)
                            clear HO_20
                            clear BK361
                            clear BK370
                            clear HB
                            have HO_20 := n0_
                            have BK361 := n1_
                            have BK370 := n2_
                            have HB := n3_
                            clear n0_ n1_ n2_ n3_
                            have p392 : 0 ≤ (x24_8 : Int) := of_decide_eq_true (by first | (with_reducible assumption) | assumption)
                            have q392 : x24_8 < (t385.length : Int) := of_decide_eq_true (by first | (with_reducible assumption) | assumption)
                            obtain ⟨ad392, e392, hx392_0⟩ := Kd.at_int (Kd.R_reads' HO_20.out).2.2 x24_8 p392 q392
                            obtain rfl : ad390 = ad392 := (by injection e392)
                            replace p392 := eq_true p392
                            replace q392 := eq_true q392
                            have p393 : 0 ≤ (x23_6 : Int) := of_decide_eq_true (by first | (with_reducible assumption) | assumption)
                            have q393 : x23_6 < (t385.length : Int) := of_decide_eq_true (by first | (with_reducible assumption) | assumption)
                            obtain ⟨ad393, e393, hx393_0⟩ := Kd.at_int (Kd.R_reads' HO_20.out).2.2 x23_6 p393 q393
                            obtain rfl : ad390 = ad393 := (by injection e393)
                            replace p393 := eq_true p393
                            replace q393 := eq_true q393
                            refine start_ (n := 9) (S := fun w' => w'.cell? (ad390.add (x24_8).toNat) = some (.int .i64 (rd t385 x24_8)) ∧ w'.cell? (ad390.add (x23_6).toNat) = some (.int .i64 (rd t385 x23_6))) (ds := []) #[false, false, false, false, false, false, false, false, false] (by kernel_rfl) rfl rfl ⟨hx392_0, hx393_0⟩ (fun hHeld => ?_); refine with_tabW lockgatelaw17_SpaceZone.tab34 lockgatelaw17_SpaceZone.bits34 (fun HT_ HW_ => ?_)
                            generalize wr.drew = w68 at HO_20 BK361 BK370 HB hx392_0 hx393_0 hHeld ⊢
                            refine pure_ (i := 0) (N := some 137) (v := ?_) (a' := ?_) #[true, false, false, false, false, false, false, false, false] rfl rfl (any_of HT_.out (by kernel_rfl)) (fun _ _ _ h => h) (Or.inl ⟨by rfl, ?_⟩) ?_ ?_
                            rotate_left
                            ·intro w'; go_simp; with_reducible rfl
                            rotate_left
                            ·simp only [Act.put, setIfInBounds_toArray, set_cons_zero, set_cons_succ, i64_w, i32_w]; rfl
                            refine pure_ (i := 1) (N := some 138) (v := ?_) (a' := ?_) #[true, true, false, false, false, false, false, false, false] rfl rfl (any_of HT_.out (by kernel_rfl)) (fun _ _ _ h => h) (Or.inl ⟨by rfl, ?_⟩) ?_ ?_
                            rotate_left
                            ·intro w'; go_simp; with_reducible rfl
                            rotate_left
                            ·simp only [Act.put, setIfInBounds_toArray, set_cons_zero, set_cons_succ, i64_w, i32_w]; rfl
                            refine pure_ (i := 2) (N := some 139) (v := ?_) (a' := ?_) #[true, true, true, false, false, false, false, false, false] rfl rfl (any_of HT_.out (by kernel_rfl)) (fun _ _ _ h => h) (Or.inl ⟨by rfl, ?_⟩) ?_ ?_
                            rotate_left
                            ·intro w'; go_simp; with_reducible rfl
                            rotate_left
                            ·simp only [Act.put, setIfInBounds_toArray, set_cons_zero, set_cons_succ, i64_w, i32_w]; rfl
                            refine pure_ (i := 4) (N := some 141) (v := ?_) (a' := ?_) #[true, true, true, false, true, false, false, false, false] rfl rfl (any_of HT_.out (by kernel_rfl)) (fun _ _ _ h => h) (Or.inl ⟨by rfl, ?_⟩) ?_ ?_
                            rotate_left
                            ·intro w'; go_simp; with_reducible rfl
                            rotate_left
                            ·simp only [Act.put, setIfInBounds_toArray, set_cons_zero, set_cons_succ, i64_w, i32_w]; rfl
                            refine pure_ (i := 5) (N := some 142) (v := ?_) (a' := ?_) #[true, true, true, false, true, true, false, false, false] rfl rfl (any_of HT_.out (by kernel_rfl)) (fun _ _ _ h => h) (Or.inl ⟨by rfl, ?_⟩) ?_ ?_
                            rotate_left
                            ·intro w'; go_simp; with_reducible rfl
                            rotate_left
                            ·simp only [Act.put, setIfInBounds_toArray, set_cons_zero, set_cons_succ, i64_w, i32_w]; rfl
                            refine pure_ (i := 6) (N := some 143) (v := ?_) (a' := ?_) #[true, true, true, false, true, true, true, false, false] rfl rfl (any_of HT_.out (by kernel_rfl)) (fun _ _ _ h => h) (Or.inl ⟨by rfl, ?_⟩) ?_ ?_
                            rotate_left
                            ·intro w'; go_simp; with_reducible rfl
                            rotate_left
                            ·simp only [Act.put, setIfInBounds_toArray, set_cons_zero, set_cons_succ, i64_w, i32_w]; rfl
                            refine take_ (i := 3) (N := some 140) (v := ?_) (a' := ?_) #[true, true, true, true, true, true, true, false, false] rfl rfl (take_ofW HT_.out HW_.out (by kernel_rfl)) (fun _ _ _ h => h) (Or.inl ⟨by rfl, ?_⟩) hHeld ?_ ?_
                            rotate_left
                            ·rintro w' ⟨s0, s1⟩
                             go_simp
                             with_reducible rfl
                            rotate_left
                            ·simp only [Act.put, setIfInBounds_toArray, set_cons_zero, set_cons_succ, i64_w, i32_w]; rfl
                            refine take_ (i := 7) (N := some 144) (v := ?_) (a' := ?_) #[true, true, true, true, true, true, true, true, false] rfl rfl (take_ofW HT_.out HW_.out (by kernel_rfl)) (fun _ _ _ h => h) (Or.inl ⟨by rfl, ?_⟩) hHeld ?_ ?_
                            rotate_left
                            ·rintro w' ⟨s0, s1⟩
                             go_simp
                             with_reducible rfl
                            rotate_left
                            ·simp only [Act.put, setIfInBounds_toArray, set_cons_zero, set_cons_succ, i64_w, i32_w]; rfl
                            refine pure_ (i := 8) (N := some 145) (v := ?_) (a' := ?_) #[true, true, true, true, true, true, true, true, true] rfl rfl (any_of HT_.out (by kernel_rfl)) (fun _ _ _ h => h) (Or.inl ⟨by rfl, ?_⟩) ?_ ?_
                            rotate_left
                            ·intro w'; go_simp; with_reducible rfl
                            rotate_left
                            ·simp only [Act.put, setIfInBounds_toArray, set_cons_zero, set_cons_succ, i64_w, i32_w]; rfl
                            refine done_ (done_of HT_.out (by kernel_rfl)) ?_
                            try go_wp2
                            go_roundg k8
                            case measure => have := HJ4.out; have := HK2.out; have := HJ13.out; have := HJ26.out; have := HK5.out; have := HK6.out; have := HJ55.out; have := HK8.out; omega
                            case rel => exact ⟨(wrap64 (x24_8 + 1)), (by first | rfl | (simp; done) | (simp [*]; done)), H', ⟨by have := HJ4.out; have := HK2.out; have := HJ13.out; have := HJ26.out; have := HK5.out; have := HK6.out; have := HJ55.out; have := HK8.out; omega⟩, ⟨by (with_reducible repeat (first | apply Kd.R_alloc | apply Kd.R_drewN | apply Kd.R_drew)); exact HO_20.out⟩, ⟨by (with_reducible repeat (first | refine blk_drewN ?_ _ | refine blk_drew ?_ | refine blk_alloc ?_ _)); exact BK361.out⟩, ⟨by (with_reducible repeat (first | refine blk_drewN ?_ _ | refine blk_drew ?_ | refine blk_alloc ?_ _)); exact BK370.out⟩, ⟨by repeat (first | (with_reducible first | exact HB.out | apply below_alloc | apply pw_below_drewN | apply below_drew1 | refine below_set ?_ GE361.out | refine below_set ?_ GE370.out) | exact HB.out)⟩⟩
                          ·rw [if_neg c65] at H
                           exact absurd H (by simp)
                         ·rw [if_neg c64] at H
                          exact absurd H (by simp)
                        ·rw [if_neg c63] at H
                         exact absurd H (by simp)
                       ·rw [if_neg c62] at H
                        exact absurd H (by simp)
                      ·rw [if_neg c61] at H
                       have c61b0 : decide (x24_8 < x23_6) = false := decide_eq_false c61
                       clear c61
                       have H' := Aside0.mk H
                       clear H
                       go_wp2
                       go_roundg k8
                       case measure => have := HJ4.out; have := HK2.out; have := HJ13.out; have := HJ26.out; have := HK5.out; have := HK6.out; have := HJ55.out; have := HK8.out; omega
                       case rel => exact ⟨(x22_55), (wrap64 (x23_6 + 1)), (by first | rfl | (simp; done) | (simp [*]; done)), (by first | rfl | (simp; done) | (simp [*]; done)), H', ⟨by have := HJ4.out; have := HK2.out; have := HJ13.out; have := HJ26.out; have := HK5.out; have := HK6.out; have := HJ55.out; have := HK8.out; omega⟩, ⟨by (with_reducible repeat (first | apply Kd.R_alloc | apply Kd.R_drewN | apply Kd.R_drew)); exact HO_20.out⟩, ⟨by (with_reducible repeat (first | refine blk_drewN ?_ _ | refine blk_drew ?_ | refine blk_alloc ?_ _)); exact BK361.out⟩, ⟨by (with_reducible repeat (first | refine blk_drewN ?_ _ | refine blk_drew ?_ | refine blk_alloc ?_ _)); exact BK370.out⟩, ⟨by repeat (first | (with_reducible first | exact HB.out | apply below_alloc | apply pw_below_drewN | apply below_drew1 | refine below_set ?_ GE361.out | refine below_set ?_ GE370.out) | exact HB.out)⟩⟩
                 ·rw [if_neg c54] at H
                  exact absurd H (by simp)
                ·rw [if_neg c53] at H
                 have c53b0 : decide (x23_6 < (t385.length : Int)) = false := decide_eq_false c53
                 clear c53
                 by_cases c69 : x17_5 < x16_26
                 ·rw [if_pos c69] at H
                  have c69b0 : decide (x17_5 < x16_26) = true := decide_eq_true c69
                  clear c69
                  by_cases c70 : t362 = true
                  ·subst c70
                   have H1 : (if x22_6 = x17_5 then (some ((t385.length : Int) == x16_26)) else (some false)) = some r := by rw [if_pos rfl] at H; exact H
                   clear H
                   have H := H1
                   clear H1
                   by_cases c71 : x22_6 = x17_5
                   ·rw [if_pos c71] at H
                    have c71b0 : (x22_6 == x17_5) = true := beq_iff_eq.mpr c71
                    have c71b1 : (x22_6 != x17_5) = false := bne_eq_false_iff_eq.mpr c71
                    clear c71
                    obtain rfl := Option.some.inj H
                    obtain ⟨Ao72, co72, eo72⟩ := Kd.R_slice HO_20.out
                    subst eo72
                    go_wp2
                    go_ret
                    exact ⟨by first | rfl | (simp [errW_none, errW_some] <;> rfl) | (simp [*, errW_none, errW_some] <;> rfl), by repeat (first | (with_reducible first | exact HB.out | apply below_alloc | apply pw_below_drewN | apply below_drew1 | refine below_set ?_ GE361.out | refine below_set ?_ GE370.out) | exact HB.out)⟩
                   ·rw [if_neg c71] at H
                    have c71b0 : (x22_6 == x17_5) = false := beq_eq_false_iff_ne.mpr c71
                    have c71b1 : (x22_6 != x17_5) = true := bne_iff_ne.mpr c71
                    obtain rfl := Option.some.inj H
                    obtain ⟨Ao73, co73, eo73⟩ := Kd.R_slice HO_20.out
                    subst eo73
                    go_wp2
                    go_ret
                    exact ⟨by first | rfl | (simp [errW_none, errW_some] <;> rfl) | (simp [*, errW_none, errW_some] <;> rfl), by repeat (first | (with_reducible first | exact HB.out | apply below_alloc | apply pw_below_drewN | apply below_drew1 | refine below_set ?_ GE361.out | refine below_set ?_ GE370.out) | exact HB.out)⟩
                  ·replace c70 := Bool.eq_false_iff.mpr c70
                   subst c70
                   have H1 : (some false) = some r := by rw [if_neg (show ¬ (false = true) by decide)] at H; exact H
                   clear H
                   have H := H1
                   clear H1
                   obtain rfl := Option.some.inj H
                   obtain ⟨Ao74, co74, eo74⟩ := Kd.R_slice HO_20.out
                   subst eo74
                   go_wp2
                   go_ret
                   exact ⟨by first | rfl | (simp [errW_none, errW_some] <;> rfl) | (simp [*, errW_none, errW_some] <;> rfl), by repeat (first | (with_reducible first | exact HB.out | apply below_alloc | apply pw_below_drewN | apply below_drew1 | refine below_set ?_ GE361.out | refine below_set ?_ GE370.out) | exact HB.out)⟩
                 ·rw [if_neg c69] at H
                  have c69b0 : decide (x17_5 < x16_26) = false := decide_eq_false c69
                  clear c69
                  by_cases c75 : t362 = true
                  ·subst c75
                   have H1 : (if x22_6 = x16_26 then (some ((t385.length : Int) == x16_26)) else (some false)) = some r := by rw [if_pos rfl] at H; exact H
                   clear H
                   have H := H1
                   clear H1
                   by_cases c76 : x22_6 = x16_26
                   ·rw [if_pos c76] at H
                    have c76b0 : (x22_6 == x16_26) = true := beq_iff_eq.mpr c76
                    have c76b1 : (x22_6 != x16_26) = false := bne_eq_false_iff_eq.mpr c76
                    clear c76
                    obtain rfl := Option.some.inj H
                    obtain ⟨Ao77, co77, eo77⟩ := Kd.R_slice HO_20.out
                    subst eo77
                    go_wp2
                    go_ret
                    exact ⟨by first | rfl | (simp [errW_none, errW_some] <;> rfl) | (simp [*, errW_none, errW_some] <;> rfl), by repeat (first | (with_reducible first | exact HB.out | apply below_alloc | apply pw_below_drewN | apply below_drew1 | refine below_set ?_ GE361.out | refine below_set ?_ GE370.out) | exact HB.out)⟩
                   ·rw [if_neg c76] at H
                    have c76b0 : (x22_6 == x16_26) = false := beq_eq_false_iff_ne.mpr c76
                    have c76b1 : (x22_6 != x16_26) = true := bne_iff_ne.mpr c76
                    obtain rfl := Option.some.inj H
                    obtain ⟨Ao78, co78, eo78⟩ := Kd.R_slice HO_20.out
                    subst eo78
                    go_wp2
                    go_ret
                    exact ⟨by first | rfl | (simp [errW_none, errW_some] <;> rfl) | (simp [*, errW_none, errW_some] <;> rfl), by repeat (first | (with_reducible first | exact HB.out | apply below_alloc | apply pw_below_drewN | apply below_drew1 | refine below_set ?_ GE361.out | refine below_set ?_ GE370.out) | exact HB.out)⟩
                  ·replace c75 := Bool.eq_false_iff.mpr c75
                   subst c75
                   have H1 : (some false) = some r := by rw [if_neg (show ¬ (false = true) by decide)] at H; exact H
                   clear H
                   have H := H1
                   clear H1
                   obtain rfl := Option.some.inj H
                   obtain ⟨Ao79, co79, eo79⟩ := Kd.R_slice HO_20.out
                   subst eo79
                   go_wp2
                   go_ret
                   exact ⟨by first | rfl | (simp [errW_none, errW_some] <;> rfl) | (simp [*, errW_none, errW_some] <;> rfl), by repeat (first | (with_reducible first | exact HB.out | apply below_alloc | apply pw_below_drewN | apply below_drew1 | refine below_set ?_ GE361.out | refine below_set ?_ GE370.out) | exact HB.out)⟩
             ·replace c48 := Bool.eq_false_iff.mpr c48
              subst c48
              have H1 : (if t362 = true then ((space_Free.f k5 t363 t364 t365 t366 x10_2).bind fun t389 => (some (decide (t389 < x16_26)))) else (some false)) = some r := by rw [if_neg (show ¬ (false = true) by decide)] at H; exact H
              clear H
              have H := H1
              clear H1
              by_cases c80 : t362 = true
              ·subst c80
               have H1 : ((space_Free.f k5 t363 t364 t365 t366 x10_2).bind fun t389 => (some (decide (t389 < x16_26)))) = some r := by rw [if_pos rfl] at H; exact H
               clear H
               have H := H1
               clear H1
               replace H := Option.bind_eq_some_iff.mp H
               obtain ⟨t389, A810, H⟩ := H
               replace H : (some (decide (t389 < x16_26))) = some r := H
               have A81 := Aside0.mk A810
               clear A810
               obtain rfl := Option.some.inj H
               have hnb82 := NB370_361.out
               have hnc82 := NB361_370.out
               have hcz83_0 : wr.cell? ⟨gb370, 0, none⟩ = some (.int .i64 t363) := (blk_cell BK370.out 0).trans rfl
               have hcz83_1 : wr.cell? ⟨gb370, 1, none⟩ = some (.int .i64 t364) := (blk_cell BK370.out 1).trans rfl
               have hcz83_2 : wr.cell? ⟨gb370, 2, none⟩ = some (.int .i64 t365) := (blk_cell BK370.out 2).trans rfl
               have hcz83_3 : wr.cell? ⟨gb370, 3, none⟩ = some (.int .i64 t366) := (blk_cell BK370.out 3).trans rfl
               have hfz83_0 := blk_frozen BK370.out 0
               have hfz83_1 := blk_frozen BK370.out 1
               have hfz83_2 := blk_frozen BK370.out 2
               have hfz83_3 := blk_frozen BK370.out 3
               obtain ⟨Ao84, co84, eo84⟩ := Kd.V_slice HO_10.out
               subst eo84
               go_wp2_with (first | ((with_reducible refine gate_callee (f := 16) rfl ?_); refine goesL_ (some 102) rfl rfl Try.func16 (by kernel_rfl) rfl #[.agg #[.int .i64 t363, .int .i64 t364, .int .i64 t365, .int .i64 t366], .slice Ao84 x10_2.length co84, .int .i64 (Go.bits .and .i64 a2_0 3), .int .i64 x16_26] rfl (by (try simp only [List.map_toArray, List.map_cons, List.map_nil]); first | done | rfl | (simp only [List.length_drop, List.length_take]; rfl)) ?_; (with_reducible refine (space_Take.calls k5 t363 t364 t365 t366 (fun k_ => (k_ ≠ gb361 ∧ k_ ≠ gb370)) _ _ x10_2 (Go.bits .and .i64 a2_0 3) x16_26 t382 t385 false _ ?side1 A47.out).mono ?_); (case side1 => exact HO_10.out); rintro e w85 ⟨v383, v386, rfl, ho0, ho1, hb⟩; refine ⟨_, rfl, ?_⟩; have n0_ := Aside0.mk (Kd.V_elder' (by (with_reducible repeat (first | apply Kd.V_alloc | apply Kd.V_drewN | apply Kd.V_drew)); exact HO_10.out) (Kd.R_base ho1) hb); have n1_ := Aside0.mk (Kd.V_lower (Kd.V_mono (ok' := fun k_ => some k_ ≠ (v386 : Value).ownBlock ∧ k_ ≠ gb361 ∧ k_ ≠ gb370) ho0 (fun k_ hk_ => ⟨hk_.2, Or.elim hk_.1 (fun hs_ => hs_.1) (fun hn_ => (Kd.freshB (g := gb361) (o := .cells #[.int .i64 a2_0, .int .i64 a2_1, .slice A2_2 l2_2.length c2_2] 32 (0, 0)) (by (with_reducible repeat (first | refine blk_drewN ?_ _ | refine blk_drew ?_ | refine blk_alloc ?_ _)); exact BK361.out) k_ hn_)), Or.elim hk_.1 (fun hs_ => hs_.2) (fun hn_ => (Kd.freshB (g := gb370) (o := .cells #[.int .i64 t363, .int .i64 t364, .int .i64 t365, .int .i64 t366] 23 (0, 0)) (by (with_reducible repeat (first | refine blk_drewN ?_ _ | refine blk_drew ?_ | refine blk_alloc ?_ _)); exact BK370.out) k_ hn_))⟩)) (below_size (by repeat (first | (with_reducible first | exact HB.out | apply below_alloc | apply pw_below_drewN | apply below_drew1 | refine below_set ?_ GE361.out | refine below_set ?_ GE370.out) | exact HB.out)))); have n2_ := Aside0.mk (Kd.R_lower (Kd.R_mono (ok' := fun k_ => True) ho1 (fun _ hk_ => trivial)) (below_size (by repeat (first | (with_reducible first | exact HB.out | apply below_alloc | apply pw_below_drewN | apply below_drew1 | refine below_set ?_ GE361.out | refine below_set ?_ GE370.out) | exact HB.out)))); have n3_ := Aside0.mk (blk_below (g := gb361) (o := .cells #[.int .i64 a2_0, .int .i64 a2_1, .slice A2_2 l2_2.length c2_2] 32 (0, 0)) (by (with_reducible repeat (first | refine blk_drewN ?_ _ | refine blk_drew ?_ | refine blk_alloc ?_ _)); exact BK361.out) hb); have n4_ := Aside0.mk (blk_below (g := gb370) (o := .cells #[.int .i64 t363, .int .i64 t364, .int .i64 t365, .int .i64 t366] 23 (0, 0)) (by (with_reducible repeat (first | refine blk_drewN ?_ _ | refine blk_drew ?_ | refine blk_alloc ?_ _)); exact BK370.out) hb); have n5_ := Aside0.mk (below_step (by repeat (first | (with_reducible first | exact HB.out | apply below_alloc | apply pw_below_drewN | apply below_drew1 | refine below_set ?_ GE361.out | refine below_set ?_ GE370.out) | exact HB.out)) hb); clear HO_10; clear BK361; clear BK370; clear HB; have HO_10 := n0_; have HO384 := n1_; have HO387 := n2_; have BK361 := n3_; have BK370 := n4_; have HB := n5_; clear n0_ n1_ n2_ n3_ n4_ n5_; (try clear hb); (try clear hb2); (try clear hk); (try clear hi); (try clear ho0); (try clear ho1); have hcz86_0 : w85.cell? ⟨gb370, 0, none⟩ = some (.int .i64 t363) := (blk_cell BK370.out 0).trans rfl; have hcz86_1 : w85.cell? ⟨gb370, 1, none⟩ = some (.int .i64 t364) := (blk_cell BK370.out 1).trans rfl; have hcz86_2 : w85.cell? ⟨gb370, 2, none⟩ = some (.int .i64 t365) := (blk_cell BK370.out 2).trans rfl; have hcz86_3 : w85.cell? ⟨gb370, 3, none⟩ = some (.int .i64 t366) := (blk_cell BK370.out 3).trans rfl; have hfz86_0 := blk_frozen BK370.out 0; have hfz86_1 := blk_frozen BK370.out 1; have hfz86_2 := blk_frozen BK370.out 2; have hfz86_3 := blk_frozen BK370.out 3) | (go_at_call 12; (with_reducible refine (space_Free.calls k5 t363 t364 t365 t366 _ _ x10_2 t389 _ ?side1 ?side2 A81.out).mono ?_); (case side1 => repeat (first | exact (Kd.V_reads' HO_10.out).2.2 | (with_reducible refine Kd.C_alloc ?_ _) | (with_reducible refine Kd.C_drewN ?_ _) | (with_reducible refine Kd.C_drew ?_))); (case side2 => exact (Kd.V_reads' HO_10.out).2.1); rintro e w87 ⟨rfl, hb⟩; have n0_ := Aside0.mk (Kd.V_below (by (with_reducible repeat (first | apply Kd.V_alloc | apply Kd.V_drewN | apply Kd.V_drew)); exact HO_10.out) hb); have n1_ := Aside0.mk (Kd.V_below (by (with_reducible repeat (first | apply Kd.V_alloc | apply Kd.V_drewN | apply Kd.V_drew)); exact HO384.out) hb); have n2_ := Aside0.mk (Kd.R_below (by (with_reducible repeat (first | apply Kd.R_alloc | apply Kd.R_drewN | apply Kd.R_drew)); exact HO387.out) hb); have n3_ := Aside0.mk (blk_below (g := gb361) (o := .cells #[.int .i64 a2_0, .int .i64 a2_1, .slice A2_2 l2_2.length c2_2] 32 (0, 0)) (by (with_reducible repeat (first | refine blk_drewN ?_ _ | refine blk_drew ?_ | refine blk_alloc ?_ _)); exact BK361.out) hb); have n4_ := Aside0.mk (blk_below (g := gb370) (o := .cells #[.int .i64 t363, .int .i64 t364, .int .i64 t365, .int .i64 t366] 23 (0, 0)) (by (with_reducible repeat (first | refine blk_drewN ?_ _ | refine blk_drew ?_ | refine blk_alloc ?_ _)); exact BK370.out) hb); have n5_ := Aside0.mk (below_step (by repeat (first | (with_reducible first | exact HB.out | apply below_alloc | apply pw_below_drewN | apply below_drew1 | refine below_set ?_ GE361.out | refine below_set ?_ GE370.out) | exact HB.out)) hb); clear HO_10; clear HO384; clear HO387; clear BK361; clear BK370; clear HB; have HO_10 := n0_; have HO384 := n1_; have HO387 := n2_; have BK361 := n3_; have BK370 := n4_; have HB := n5_; clear n0_ n1_ n2_ n3_ n4_ n5_; (try clear hb); (try clear hb2); (try clear hk); (try clear hi)))
               go_ret
               exact ⟨by first | rfl | (simp [errW_none, errW_some] <;> rfl) | (simp [*, errW_none, errW_some] <;> rfl), by repeat (first | (with_reducible first | exact HB.out | apply below_alloc | apply pw_below_drewN | apply below_drew1 | refine below_set ?_ GE361.out | refine below_set ?_ GE370.out) | exact HB.out)⟩
              ·replace c80 := Bool.eq_false_iff.mpr c80
               subst c80
               have H1 : (some false) = some r := by rw [if_neg (show ¬ (false = true) by decide)] at H; exact H
               clear H
               have H := H1
               clear H1
               obtain rfl := Option.some.inj H
               have hnb88 := NB370_361.out
               have hnc88 := NB361_370.out
               have hcz89_0 : wr.cell? ⟨gb370, 0, none⟩ = some (.int .i64 t363) := (blk_cell BK370.out 0).trans rfl
               have hcz89_1 : wr.cell? ⟨gb370, 1, none⟩ = some (.int .i64 t364) := (blk_cell BK370.out 1).trans rfl
               have hcz89_2 : wr.cell? ⟨gb370, 2, none⟩ = some (.int .i64 t365) := (blk_cell BK370.out 2).trans rfl
               have hcz89_3 : wr.cell? ⟨gb370, 3, none⟩ = some (.int .i64 t366) := (blk_cell BK370.out 3).trans rfl
               have hfz89_0 := blk_frozen BK370.out 0
               have hfz89_1 := blk_frozen BK370.out 1
               have hfz89_2 := blk_frozen BK370.out 2
               have hfz89_3 := blk_frozen BK370.out 3
               obtain ⟨Ao90, co90, eo90⟩ := Kd.V_slice HO_10.out
               subst eo90
               go_wp2_with (first | ((with_reducible refine gate_callee (f := 16) rfl ?_); refine goesL_ (some 102) rfl rfl Try.func16 (by kernel_rfl) rfl #[.agg #[.int .i64 t363, .int .i64 t364, .int .i64 t365, .int .i64 t366], .slice Ao90 x10_2.length co90, .int .i64 (Go.bits .and .i64 a2_0 3), .int .i64 x16_26] rfl (by (try simp only [List.map_toArray, List.map_cons, List.map_nil]); first | done | rfl | (simp only [List.length_drop, List.length_take]; rfl)) ?_; (with_reducible refine (space_Take.calls k5 t363 t364 t365 t366 (fun k_ => (k_ ≠ gb361 ∧ k_ ≠ gb370)) _ _ x10_2 (Go.bits .and .i64 a2_0 3) x16_26 t382 t385 false _ ?side1 A47.out).mono ?_); (case side1 => exact HO_10.out); rintro e w91 ⟨v383, v386, rfl, ho0, ho1, hb⟩; refine ⟨_, rfl, ?_⟩; have n0_ := Aside0.mk (Kd.V_elder' (by (with_reducible repeat (first | apply Kd.V_alloc | apply Kd.V_drewN | apply Kd.V_drew)); exact HO_10.out) (Kd.R_base ho1) hb); have n1_ := Aside0.mk (Kd.V_lower (Kd.V_mono (ok' := fun k_ => some k_ ≠ (v386 : Value).ownBlock ∧ k_ ≠ gb361 ∧ k_ ≠ gb370) ho0 (fun k_ hk_ => ⟨hk_.2, Or.elim hk_.1 (fun hs_ => hs_.1) (fun hn_ => (Kd.freshB (g := gb361) (o := .cells #[.int .i64 a2_0, .int .i64 a2_1, .slice A2_2 l2_2.length c2_2] 32 (0, 0)) (by (with_reducible repeat (first | refine blk_drewN ?_ _ | refine blk_drew ?_ | refine blk_alloc ?_ _)); exact BK361.out) k_ hn_)), Or.elim hk_.1 (fun hs_ => hs_.2) (fun hn_ => (Kd.freshB (g := gb370) (o := .cells #[.int .i64 t363, .int .i64 t364, .int .i64 t365, .int .i64 t366] 23 (0, 0)) (by (with_reducible repeat (first | refine blk_drewN ?_ _ | refine blk_drew ?_ | refine blk_alloc ?_ _)); exact BK370.out) k_ hn_))⟩)) (below_size (by repeat (first | (with_reducible first | exact HB.out | apply below_alloc | apply pw_below_drewN | apply below_drew1 | refine below_set ?_ GE361.out | refine below_set ?_ GE370.out) | exact HB.out)))); have n2_ := Aside0.mk (Kd.R_lower (Kd.R_mono (ok' := fun k_ => True) ho1 (fun _ hk_ => trivial)) (below_size (by repeat (first | (with_reducible first | exact HB.out | apply below_alloc | apply pw_below_drewN | apply below_drew1 | refine below_set ?_ GE361.out | refine below_set ?_ GE370.out) | exact HB.out)))); have n3_ := Aside0.mk (blk_below (g := gb361) (o := .cells #[.int .i64 a2_0, .int .i64 a2_1, .slice A2_2 l2_2.length c2_2] 32 (0, 0)) (by (with_reducible repeat (first | refine blk_drewN ?_ _ | refine blk_drew ?_ | refine blk_alloc ?_ _)); exact BK361.out) hb); have n4_ := Aside0.mk (blk_below (g := gb370) (o := .cells #[.int .i64 t363, .int .i64 t364, .int .i64 t365, .int .i64 t366] 23 (0, 0)) (by (with_reducible repeat (first | refine blk_drewN ?_ _ | refine blk_drew ?_ | refine blk_alloc ?_ _)); exact BK370.out) hb); have n5_ := Aside0.mk (below_step (by repeat (first | (with_reducible first | exact HB.out | apply below_alloc | apply pw_below_drewN | apply below_drew1 | refine below_set ?_ GE361.out | refine below_set ?_ GE370.out) | exact HB.out)) hb); clear HO_10; clear BK361; clear BK370; clear HB; have HO_10 := n0_; have HO384 := n1_; have HO387 := n2_; have BK361 := n3_; have BK370 := n4_; have HB := n5_; clear n0_ n1_ n2_ n3_ n4_ n5_; (try clear hb); (try clear hb2); (try clear hk); (try clear hi); (try clear ho0); (try clear ho1)))
               go_ret
               exact ⟨by first | rfl | (simp [errW_none, errW_some] <;> rfl) | (simp [*, errW_none, errW_some] <;> rfl), by repeat (first | (with_reducible first | exact HB.out | apply below_alloc | apply pw_below_drewN | apply below_drew1 | refine below_set ?_ GE361.out | refine below_set ?_ GE370.out) | exact HB.out)⟩

end Go.Proofs.Ytehnbbabjnibkaa.Q
