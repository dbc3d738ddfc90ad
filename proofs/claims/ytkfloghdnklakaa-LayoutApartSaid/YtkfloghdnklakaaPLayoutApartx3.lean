-- PRINTED BY print.sh 35421559b90ae4d0a3588c463048766b98c2df88dd9212a6774a882060cdf62d: not written by this session
import Derived.Test.YtkfloghdnklakaaPLayoutApartx0
import Derived.Test.YtkfloghdnklakaaPLayoutApartx2
namespace Go.Proofs.Ytkfloghdnklakaa.PLayoutApart
open Go.RowKit Go.Proofs.YtkfloghdnklakaaW.PrintWords Go.Proofs.YtkfloghdnklakaaW.PrintLast Go.Proofs.YtkfloghdnklakaaW.PrintMore
attribute [local go_sem] max2_int min2_int max_two min_two max_three min_three max_four min_four   -- for this text's walks alone
set_option linter.unusedVariables false
set_option linter.unusedSimpArgs false

/-! ### lockgatelaw13_LayoutApart: function 3 -/
mutual
def lockgatelaw13_LayoutApart.j0 : Nat → Int → Int → Bool → Int → Option (Bool)
  | 0, _, _, _, _ => none
  | k + 1, x1, x2, x7, x8 => (layout_New.f k x8 x1).bind fun bt133 => (if bt133.2.2.2.2 = 0 then (lockgatelaw13_LayoutApart.j1 k x2 x7 x8 (x8 == 0) bt133.1 bt133.2.1 bt133.2.2.1 bt133.2.2.2.1) else (lockgatelaw13_LayoutApart.j1 k x2 x7 x8 true bt133.1 bt133.2.1 bt133.2.2.1 bt133.2.2.2.1))
def lockgatelaw13_LayoutApart.j1 : Nat → Int → Bool → Int → Bool → Int → Int → Int → Int → Option (Bool)
  | 0, _, _, _, _, _, _, _, _ => none
  | k + 1, x2, x7, x8, x36, x139000, x139001, x139002, x139003 => if x36 = true then (some x7) else (if x8 = 0 then (none) else (if (Int.tmod x2 x8) < 0 then (lockgatelaw13_LayoutApart.j2 k x7 (wrap64 (-(Int.tmod x2 x8))) x139000 x139001 x139002 x139003) else (lockgatelaw13_LayoutApart.j2 k x7 (Int.tmod x2 x8) x139000 x139001 x139002 x139003)))
def lockgatelaw13_LayoutApart.j2 : Nat → Bool → Int → Int → Int → Int → Int → Option (Bool)
  | 0, _, _, _, _, _, _ => none
  | k + 1, x7, x11, x139000, x139001, x139002, x139003 => if x11 < 2 then (lockgatelaw13_LayoutApart.j3 k x7 x11 (0 + 1) x139000 x139001 x139002 x139003) else (lockgatelaw13_LayoutApart.j3 k x7 x11 0 x139000 x139001 x139002 x139003)
def lockgatelaw13_LayoutApart.j3 : Nat → Bool → Int → Int → Int → Int → Int → Int → Option (Bool)
  | 0, _, _, _, _, _, _, _ => none
  | k + 1, x7, x11, x12, x139000, x139001, x139002, x139003 => lockgatelaw13_LayoutApart.l0 k x7 x11 x12 0 x139000 x139001 x139002 x139003
def lockgatelaw13_LayoutApart.l0 : Nat → Bool → Int → Int → Int → Int → Int → Int → Int → Option (Bool)
  | 0, _, _, _, _, _, _, _, _ => none
  | k + 1, x7, x11, x12, x13, x139000, x139001, x139002, x139003 => if x13 < x139001 then ((layout_Journal.f k x139000 x139001 x139002 x139003 x13).bind fun t139 => (if x11 ≥ t139 then (if x11 < (wrap64 (t139 + 40)) then (lockgatelaw13_LayoutApart.l0 k x7 x11 (wrap64 (x12 + 1)) (wrap64 (x13 + 1)) x139000 x139001 x139002 x139003) else (lockgatelaw13_LayoutApart.l0 k x7 x11 x12 (wrap64 (x13 + 1)) x139000 x139001 x139002 x139003)) else (lockgatelaw13_LayoutApart.l0 k x7 x11 x12 (wrap64 (x13 + 1)) x139000 x139001 x139002 x139003))) else ((layout_Zone.f k x139000 x139001 x139002 x139003 x11).bind fun t140 => ((layout_Place.f k x139000 x139001 x139002 x139003 x11).bind fun t141 => (if t140 ≥ 0 then (if t141 < 0 then (lockgatelaw13_LayoutApart.j5 k x7 x11 (wrap64 (x12 + 1)) true x139000 x139001 x139002 x139003) else (if t141 ≥ x139003 then (lockgatelaw13_LayoutApart.j5 k x7 x11 (wrap64 (x12 + 1)) true x139000 x139001 x139002 x139003) else ((layout_Begin.f k x139000 x139001 x139002 x139003 t140).bind fun t142 => (if (wrap64 (t142 + t141)) = x11 then ((layout_Root.f k x139000 x139001 x139002 x139003 t140).bind fun t143 => (lockgatelaw13_LayoutApart.j5 k x7 x11 (wrap64 (x12 + 1)) ((t141 == 1) != (t143 == x11)) x139000 x139001 x139002 x139003)) else (lockgatelaw13_LayoutApart.j5 k x7 x11 (wrap64 (x12 + 1)) true x139000 x139001 x139002 x139003))))) else (if t141 = (-1) then (if x11 ≥ (wrap64 (x139002 + (wrap64 (4 * x139003)))) then (if x7 = true then (some (x12 == 0)) else (some false)) else (if x7 = true then (some (x12 == 1)) else (some false))) else (some false)))))
def lockgatelaw13_LayoutApart.j5 : Nat → Bool → Int → Int → Bool → Int → Int → Int → Int → Option (Bool)
  | 0, _, _, _, _, _, _, _, _ => none
  | k + 1, x7, x11, x12, x105, x139000, x139001, x139002, x139003 => if x105 = true then (some false) else (if x11 ≥ (wrap64 (x139002 + (wrap64 (4 * x139003)))) then (if x7 = true then (some (x12 == 0)) else (some false)) else (if x7 = true then (some (x12 == 1)) else (some false)))
end
def lockgatelaw13_LayoutApart.f (k : Nat) (a0 : Int) (a1 : Int) (a2 : Int) : Option (Bool) := (lockgatelaw13_awake.f k).bind fun t132 => (if (Int.tmod a0 1001) < 0 then (lockgatelaw13_LayoutApart.j0 k a1 a2 t132 (wrap64 (-(Int.tmod a0 1001)))) else (lockgatelaw13_LayoutApart.j0 k a1 a2 t132 (Int.tmod a0 1001)))
theorem lockgatelaw13_LayoutApart.mono_l : ∀ k, (∀ y0 y1 y2 y3, LeO (lockgatelaw13_LayoutApart.j0 k y0 y1 y2 y3) (lockgatelaw13_LayoutApart.j0 (k + 1) y0 y1 y2 y3)) ∧ (∀ y0 y1 y2 y3 y4 y5 y6 y7, LeO (lockgatelaw13_LayoutApart.j1 k y0 y1 y2 y3 y4 y5 y6 y7) (lockgatelaw13_LayoutApart.j1 (k + 1) y0 y1 y2 y3 y4 y5 y6 y7)) ∧ (∀ y0 y1 y2 y3 y4 y5, LeO (lockgatelaw13_LayoutApart.j2 k y0 y1 y2 y3 y4 y5) (lockgatelaw13_LayoutApart.j2 (k + 1) y0 y1 y2 y3 y4 y5)) ∧ (∀ y0 y1 y2 y3 y4 y5 y6, LeO (lockgatelaw13_LayoutApart.j3 k y0 y1 y2 y3 y4 y5 y6) (lockgatelaw13_LayoutApart.j3 (k + 1) y0 y1 y2 y3 y4 y5 y6)) ∧ (∀ y0 y1 y2 y3 y4 y5 y6 y7, LeO (lockgatelaw13_LayoutApart.l0 k y0 y1 y2 y3 y4 y5 y6 y7) (lockgatelaw13_LayoutApart.l0 (k + 1) y0 y1 y2 y3 y4 y5 y6 y7)) ∧ (∀ y0 y1 y2 y3 y4 y5 y6 y7, LeO (lockgatelaw13_LayoutApart.j5 k y0 y1 y2 y3 y4 y5 y6 y7) (lockgatelaw13_LayoutApart.j5 (k + 1) y0 y1 y2 y3 y4 y5 y6 y7))
  | 0 => ⟨fun _ _ _ _ r h => by simp [lockgatelaw13_LayoutApart.j0] at h, fun _ _ _ _ _ _ _ _ r h => by simp [lockgatelaw13_LayoutApart.j1] at h, fun _ _ _ _ _ _ r h => by simp [lockgatelaw13_LayoutApart.j2] at h, fun _ _ _ _ _ _ _ r h => by simp [lockgatelaw13_LayoutApart.j3] at h, fun _ _ _ _ _ _ _ _ r h => by simp [lockgatelaw13_LayoutApart.l0] at h, fun _ _ _ _ _ _ _ _ r h => by simp [lockgatelaw13_LayoutApart.j5] at h⟩
  | k + 1 => by
    obtain ⟨ih0, ih1, ih2, ih3, ih4, ih5⟩ := lockgatelaw13_LayoutApart.mono_l k
    refine ⟨?_, ?_, ?_, ?_, ?_, ?_⟩
    · intro y0 y1 y2 y3
      unfold lockgatelaw13_LayoutApart.j0
      repeat' first
      | (with_reducible exact ih0 _ _ _ _)
      | (with_reducible exact ih1 _ _ _ _ _ _ _ _)
      | (with_reducible exact ih2 _ _ _ _ _ _)
      | (with_reducible exact ih3 _ _ _ _ _ _ _)
      | (with_reducible exact ih4 _ _ _ _ _ _ _ _)
      | (with_reducible exact ih5 _ _ _ _ _ _ _ _)
      | (with_reducible exact layout_Begin.mono _ _ _ _ _ _)
      | (with_reducible exact layout_Journal.mono _ _ _ _ _ _)
      | (with_reducible exact layout_New.mono _ _ _)
      | (with_reducible exact layout_Place.mono _ _ _ _ _ _)
      | (with_reducible exact layout_Root.mono _ _ _ _ _ _)
      | (with_reducible exact layout_Zone.mono _ _ _ _ _ _)
      | (with_reducible exact lockgatelaw13_awake.mono _)
      | (with_reducible exact LeO.refl _)
      | (with_reducible exact LeO.none _)
      | (with_reducible refine LeO.ite ?_ ?_)
      | (with_reducible refine LeO.bind ?_ (fun _ => ?_))
      | exact ih0 _ _ _ _
      | exact ih1 _ _ _ _ _ _ _ _
      | exact ih2 _ _ _ _ _ _
      | exact ih3 _ _ _ _ _ _ _
      | exact ih4 _ _ _ _ _ _ _ _
      | exact ih5 _ _ _ _ _ _ _ _
      | exact layout_Begin.mono _ _ _ _ _ _
      | exact layout_Journal.mono _ _ _ _ _ _
      | exact layout_New.mono _ _ _
      | exact layout_Place.mono _ _ _ _ _ _
      | exact layout_Root.mono _ _ _ _ _ _
      | exact layout_Zone.mono _ _ _ _ _ _
      | exact lockgatelaw13_awake.mono _
      | exact LeO.none _
      | refine LeO.ite ?_ ?_
      | refine LeO.bind ?_ (fun _ => ?_)
    · intro y0 y1 y2 y3 y4 y5 y6 y7
      unfold lockgatelaw13_LayoutApart.j1
      repeat' first
      | (with_reducible exact ih0 _ _ _ _)
      | (with_reducible exact ih1 _ _ _ _ _ _ _ _)
      | (with_reducible exact ih2 _ _ _ _ _ _)
      | (with_reducible exact ih3 _ _ _ _ _ _ _)
      | (with_reducible exact ih4 _ _ _ _ _ _ _ _)
      | (with_reducible exact ih5 _ _ _ _ _ _ _ _)
      | (with_reducible exact layout_Begin.mono _ _ _ _ _ _)
      | (with_reducible exact layout_Journal.mono _ _ _ _ _ _)
      | (with_reducible exact layout_New.mono _ _ _)
      | (with_reducible exact layout_Place.mono _ _ _ _ _ _)
      | (with_reducible exact layout_Root.mono _ _ _ _ _ _)
      | (with_reducible exact layout_Zone.mono _ _ _ _ _ _)
      | (with_reducible exact lockgatelaw13_awake.mono _)
      | (with_reducible exact LeO.refl _)
      | (with_reducible exact LeO.none _)
      | (with_reducible refine LeO.ite ?_ ?_)
      | (with_reducible refine LeO.bind ?_ (fun _ => ?_))
      | exact ih0 _ _ _ _
      | exact ih1 _ _ _ _ _ _ _ _
      | exact ih2 _ _ _ _ _ _
      | exact ih3 _ _ _ _ _ _ _
      | exact ih4 _ _ _ _ _ _ _ _
      | exact ih5 _ _ _ _ _ _ _ _
      | exact layout_Begin.mono _ _ _ _ _ _
      | exact layout_Journal.mono _ _ _ _ _ _
      | exact layout_New.mono _ _ _
      | exact layout_Place.mono _ _ _ _ _ _
      | exact layout_Root.mono _ _ _ _ _ _
      | exact layout_Zone.mono _ _ _ _ _ _
      | exact lockgatelaw13_awake.mono _
      | exact LeO.none _
      | refine LeO.ite ?_ ?_
      | refine LeO.bind ?_ (fun _ => ?_)
    · intro y0 y1 y2 y3 y4 y5
      unfold lockgatelaw13_LayoutApart.j2
      repeat' first
      | (with_reducible exact ih0 _ _ _ _)
      | (with_reducible exact ih1 _ _ _ _ _ _ _ _)
      | (with_reducible exact ih2 _ _ _ _ _ _)
      | (with_reducible exact ih3 _ _ _ _ _ _ _)
      | (with_reducible exact ih4 _ _ _ _ _ _ _ _)
      | (with_reducible exact ih5 _ _ _ _ _ _ _ _)
      | (with_reducible exact layout_Begin.mono _ _ _ _ _ _)
      | (with_reducible exact layout_Journal.mono _ _ _ _ _ _)
      | (with_reducible exact layout_New.mono _ _ _)
      | (with_reducible exact layout_Place.mono _ _ _ _ _ _)
      | (with_reducible exact layout_Root.mono _ _ _ _ _ _)
      | (with_reducible exact layout_Zone.mono _ _ _ _ _ _)
      | (with_reducible exact lockgatelaw13_awake.mono _)
      | (with_reducible exact LeO.refl _)
      | (with_reducible exact LeO.none _)
      | (with_reducible refine LeO.ite ?_ ?_)
      | (with_reducible refine LeO.bind ?_ (fun _ => ?_))
      | exact ih0 _ _ _ _
      | exact ih1 _ _ _ _ _ _ _ _
      | exact ih2 _ _ _ _ _ _
      | exact ih3 _ _ _ _ _ _ _
      | exact ih4 _ _ _ _ _ _ _ _
      | exact ih5 _ _ _ _ _ _ _ _
      | exact layout_Begin.mono _ _ _ _ _ _
      | exact layout_Journal.mono _ _ _ _ _ _
      | exact layout_New.mono _ _ _
      | exact layout_Place.mono _ _ _ _ _ _
      | exact layout_Root.mono _ _ _ _ _ _
      | exact layout_Zone.mono _ _ _ _ _ _
      | exact lockgatelaw13_awake.mono _
      | exact LeO.none _
      | refine LeO.ite ?_ ?_
      | refine LeO.bind ?_ (fun _ => ?_)
    · intro y0 y1 y2 y3 y4 y5 y6
      unfold lockgatelaw13_LayoutApart.j3
      repeat' first
      | (with_reducible exact ih0 _ _ _ _)
      | (with_reducible exact ih1 _ _ _ _ _ _ _ _)
      | (with_reducible exact ih2 _ _ _ _ _ _)
      | (with_reducible exact ih3 _ _ _ _ _ _ _)
      | (with_reducible exact ih4 _ _ _ _ _ _ _ _)
      | (with_reducible exact ih5 _ _ _ _ _ _ _ _)
      | (with_reducible exact layout_Begin.mono _ _ _ _ _ _)
      | (with_reducible exact layout_Journal.mono _ _ _ _ _ _)
      | (with_reducible exact layout_New.mono _ _ _)
      | (with_reducible exact layout_Place.mono _ _ _ _ _ _)
      | (with_reducible exact layout_Root.mono _ _ _ _ _ _)
      | (with_reducible exact layout_Zone.mono _ _ _ _ _ _)
      | (with_reducible exact lockgatelaw13_awake.mono _)
      | (with_reducible exact LeO.refl _)
      | (with_reducible exact LeO.none _)
      | (with_reducible refine LeO.ite ?_ ?_)
      | (with_reducible refine LeO.bind ?_ (fun _ => ?_))
      | exact ih0 _ _ _ _
      | exact ih1 _ _ _ _ _ _ _ _
      | exact ih2 _ _ _ _ _ _
      | exact ih3 _ _ _ _ _ _ _
      | exact ih4 _ _ _ _ _ _ _ _
      | exact ih5 _ _ _ _ _ _ _ _
      | exact layout_Begin.mono _ _ _ _ _ _
      | exact layout_Journal.mono _ _ _ _ _ _
      | exact layout_New.mono _ _ _
      | exact layout_Place.mono _ _ _ _ _ _
      | exact layout_Root.mono _ _ _ _ _ _
      | exact layout_Zone.mono _ _ _ _ _ _
      | exact lockgatelaw13_awake.mono _
      | exact LeO.none _
      | refine LeO.ite ?_ ?_
      | refine LeO.bind ?_ (fun _ => ?_)
    · intro y0 y1 y2 y3 y4 y5 y6 y7
      unfold lockgatelaw13_LayoutApart.l0
      repeat' first
      | (with_reducible exact ih0 _ _ _ _)
      | (with_reducible exact ih1 _ _ _ _ _ _ _ _)
      | (with_reducible exact ih2 _ _ _ _ _ _)
      | (with_reducible exact ih3 _ _ _ _ _ _ _)
      | (with_reducible exact ih4 _ _ _ _ _ _ _ _)
      | (with_reducible exact ih5 _ _ _ _ _ _ _ _)
      | (with_reducible exact layout_Begin.mono _ _ _ _ _ _)
      | (with_reducible exact layout_Journal.mono _ _ _ _ _ _)
      | (with_reducible exact layout_New.mono _ _ _)
      | (with_reducible exact layout_Place.mono _ _ _ _ _ _)
      | (with_reducible exact layout_Root.mono _ _ _ _ _ _)
      | (with_reducible exact layout_Zone.mono _ _ _ _ _ _)
      | (with_reducible exact lockgatelaw13_awake.mono _)
      | (with_reducible exact LeO.refl _)
      | (with_reducible exact LeO.none _)
      | (with_reducible refine LeO.ite ?_ ?_)
      | (with_reducible refine LeO.bind ?_ (fun _ => ?_))
      | exact ih0 _ _ _ _
      | exact ih1 _ _ _ _ _ _ _ _
      | exact ih2 _ _ _ _ _ _
      | exact ih3 _ _ _ _ _ _ _
      | exact ih4 _ _ _ _ _ _ _ _
      | exact ih5 _ _ _ _ _ _ _ _
      | exact layout_Begin.mono _ _ _ _ _ _
      | exact layout_Journal.mono _ _ _ _ _ _
      | exact layout_New.mono _ _ _
      | exact layout_Place.mono _ _ _ _ _ _
      | exact layout_Root.mono _ _ _ _ _ _
      | exact layout_Zone.mono _ _ _ _ _ _
      | exact lockgatelaw13_awake.mono _
      | exact LeO.none _
      | refine LeO.ite ?_ ?_
      | refine LeO.bind ?_ (fun _ => ?_)
    · intro y0 y1 y2 y3 y4 y5 y6 y7
      unfold lockgatelaw13_LayoutApart.j5
      repeat' first
      | (with_reducible exact ih0 _ _ _ _)
      | (with_reducible exact ih1 _ _ _ _ _ _ _ _)
      | (with_reducible exact ih2 _ _ _ _ _ _)
      | (with_reducible exact ih3 _ _ _ _ _ _ _)
      | (with_reducible exact ih4 _ _ _ _ _ _ _ _)
      | (with_reducible exact ih5 _ _ _ _ _ _ _ _)
      | (with_reducible exact layout_Begin.mono _ _ _ _ _ _)
      | (with_reducible exact layout_Journal.mono _ _ _ _ _ _)
      | (with_reducible exact layout_New.mono _ _ _)
      | (with_reducible exact layout_Place.mono _ _ _ _ _ _)
      | (with_reducible exact layout_Root.mono _ _ _ _ _ _)
      | (with_reducible exact layout_Zone.mono _ _ _ _ _ _)
      | (with_reducible exact lockgatelaw13_awake.mono _)
      | (with_reducible exact LeO.refl _)
      | (with_reducible exact LeO.none _)
      | (with_reducible refine LeO.ite ?_ ?_)
      | (with_reducible refine LeO.bind ?_ (fun _ => ?_))
      | exact ih0 _ _ _ _
      | exact ih1 _ _ _ _ _ _ _ _
      | exact ih2 _ _ _ _ _ _
      | exact ih3 _ _ _ _ _ _ _
      | exact ih4 _ _ _ _ _ _ _ _
      | exact ih5 _ _ _ _ _ _ _ _
      | exact layout_Begin.mono _ _ _ _ _ _
      | exact layout_Journal.mono _ _ _ _ _ _
      | exact layout_New.mono _ _ _
      | exact layout_Place.mono _ _ _ _ _ _
      | exact layout_Root.mono _ _ _ _ _ _
      | exact layout_Zone.mono _ _ _ _ _ _
      | exact lockgatelaw13_awake.mono _
      | exact LeO.none _
      | refine LeO.ite ?_ ?_
      | refine LeO.bind ?_ (fun _ => ?_)
theorem lockgatelaw13_LayoutApart.mono : ∀ a0 a1 a2 k, LeO (lockgatelaw13_LayoutApart.f k a0 a1 a2) (lockgatelaw13_LayoutApart.f (k + 1) a0 a1 a2) := by
  intro a0 a1 a2 k
  obtain ⟨ih0, ih1, ih2, ih3, ih4, ih5⟩ := lockgatelaw13_LayoutApart.mono_l k
  unfold lockgatelaw13_LayoutApart.f
  repeat' first
      | (with_reducible exact ih0 _ _ _ _)
      | (with_reducible exact ih1 _ _ _ _ _ _ _ _)
      | (with_reducible exact ih2 _ _ _ _ _ _)
      | (with_reducible exact ih3 _ _ _ _ _ _ _)
      | (with_reducible exact ih4 _ _ _ _ _ _ _ _)
      | (with_reducible exact ih5 _ _ _ _ _ _ _ _)
      | (with_reducible exact layout_Begin.mono _ _ _ _ _ _)
      | (with_reducible exact layout_Journal.mono _ _ _ _ _ _)
      | (with_reducible exact layout_New.mono _ _ _)
      | (with_reducible exact layout_Place.mono _ _ _ _ _ _)
      | (with_reducible exact layout_Root.mono _ _ _ _ _ _)
      | (with_reducible exact layout_Zone.mono _ _ _ _ _ _)
      | (with_reducible exact lockgatelaw13_awake.mono _)
      | (with_reducible exact LeO.refl _)
      | (with_reducible exact LeO.none _)
      | (with_reducible refine LeO.ite ?_ ?_)
      | (with_reducible refine LeO.bind ?_ (fun _ => ?_))
      | exact ih0 _ _ _ _
      | exact ih1 _ _ _ _ _ _ _ _
      | exact ih2 _ _ _ _ _ _
      | exact ih3 _ _ _ _ _ _ _
      | exact ih4 _ _ _ _ _ _ _ _
      | exact ih5 _ _ _ _ _ _ _ _
      | exact layout_Begin.mono _ _ _ _ _ _
      | exact layout_Journal.mono _ _ _ _ _ _
      | exact layout_New.mono _ _ _
      | exact layout_Place.mono _ _ _ _ _ _
      | exact layout_Root.mono _ _ _ _ _ _
      | exact layout_Zone.mono _ _ _ _ _ _
      | exact lockgatelaw13_awake.mono _
      | exact LeO.none _
      | refine LeO.ite ?_ ?_
      | refine LeO.bind ?_ (fun _ => ?_)
set_option maxHeartbeats 8000000 in
set_option maxRecDepth 100000 in
theorem lockgatelaw13_LayoutApart.calls (k : Nat) (a0 : Int) (a1 : Int) (a2 : Int) (r : Bool) (w : World) (h : lockgatelaw13_LayoutApart.f k a0 a1 a2 = some r) :
    Calls Try.prog 3 #[.int .i64 a0, .int .i64 a1, .int .i64 a2] w fun e w' => e = .returned (.bool r) ∧ Below w.heap.size w w' := by
  have hu24 := Try.underlying24
  have HB := Aside0.mk (Below.refl w.heap.size w)
  have H : ((lockgatelaw13_awake.f k).bind fun t132 => (if (Int.tmod a0 1001) < 0 then (lockgatelaw13_LayoutApart.j0 k a1 a2 t132 (wrap64 (-(Int.tmod a0 1001)))) else (lockgatelaw13_LayoutApart.j0 k a1 a2 t132 (Int.tmod a0 1001)))) = some r := h
  clear h
  replace H := Option.bind_eq_some_iff.mp H
  obtain ⟨t132, A40, H⟩ := H
  replace H : (if (Int.tmod a0 1001) < 0 then (lockgatelaw13_LayoutApart.j0 k a1 a2 t132 (wrap64 (-(Int.tmod a0 1001)))) else (lockgatelaw13_LayoutApart.j0 k a1 a2 t132 (Int.tmod a0 1001))) = some r := H
  have A4 := Aside0.mk A40
  clear A40
  have HC5 := Aside0.mk H
  clear H
  go_enter Try.func3, Try.ntmps3
  go_upto_if 22 with (first | ((with_reducible refine gate_callee (f := 8) rfl ?_); refine goesL_ (some 18) rfl rfl Try.func8 (by kernel_rfl) rfl #[] rfl (by (try simp only [List.map_toArray, List.map_cons, List.map_nil]); first | done | rfl | (simp only [List.length_drop, List.length_take]; rfl)) ?_; (with_reducible refine (lockgatelaw13_awake.calls k  t132 _ A4.out).mono ?_); rintro e w6 ⟨rfl, hb⟩; refine ⟨_, rfl, ?_⟩; have n0_ := Aside0.mk (below_step (by repeat (first | (with_reducible first | exact HB.out | apply below_alloc | apply pw_below_drewN | apply below_drew1) | exact HB.out)) hb); clear HB; have HB := n0_; clear n0_; (try clear hb); (try clear hb2); (try clear hk); (try clear hi)))
  (try simp only [Act.put, List.setIfInBounds_toArray, List.set_cons_zero, List.set_cons_succ])
  go_cut [8] (fun v8 wc => ∃ (kq : Nat) (x8_4 : Int), v8 = .int .i64 x8_4 ∧ Aside0 (lockgatelaw13_LayoutApart.j0 kq a1 a2 t132 x8_4 = some r) ∧ Aside0 (kq ≤ k) ∧ Aside0 (Below w.heap.size w wc))
  case first =>
    have H := HC5.out
    clear HC5
    by_cases c7 : (Int.tmod a0 1001) < 0
    · rw [if_pos c7] at H
      have c7b0 : decide ((Int.tmod a0 1001) < 0) = true := decide_eq_true c7
      clear c7
      (first | rw [c7b0] | (simp only [i64_w, i32_w]; rw [c7b0]) | skip)
      have H' := Aside0.mk H
      clear H
      go_wp2
      go_meet
      case rel => exact ⟨_, (wrap64 (-(Int.tmod a0 1001))), (by first | rfl | (simp; done) | (simp [*]; done)), H', ⟨by first | omega | exact Nat.le_refl _⟩, ⟨by repeat (first | (with_reducible first | exact HB.out | apply below_alloc | apply pw_below_drewN | apply below_drew1) | exact HB.out)⟩⟩
    · rw [if_neg c7] at H
      have c7b0 : decide ((Int.tmod a0 1001) < 0) = false := decide_eq_false c7
      clear c7
      (first | rw [c7b0] | (simp only [i64_w, i32_w]; rw [c7b0]) | skip)
      have H' := Aside0.mk H
      clear H
      go_wp2
      go_meet
      case rel => exact ⟨_, (Int.tmod a0 1001), (by first | rfl | (simp; done) | (simp [*]; done)), H', ⟨by first | omega | exact Nat.le_refl _⟩, ⟨by repeat (first | (with_reducible first | exact HB.out | apply below_alloc | apply pw_below_drewN | apply below_drew1) | exact HB.out)⟩⟩
  case rest =>
    clear HC5
    try clear p2
    try clear c3
    try clear p6
    try clear c7
    try clear c7b0
    obtain ⟨kq, x8_4, rfl, HA, HJ4, HB⟩ := hcut
    cases kq with
    | zero => exact absurd HA.out (by simp [lockgatelaw13_LayoutApart.j0])
    | succ kj4 =>
      have H := HA.out
      clear HA
      simp only [lockgatelaw13_LayoutApart.j0] at H
      replace H := Option.bind_eq_some_iff.mp H
      obtain ⟨⟨t133, t134, t135, t136, t137⟩, A80, H⟩ := H
      replace H : (if t137 = 0 then (lockgatelaw13_LayoutApart.j1 kj4 a2 t132 x8_4 (x8_4 == 0) t133 t134 t135 t136) else (lockgatelaw13_LayoutApart.j1 kj4 a2 t132 x8_4 true t133 t134 t135 t136)) = some r := H
      have A8 := Aside0.mk A80
      clear A80
      have HC9 := Aside0.mk H
      clear H
      go_upto_region 6 with (first | ((with_reducible refine gate_callee (f := 9) rfl ?_); refine goesL_ (some 28) rfl rfl Try.func9 (by kernel_rfl) rfl #[.int .i64 x8_4, .int .i64 a1] rfl (by (try simp only [List.map_toArray, List.map_cons, List.map_nil]); first | done | rfl | (simp only [List.length_drop, List.length_take]; rfl)) ?_; (with_reducible refine (layout_New.calls kj4 x8_4 a1 t133 t134 t135 t136 t137 _ A8.out).mono ?_); rintro e w10 ⟨rfl, hb⟩; refine ⟨_, rfl, ?_⟩; have n0_ := Aside0.mk (below_step (by repeat (first | (with_reducible first | exact HB.out | apply below_alloc | apply pw_below_drewN | apply below_drew1) | exact HB.out)) hb); clear HB; have HB := n0_; clear n0_; (try clear hb); (try clear hb2); (try clear hk); (try clear hi)) | ((with_reducible refine gate_dst (N := 9) rfl ?_); refine box_event ?hg (N := 9) ?hd (cs := #[.int .i64 0, .int .i64 0, .int .i64 0, .int .i64 0]) (t := 24) ?hr ?_; (case hd => rfl); (case hg => rfl); (case hr => first | (go_simp; done) | (go_simp; rfl)); intro gb138 hg w11 hbox hb; have n0_ := Aside0.mk (below_step (by repeat (first | (with_reducible first | exact HB.out | apply below_alloc | apply pw_below_drewN | apply below_drew1) | exact HB.out)) hb); have n1_ := Aside0.mk (hbox); have n2_ := Aside0.mk ((by rw [hg]; exact (below_size (by repeat (first | (with_reducible first | exact HB.out | apply below_alloc | apply pw_below_drewN | apply below_drew1) | exact HB.out))) : w.heap.size ≤ gb138)); have n3_ := Aside0.mk ((by rw [hg]; exact (below_size (by repeat (first | (with_reducible first | exact HB.out | apply below_alloc | apply pw_below_drewN | apply below_drew1) | exact HB.out))) : w.heap.size ≤ gb138)); clear HB; have HB := n0_; have BK138 := n1_; have GW138 := n2_; have GE138 := n3_; clear n0_ n1_ n2_ n3_; clear hb hbox hg; have hcz12_0 : w11.cell? ⟨gb138, 0, none⟩ = some (.int .i64 0) := (blk_cell BK138.out 0).trans rfl; have hcz12_1 : w11.cell? ⟨gb138, 1, none⟩ = some (.int .i64 0) := (blk_cell BK138.out 1).trans rfl; have hcz12_2 : w11.cell? ⟨gb138, 2, none⟩ = some (.int .i64 0) := (blk_cell BK138.out 2).trans rfl; have hcz12_3 : w11.cell? ⟨gb138, 3, none⟩ = some (.int .i64 0) := (blk_cell BK138.out 3).trans rfl; have hfz12_0 := blk_frozen BK138.out 0; have hfz12_1 := blk_frozen BK138.out 1; have hfz12_2 := blk_frozen BK138.out 2; have hfz12_3 := blk_frozen BK138.out 3))
      (try simp only [Act.put, List.setIfInBounds_toArray, List.set_cons_zero, List.set_cons_succ])
      go_cut [36] (fun v36 wc => ∃ (kq : Nat) (x36_8 : Bool), v36 = .bool x36_8 ∧ Aside0 (lockgatelaw13_LayoutApart.j1 kq a2 t132 x8_4 x36_8 t133 t134 t135 t136 = some r) ∧ Aside0 (kq ≤ kj4) ∧ Aside0 (wc.heap[gb138]? = some (.cells #[.int .i64 t133, .int .i64 t134, .int .i64 t135, .int .i64 t136] 24 (0, 0))) ∧ Aside0 (Below w.heap.size w wc))
      case first =>
        have H := HC9.out
        clear HC9
        by_cases c13 : t137 = 0
        · rw [if_pos c13] at H
          have c13b0 : (t137 == 0) = true := beq_iff_eq.mpr c13
          have c13b1 : (t137 != 0) = false := bne_eq_false_iff_eq.mpr c13
          clear c13
          (first | rw [c13b0] | (simp only [i64_w, i32_w]; rw [c13b0]) | skip)
          have H' := Aside0.mk H
          clear H
          go_wp2
          go_meet
          case rel => exact ⟨_, ((x8_4 == 0)), (by first | rfl | (simp; done) | (simp [*]; done)), H', ⟨by have := HJ4.out; first | omega | exact Nat.le_refl _⟩, ⟨by (with_reducible repeat (first | refine blk_drewN ?_ _ | refine blk_drew ?_ | refine blk_alloc ?_ _)); refine blk_put (cs := #[.int .i64 t133, .int .i64 t134, .int .i64 t135, .int .i64 0]) ?_ 3 _ rfl; (with_reducible repeat (first | refine blk_drewN ?_ _ | refine blk_drew ?_ | refine blk_alloc ?_ _)); refine blk_put (cs := #[.int .i64 t133, .int .i64 t134, .int .i64 0, .int .i64 0]) ?_ 2 _ rfl; (with_reducible repeat (first | refine blk_drewN ?_ _ | refine blk_drew ?_ | refine blk_alloc ?_ _)); refine blk_put (cs := #[.int .i64 t133, .int .i64 0, .int .i64 0, .int .i64 0]) ?_ 1 _ rfl; (with_reducible repeat (first | refine blk_drewN ?_ _ | refine blk_drew ?_ | refine blk_alloc ?_ _)); refine blk_put (cs := #[.int .i64 0, .int .i64 0, .int .i64 0, .int .i64 0]) ?_ 0 _ rfl; (with_reducible repeat (first | refine blk_drewN ?_ _ | refine blk_drew ?_ | refine blk_alloc ?_ _)); exact BK138.out⟩, ⟨by repeat (first | (with_reducible first | exact HB.out | apply below_alloc | apply pw_below_drewN | apply below_drew1 | refine below_set ?_ GE138.out) | exact HB.out)⟩⟩
        · rw [if_neg c13] at H
          have c13b0 : (t137 == 0) = false := beq_eq_false_iff_ne.mpr c13
          have c13b1 : (t137 != 0) = true := bne_iff_ne.mpr c13
          (first | rw [c13b0] | (simp only [i64_w, i32_w]; rw [c13b0]) | skip)
          have H' := Aside0.mk H
          clear H
          go_wp2
          go_meet
          case rel => exact ⟨_, (true), (by first | rfl | (simp; done) | (simp [*]; done)), H', ⟨by have := HJ4.out; first | omega | exact Nat.le_refl _⟩, ⟨by (with_reducible repeat (first | refine blk_drewN ?_ _ | refine blk_drew ?_ | refine blk_alloc ?_ _)); refine blk_put (cs := #[.int .i64 t133, .int .i64 t134, .int .i64 t135, .int .i64 0]) ?_ 3 _ rfl; (with_reducible repeat (first | refine blk_drewN ?_ _ | refine blk_drew ?_ | refine blk_alloc ?_ _)); refine blk_put (cs := #[.int .i64 t133, .int .i64 t134, .int .i64 0, .int .i64 0]) ?_ 2 _ rfl; (with_reducible repeat (first | refine blk_drewN ?_ _ | refine blk_drew ?_ | refine blk_alloc ?_ _)); refine blk_put (cs := #[.int .i64 t133, .int .i64 0, .int .i64 0, .int .i64 0]) ?_ 1 _ rfl; (with_reducible repeat (first | refine blk_drewN ?_ _ | refine blk_drew ?_ | refine blk_alloc ?_ _)); refine blk_put (cs := #[.int .i64 0, .int .i64 0, .int .i64 0, .int .i64 0]) ?_ 0 _ rfl; (with_reducible repeat (first | refine blk_drewN ?_ _ | refine blk_drew ?_ | refine blk_alloc ?_ _)); exact BK138.out⟩, ⟨by repeat (first | (with_reducible first | exact HB.out | apply below_alloc | apply pw_below_drewN | apply below_drew1 | refine below_set ?_ GE138.out) | exact HB.out)⟩⟩
      case rest =>
        clear HC9
        try clear c1
        try clear p2
        try clear c3
        try clear p6
        try clear c7
        try clear c7b0
        try clear c8
        try clear c9
        try clear c13
        try clear c13b0
        try clear c13b1
        try clear hcz12_0
        try clear hcz12_1
        try clear hcz12_2
        try clear hcz12_3
        try clear hfz12_0
        try clear hfz12_1
        try clear hfz12_2
        try clear hfz12_3
        try clear p2
        try clear p6
        obtain ⟨kq, x36_8, rfl, HA, HJ8, BK138, HB⟩ := hcut
        cases kq with
        | zero => exact absurd HA.out (by simp [lockgatelaw13_LayoutApart.j1])
        | succ kj8 =>
          have H := HA.out
          clear HA
          simp only [lockgatelaw13_LayoutApart.j1] at H
          by_cases c14 : x36_8 = true
          · subst c14
            have H1 : (some t132) = some r := by rw [if_pos rfl] at H; exact H
            clear H
            have H := H1
            clear H1
            obtain rfl := Option.some.inj H
            go_wp2
            go_ret
            exact ⟨by first | rfl | (simp [errW_none, errW_some] <;> rfl) | (simp [*, errW_none, errW_some] <;> rfl), by repeat (first | (with_reducible first | exact HB.out | apply below_alloc | apply pw_below_drewN | apply below_drew1 | refine below_set ?_ GE138.out) | exact HB.out)⟩
          · replace c14 := Bool.eq_false_iff.mpr c14
            subst c14
            have H1 : (if x8_4 = 0 then (none) else (if (Int.tmod a2 x8_4) < 0 then (lockgatelaw13_LayoutApart.j2 kj8 t132 (wrap64 (-(Int.tmod a2 x8_4))) t133 t134 t135 t136) else (lockgatelaw13_LayoutApart.j2 kj8 t132 (Int.tmod a2 x8_4) t133 t134 t135 t136))) = some r := by rw [if_neg (show ¬ (false = true) by decide)] at H; exact H
            clear H
            have H := H1
            clear H1
            by_cases c15 : x8_4 = 0
            · rw [if_pos c15] at H
              exact absurd H (by simp)
            · rw [if_neg c15] at H
              have c15b0 : (x8_4 == 0) = false := beq_eq_false_iff_ne.mpr c15
              have c15b1 : (x8_4 != 0) = true := bne_iff_ne.mpr c15
              have HC16 := Aside0.mk H
              clear H
              go_upto_if 42 with (fail)
              go_cut [11] (fun v11 wc => ∃ (kq : Nat) (x11_15 : Int), v11 = .int .i64 x11_15 ∧ Aside0 (lockgatelaw13_LayoutApart.j2 kq t132 x11_15 t133 t134 t135 t136 = some r) ∧ Aside0 (kq ≤ kj8) ∧ Aside0 (wc.heap[gb138]? = some (.cells #[.int .i64 t133, .int .i64 t134, .int .i64 t135, .int .i64 t136] 24 (0, 0))) ∧ Aside0 (Below w.heap.size w wc))
              case first =>
                have H := HC16.out
                clear HC16
                by_cases c17 : (Int.tmod a2 x8_4) < 0
                · rw [if_pos c17] at H
                  have c17b0 : decide ((Int.tmod a2 x8_4) < 0) = true := decide_eq_true c17
                  clear c17
                  (first | rw [c17b0] | (simp only [i64_w, i32_w]; rw [c17b0]) | skip)
                  have H' := Aside0.mk H
                  clear H
                  go_wp2
                  go_meet
                  case rel => exact ⟨_, (wrap64 (-(Int.tmod a2 x8_4))), (by first | rfl | (simp; done) | (simp [*]; done)), H', ⟨by have := HJ4.out; have := HJ8.out; first | omega | exact Nat.le_refl _⟩, ⟨by (with_reducible repeat (first | refine blk_drewN ?_ _ | refine blk_drew ?_ | refine blk_alloc ?_ _)); exact BK138.out⟩, ⟨by repeat (first | (with_reducible first | exact HB.out | apply below_alloc | apply pw_below_drewN | apply below_drew1 | refine below_set ?_ GE138.out) | exact HB.out)⟩⟩
                · rw [if_neg c17] at H
                  have c17b0 : decide ((Int.tmod a2 x8_4) < 0) = false := decide_eq_false c17
                  clear c17
                  (first | rw [c17b0] | (simp only [i64_w, i32_w]; rw [c17b0]) | skip)
                  have H' := Aside0.mk H
                  clear H
                  go_wp2
                  go_meet
                  case rel => exact ⟨_, (Int.tmod a2 x8_4), (by first | rfl | (simp; done) | (simp [*]; done)), H', ⟨by have := HJ4.out; have := HJ8.out; first | omega | exact Nat.le_refl _⟩, ⟨by (with_reducible repeat (first | refine blk_drewN ?_ _ | refine blk_drew ?_ | refine blk_alloc ?_ _)); exact BK138.out⟩, ⟨by repeat (first | (with_reducible first | exact HB.out | apply below_alloc | apply pw_below_drewN | apply below_drew1 | refine below_set ?_ GE138.out) | exact HB.out)⟩⟩
              case rest =>
                clear HC16
                try clear c1
                try clear p2
                try clear c3
                try clear p6
                try clear c7
                try clear c7b0
                try clear c8
                try clear c9
                try clear c13
                try clear c13b0
                try clear c13b1
                try clear c14
                try clear c15
                try clear c15b0
                try clear c15b1
                try clear c17
                try clear c17b0
                try clear hcz12_0
                try clear hcz12_1
                try clear hcz12_2
                try clear hcz12_3
                try clear hfz12_0
                try clear hfz12_1
                try clear hfz12_2
                try clear hfz12_3
                try clear p2
                try clear p6
                obtain ⟨kq, x11_15, rfl, HA, HJ15, BK138, HB⟩ := hcut
                cases kq with
                | zero => exact absurd HA.out (by simp [lockgatelaw13_LayoutApart.j2])
                | succ kj15 =>
                  have H := HA.out
                  clear HA
                  simp only [lockgatelaw13_LayoutApart.j2] at H
                  have HC18 := Aside0.mk H
                  clear H
                  go_upto_if 46 with (fail)
                  go_cut [12] (fun v12 wc => ∃ (kq : Nat) (x12_17 : Int), v12 = .int .i64 x12_17 ∧ Aside0 (lockgatelaw13_LayoutApart.j3 kq t132 x11_15 x12_17 t133 t134 t135 t136 = some r) ∧ Aside0 (kq ≤ kj15) ∧ Aside0 (wc.heap[gb138]? = some (.cells #[.int .i64 t133, .int .i64 t134, .int .i64 t135, .int .i64 t136] 24 (0, 0))) ∧ Aside0 (Below w.heap.size w wc))
                  case first =>
                    have H := HC18.out
                    clear HC18
                    by_cases c19 : x11_15 < 2
                    · rw [if_pos c19] at H
                      have c19b0 : decide (x11_15 < 2) = true := decide_eq_true c19
                      clear c19
                      (first | rw [c19b0] | (simp only [i64_w, i32_w]; rw [c19b0]) | skip)
                      have H' := Aside0.mk H
                      clear H
                      go_wp2
                      go_meet
                      case rel => exact ⟨_, (0 + 1), (by first | rfl | (simp; done) | (simp [*]; done)), H', ⟨by have := HJ4.out; have := HJ8.out; have := HJ15.out; first | omega | exact Nat.le_refl _⟩, ⟨by (with_reducible repeat (first | refine blk_drewN ?_ _ | refine blk_drew ?_ | refine blk_alloc ?_ _)); exact BK138.out⟩, ⟨by repeat (first | (with_reducible first | exact HB.out | apply below_alloc | apply pw_below_drewN | apply below_drew1 | refine below_set ?_ GE138.out) | exact HB.out)⟩⟩
                    · rw [if_neg c19] at H
                      have c19b0 : decide (x11_15 < 2) = false := decide_eq_false c19
                      clear c19
                      (first | rw [c19b0] | (simp only [i64_w, i32_w]; rw [c19b0]) | skip)
                      have H' := Aside0.mk H
                      clear H
                      go_wp2
                      go_meet
                      case rel => exact ⟨_, (0), (by first | rfl | (simp; done) | (simp [*]; done)), H', ⟨by have := HJ4.out; have := HJ8.out; have := HJ15.out; first | omega | exact Nat.le_refl _⟩, ⟨by (with_reducible repeat (first | refine blk_drewN ?_ _ | refine blk_drew ?_ | refine blk_alloc ?_ _)); exact BK138.out⟩, ⟨by repeat (first | (with_reducible first | exact HB.out | apply below_alloc | apply pw_below_drewN | apply below_drew1 | refine below_set ?_ GE138.out) | exact HB.out)⟩⟩
                  case rest =>
                    clear HC18
                    try clear c1
                    try clear p2
                    try clear c3
                    try clear p6
                    try clear c7
                    try clear c7b0
                    try clear c8
                    try clear c9
                    try clear c13
                    try clear c13b0
                    try clear c13b1
                    try clear c14
                    try clear c15
                    try clear c15b0
                    try clear c15b1
                    try clear c17
                    try clear c17b0
                    try clear c19
                    try clear c19b0
                    try clear hcz12_0
                    try clear hcz12_1
                    try clear hcz12_2
                    try clear hcz12_3
                    try clear hfz12_0
                    try clear hfz12_1
                    try clear hfz12_2
                    try clear hfz12_3
                    try clear p2
                    try clear p6
                    obtain ⟨kq, x12_17, rfl, HA, HJ17, BK138, HB⟩ := hcut
                    cases kq with
                    | zero => exact absurd HA.out (by simp [lockgatelaw13_LayoutApart.j3])
                    | succ kj17 =>
                      have H := HA.out
                      clear HA
                      simp only [lockgatelaw13_LayoutApart.j3] at H
                      have H' := Aside0.mk H
                      clear H
                      go_wp2
                      go_loopg [12, 13] kj17 (fun kq v12 v13 w' => ∃ (x12_5 : Int) (x13_5 : Int), v12 = .int .i64 x12_5 ∧ v13 = .int .i64 x13_5 ∧ Aside0 (lockgatelaw13_LayoutApart.l0 kq t132 x11_15 x12_5 x13_5 t133 t134 t135 t136 = some r) ∧ Aside0 (kq ≤ kj17) ∧ Aside0 (w'.heap[gb138]? = some (.cells #[.int .i64 t133, .int .i64 t134, .int .i64 t135, .int .i64 t136] 24 (0, 0))) ∧ Aside0 (Below w.heap.size w w'))
                      case atStart => exact ⟨(x12_17), (0), (by first | rfl | (simp; done) | (simp [*]; done)), (by first | rfl | (simp; done) | (simp [*]; done)), H', ⟨Nat.le_refl _⟩, ⟨by (with_reducible repeat (first | refine blk_drewN ?_ _ | refine blk_drew ?_ | refine blk_alloc ?_ _)); exact BK138.out⟩, ⟨by repeat (first | (with_reducible first | exact HB.out | apply below_alloc | apply pw_below_drewN | apply below_drew1 | refine below_set ?_ GE138.out) | exact HB.out)⟩⟩
                      case round =>
                        clear H'
                        try clear c1
                        try clear p2
                        try clear c3
                        try clear p6
                        try clear c7
                        try clear c7b0
                        try clear c8
                        try clear c9
                        try clear c13
                        try clear c13b0
                        try clear c13b1
                        try clear c14
                        try clear c15
                        try clear c15b0
                        try clear c15b1
                        try clear c17
                        try clear c17b0
                        try clear c19
                        try clear c19b0
                        try clear hcz12_0
                        try clear hcz12_1
                        try clear hcz12_2
                        try clear hcz12_3
                        try clear hfz12_0
                        try clear hfz12_1
                        try clear hfz12_2
                        try clear hfz12_3
                        try clear p2
                        try clear p6
                        obtain ⟨x12_5, x13_5, rfl, rfl, HA, HK5, BK138, HB⟩ := hrel
                        cases gk with
                        | zero => exact absurd HA.out (by simp [lockgatelaw13_LayoutApart.l0])
                        | succ k5 =>
                          have H := HA.out
                          clear HA
                          simp only [lockgatelaw13_LayoutApart.l0] at H
                          by_cases c20 : x13_5 < t134
                          · rw [if_pos c20] at H
                            have c20b0 : decide (x13_5 < t134) = true := decide_eq_true c20
                            clear c20
                            replace H := Option.bind_eq_some_iff.mp H
                            obtain ⟨t139, A210, H⟩ := H
                            replace H : (if x11_15 ≥ t139 then (if x11_15 < (wrap64 (t139 + 40)) then (lockgatelaw13_LayoutApart.l0 k5 t132 x11_15 (wrap64 (x12_5 + 1)) (wrap64 (x13_5 + 1)) t133 t134 t135 t136) else (lockgatelaw13_LayoutApart.l0 k5 t132 x11_15 x12_5 (wrap64 (x13_5 + 1)) t133 t134 t135 t136)) else (lockgatelaw13_LayoutApart.l0 k5 t132 x11_15 x12_5 (wrap64 (x13_5 + 1)) t133 t134 t135 t136)) = some r := H
                            have A21 := Aside0.mk A210
                            clear A210
                            by_cases c22 : x11_15 ≥ t139
                            · rw [if_pos c22] at H
                              have c22b0 : decide (t139 ≤ x11_15) = true := decide_eq_true c22
                              clear c22
                              by_cases c23 : x11_15 < (wrap64 (t139 + 40))
                              · rw [if_pos c23] at H
                                have c23b0 : decide (x11_15 < (wrap64 (t139 + 40))) = true := decide_eq_true c23
                                clear c23
                                have H' := Aside0.mk H
                                clear H
                                have hcz24_0 : wr.cell? ⟨gb138, 0, none⟩ = some (.int .i64 t133) := (blk_cell BK138.out 0).trans rfl
                                have hcz24_1 : wr.cell? ⟨gb138, 1, none⟩ = some (.int .i64 t134) := (blk_cell BK138.out 1).trans rfl
                                have hcz24_2 : wr.cell? ⟨gb138, 2, none⟩ = some (.int .i64 t135) := (blk_cell BK138.out 2).trans rfl
                                have hcz24_3 : wr.cell? ⟨gb138, 3, none⟩ = some (.int .i64 t136) := (blk_cell BK138.out 3).trans rfl
                                have hfz24_0 := blk_frozen BK138.out 0
                                have hfz24_1 := blk_frozen BK138.out 1
                                have hfz24_2 := blk_frozen BK138.out 2
                                have hfz24_3 := blk_frozen BK138.out 3
                                go_wp2_with (first | ((with_reducible refine gate_callee (f := 10) rfl ?_); refine goesL_ (some 57) rfl rfl Try.func10 (by kernel_rfl) rfl #[.agg #[.int .i64 t133, .int .i64 t134, .int .i64 t135, .int .i64 t136], .int .i64 x13_5] rfl (by (try simp only [List.map_toArray, List.map_cons, List.map_nil]); first | done | rfl | (simp only [List.length_drop, List.length_take]; rfl)) ?_; (with_reducible refine (layout_Journal.calls k5 t133 t134 t135 t136 x13_5 t139 _ A21.out).mono ?_); rintro e w25 ⟨rfl, hb⟩; refine ⟨_, rfl, ?_⟩; have n0_ := Aside0.mk (blk_below (g := gb138) (o := .cells #[.int .i64 t133, .int .i64 t134, .int .i64 t135, .int .i64 t136] 24 (0, 0)) (by (with_reducible repeat (first | refine blk_drewN ?_ _ | refine blk_drew ?_ | refine blk_alloc ?_ _)); exact BK138.out) hb); have n1_ := Aside0.mk (below_step (by repeat (first | (with_reducible first | exact HB.out | apply below_alloc | apply pw_below_drewN | apply below_drew1 | refine below_set ?_ GE138.out) | exact HB.out)) hb); clear BK138; clear HB; have BK138 := n0_; have HB := n1_; clear n0_ n1_; (try clear hb); (try clear hb2); (try clear hk); (try clear hi)))
                                go_roundg k5
                                case measure => have := HJ4.out; have := HJ8.out; have := HJ15.out; have := HJ17.out; have := HK5.out; omega
                                case rel => exact ⟨(wrap64 (x12_5 + 1)), (wrap64 (x13_5 + 1)), (by first | rfl | (simp; done) | (simp [*]; done)), (by first | rfl | (simp; done) | (simp [*]; done)), H', ⟨by have := HJ4.out; have := HJ8.out; have := HJ15.out; have := HJ17.out; have := HK5.out; omega⟩, ⟨by (with_reducible repeat (first | refine blk_drewN ?_ _ | refine blk_drew ?_ | refine blk_alloc ?_ _)); exact BK138.out⟩, ⟨by repeat (first | (with_reducible first | exact HB.out | apply below_alloc | apply pw_below_drewN | apply below_drew1 | refine below_set ?_ GE138.out) | exact HB.out)⟩⟩
                              · rw [if_neg c23] at H
                                have c23b0 : decide (x11_15 < (wrap64 (t139 + 40))) = false := decide_eq_false c23
                                clear c23
                                have H' := Aside0.mk H
                                clear H
                                have hcz26_0 : wr.cell? ⟨gb138, 0, none⟩ = some (.int .i64 t133) := (blk_cell BK138.out 0).trans rfl
                                have hcz26_1 : wr.cell? ⟨gb138, 1, none⟩ = some (.int .i64 t134) := (blk_cell BK138.out 1).trans rfl
                                have hcz26_2 : wr.cell? ⟨gb138, 2, none⟩ = some (.int .i64 t135) := (blk_cell BK138.out 2).trans rfl
                                have hcz26_3 : wr.cell? ⟨gb138, 3, none⟩ = some (.int .i64 t136) := (blk_cell BK138.out 3).trans rfl
                                have hfz26_0 := blk_frozen BK138.out 0
                                have hfz26_1 := blk_frozen BK138.out 1
                                have hfz26_2 := blk_frozen BK138.out 2
                                have hfz26_3 := blk_frozen BK138.out 3
                                go_wp2_with (first | ((with_reducible refine gate_callee (f := 10) rfl ?_); refine goesL_ (some 57) rfl rfl Try.func10 (by kernel_rfl) rfl #[.agg #[.int .i64 t133, .int .i64 t134, .int .i64 t135, .int .i64 t136], .int .i64 x13_5] rfl (by (try simp only [List.map_toArray, List.map_cons, List.map_nil]); first | done | rfl | (simp only [List.length_drop, List.length_take]; rfl)) ?_; (with_reducible refine (layout_Journal.calls k5 t133 t134 t135 t136 x13_5 t139 _ A21.out).mono ?_); rintro e w27 ⟨rfl, hb⟩; refine ⟨_, rfl, ?_⟩; have n0_ := Aside0.mk (blk_below (g := gb138) (o := .cells #[.int .i64 t133, .int .i64 t134, .int .i64 t135, .int .i64 t136] 24 (0, 0)) (by (with_reducible repeat (first | refine blk_drewN ?_ _ | refine blk_drew ?_ | refine blk_alloc ?_ _)); exact BK138.out) hb); have n1_ := Aside0.mk (below_step (by repeat (first | (with_reducible first | exact HB.out | apply below_alloc | apply pw_below_drewN | apply below_drew1 | refine below_set ?_ GE138.out) | exact HB.out)) hb); clear BK138; clear HB; have BK138 := n0_; have HB := n1_; clear n0_ n1_; (try clear hb); (try clear hb2); (try clear hk); (try clear hi)))
                                go_roundg k5
                                case measure => have := HJ4.out; have := HJ8.out; have := HJ15.out; have := HJ17.out; have := HK5.out; omega
                                case rel => exact ⟨(x12_5), (wrap64 (x13_5 + 1)), (by first | rfl | (simp; done) | (simp [*]; done)), (by first | rfl | (simp; done) | (simp [*]; done)), H', ⟨by have := HJ4.out; have := HJ8.out; have := HJ15.out; have := HJ17.out; have := HK5.out; omega⟩, ⟨by (with_reducible repeat (first | refine blk_drewN ?_ _ | refine blk_drew ?_ | refine blk_alloc ?_ _)); exact BK138.out⟩, ⟨by repeat (first | (with_reducible first | exact HB.out | apply below_alloc | apply pw_below_drewN | apply below_drew1 | refine below_set ?_ GE138.out) | exact HB.out)⟩⟩
                            · rw [if_neg c22] at H
                              have c22b0 : decide (t139 ≤ x11_15) = false := decide_eq_false c22
                              clear c22
                              have H' := Aside0.mk H
                              clear H
                              have hcz28_0 : wr.cell? ⟨gb138, 0, none⟩ = some (.int .i64 t133) := (blk_cell BK138.out 0).trans rfl
                              have hcz28_1 : wr.cell? ⟨gb138, 1, none⟩ = some (.int .i64 t134) := (blk_cell BK138.out 1).trans rfl
                              have hcz28_2 : wr.cell? ⟨gb138, 2, none⟩ = some (.int .i64 t135) := (blk_cell BK138.out 2).trans rfl
                              have hcz28_3 : wr.cell? ⟨gb138, 3, none⟩ = some (.int .i64 t136) := (blk_cell BK138.out 3).trans rfl
                              have hfz28_0 := blk_frozen BK138.out 0
                              have hfz28_1 := blk_frozen BK138.out 1
                              have hfz28_2 := blk_frozen BK138.out 2
                              have hfz28_3 := blk_frozen BK138.out 3
                              go_wp2_with (first | ((with_reducible refine gate_callee (f := 10) rfl ?_); refine goesL_ (some 57) rfl rfl Try.func10 (by kernel_rfl) rfl #[.agg #[.int .i64 t133, .int .i64 t134, .int .i64 t135, .int .i64 t136], .int .i64 x13_5] rfl (by (try simp only [List.map_toArray, List.map_cons, List.map_nil]); first | done | rfl | (simp only [List.length_drop, List.length_take]; rfl)) ?_; (with_reducible refine (layout_Journal.calls k5 t133 t134 t135 t136 x13_5 t139 _ A21.out).mono ?_); rintro e w29 ⟨rfl, hb⟩; refine ⟨_, rfl, ?_⟩; have n0_ := Aside0.mk (blk_below (g := gb138) (o := .cells #[.int .i64 t133, .int .i64 t134, .int .i64 t135, .int .i64 t136] 24 (0, 0)) (by (with_reducible repeat (first | refine blk_drewN ?_ _ | refine blk_drew ?_ | refine blk_alloc ?_ _)); exact BK138.out) hb); have n1_ := Aside0.mk (below_step (by repeat (first | (with_reducible first | exact HB.out | apply below_alloc | apply pw_below_drewN | apply below_drew1 | refine below_set ?_ GE138.out) | exact HB.out)) hb); clear BK138; clear HB; have BK138 := n0_; have HB := n1_; clear n0_ n1_; (try clear hb); (try clear hb2); (try clear hk); (try clear hi)))
                              go_roundg k5
                              case measure => have := HJ4.out; have := HJ8.out; have := HJ15.out; have := HJ17.out; have := HK5.out; omega
                              case rel => exact ⟨(x12_5), (wrap64 (x13_5 + 1)), (by first | rfl | (simp; done) | (simp [*]; done)), (by first | rfl | (simp; done) | (simp [*]; done)), H', ⟨by have := HJ4.out; have := HJ8.out; have := HJ15.out; have := HJ17.out; have := HK5.out; omega⟩, ⟨by (with_reducible repeat (first | refine blk_drewN ?_ _ | refine blk_drew ?_ | refine blk_alloc ?_ _)); exact BK138.out⟩, ⟨by repeat (first | (with_reducible first | exact HB.out | apply below_alloc | apply pw_below_drewN | apply below_drew1 | refine below_set ?_ GE138.out) | exact HB.out)⟩⟩
                          · rw [if_neg c20] at H
                            have c20b0 : decide (x13_5 < t134) = false := decide_eq_false c20
                            clear c20
                            replace H := Option.bind_eq_some_iff.mp H
                            obtain ⟨t140, A300, H⟩ := H
                            replace H : ((layout_Place.f k5 t133 t134 t135 t136 x11_15).bind fun t141 => (if t140 ≥ 0 then (if t141 < 0 then (lockgatelaw13_LayoutApart.j5 k5 t132 x11_15 (wrap64 (x12_5 + 1)) true t133 t134 t135 t136) else (if t141 ≥ t136 then (lockgatelaw13_LayoutApart.j5 k5 t132 x11_15 (wrap64 (x12_5 + 1)) true t133 t134 t135 t136) else ((layout_Begin.f k5 t133 t134 t135 t136 t140).bind fun t142 => (if (wrap64 (t142 + t141)) = x11_15 then ((layout_Root.f k5 t133 t134 t135 t136 t140).bind fun t143 => (lockgatelaw13_LayoutApart.j5 k5 t132 x11_15 (wrap64 (x12_5 + 1)) ((t141 == 1) != (t143 == x11_15)) t133 t134 t135 t136)) else (lockgatelaw13_LayoutApart.j5 k5 t132 x11_15 (wrap64 (x12_5 + 1)) true t133 t134 t135 t136))))) else (if t141 = (-1) then (if x11_15 ≥ (wrap64 (t135 + (wrap64 (4 * t136)))) then (if t132 = true then (some (x12_5 == 0)) else (some false)) else (if t132 = true then (some (x12_5 == 1)) else (some false))) else (some false)))) = some r := H
                            have A30 := Aside0.mk A300
                            clear A300
                            replace H := Option.bind_eq_some_iff.mp H
                            obtain ⟨t141, A310, H⟩ := H
                            replace H : (if t140 ≥ 0 then (if t141 < 0 then (lockgatelaw13_LayoutApart.j5 k5 t132 x11_15 (wrap64 (x12_5 + 1)) true t133 t134 t135 t136) else (if t141 ≥ t136 then (lockgatelaw13_LayoutApart.j5 k5 t132 x11_15 (wrap64 (x12_5 + 1)) true t133 t134 t135 t136) else ((layout_Begin.f k5 t133 t134 t135 t136 t140).bind fun t142 => (if (wrap64 (t142 + t141)) = x11_15 then ((layout_Root.f k5 t133 t134 t135 t136 t140).bind fun t143 => (lockgatelaw13_LayoutApart.j5 k5 t132 x11_15 (wrap64 (x12_5 + 1)) ((t141 == 1) != (t143 == x11_15)) t133 t134 t135 t136)) else (lockgatelaw13_LayoutApart.j5 k5 t132 x11_15 (wrap64 (x12_5 + 1)) true t133 t134 t135 t136))))) else (if t141 = (-1) then (if x11_15 ≥ (wrap64 (t135 + (wrap64 (4 * t136)))) then (if t132 = true then (some (x12_5 == 0)) else (some false)) else (if t132 = true then (some (x12_5 == 1)) else (some false))) else (some false))) = some r := H
                            have A31 := Aside0.mk A310
                            clear A310
                            by_cases c32 : t140 ≥ 0
                            · rw [if_pos c32] at H
                              have c32b0 : decide (0 ≤ t140) = true := decide_eq_true c32
                              clear c32
                              have HC33 := Aside0.mk H
                              clear H
                              have hcz34_0 : wr.cell? ⟨gb138, 0, none⟩ = some (.int .i64 t133) := (blk_cell BK138.out 0).trans rfl
                              have hcz34_1 : wr.cell? ⟨gb138, 1, none⟩ = some (.int .i64 t134) := (blk_cell BK138.out 1).trans rfl
                              have hcz34_2 : wr.cell? ⟨gb138, 2, none⟩ = some (.int .i64 t135) := (blk_cell BK138.out 2).trans rfl
                              have hcz34_3 : wr.cell? ⟨gb138, 3, none⟩ = some (.int .i64 t136) := (blk_cell BK138.out 3).trans rfl
                              have hfz34_0 := blk_frozen BK138.out 0
                              have hfz34_1 := blk_frozen BK138.out 1
                              have hfz34_2 := blk_frozen BK138.out 2
                              have hfz34_3 := blk_frozen BK138.out 3
                              go_upto_region 24 with (first | ((with_reducible refine gate_callee (f := 11) rfl ?_); refine goesL_ (some 71) rfl rfl Try.func11 (by kernel_rfl) rfl #[.agg #[.int .i64 t133, .int .i64 t134, .int .i64 t135, .int .i64 t136], .int .i64 x11_15] rfl (by (try simp only [List.map_toArray, List.map_cons, List.map_nil]); first | done | rfl | (simp only [List.length_drop, List.length_take]; rfl)) ?_; (with_reducible refine (layout_Zone.calls k5 t133 t134 t135 t136 x11_15 t140 _ A30.out).mono ?_); rintro e w35 ⟨rfl, hb⟩; refine ⟨_, rfl, ?_⟩; have n0_ := Aside0.mk (blk_below (g := gb138) (o := .cells #[.int .i64 t133, .int .i64 t134, .int .i64 t135, .int .i64 t136] 24 (0, 0)) (by (with_reducible repeat (first | refine blk_drewN ?_ _ | refine blk_drew ?_ | refine blk_alloc ?_ _)); exact BK138.out) hb); have n1_ := Aside0.mk (below_step (by repeat (first | (with_reducible first | exact HB.out | apply below_alloc | apply pw_below_drewN | apply below_drew1 | refine below_set ?_ GE138.out) | exact HB.out)) hb); clear BK138; clear HB; have BK138 := n0_; have HB := n1_; clear n0_ n1_; (try clear hb); (try clear hb2); (try clear hk); (try clear hi); have hcz36_0 : w35.cell? ⟨gb138, 0, none⟩ = some (.int .i64 t133) := (blk_cell BK138.out 0).trans rfl; have hcz36_1 : w35.cell? ⟨gb138, 1, none⟩ = some (.int .i64 t134) := (blk_cell BK138.out 1).trans rfl; have hcz36_2 : w35.cell? ⟨gb138, 2, none⟩ = some (.int .i64 t135) := (blk_cell BK138.out 2).trans rfl; have hcz36_3 : w35.cell? ⟨gb138, 3, none⟩ = some (.int .i64 t136) := (blk_cell BK138.out 3).trans rfl; have hfz36_0 := blk_frozen BK138.out 0; have hfz36_1 := blk_frozen BK138.out 1; have hfz36_2 := blk_frozen BK138.out 2; have hfz36_3 := blk_frozen BK138.out 3) | ((with_reducible refine gate_callee (f := 12) rfl ?_); refine goesL_ (some 74) rfl rfl Try.func12 (by kernel_rfl) rfl #[.agg #[.int .i64 t133, .int .i64 t134, .int .i64 t135, .int .i64 t136], .int .i64 x11_15] rfl (by (try simp only [List.map_toArray, List.map_cons, List.map_nil]); first | done | rfl | (simp only [List.length_drop, List.length_take]; rfl)) ?_; (with_reducible refine (layout_Place.calls k5 t133 t134 t135 t136 x11_15 t141 _ A31.out).mono ?_); rintro e w37 ⟨rfl, hb⟩; refine ⟨_, rfl, ?_⟩; have n0_ := Aside0.mk (blk_below (g := gb138) (o := .cells #[.int .i64 t133, .int .i64 t134, .int .i64 t135, .int .i64 t136] 24 (0, 0)) (by (with_reducible repeat (first | refine blk_drewN ?_ _ | refine blk_drew ?_ | refine blk_alloc ?_ _)); exact BK138.out) hb); have n1_ := Aside0.mk (below_step (by repeat (first | (with_reducible first | exact HB.out | apply below_alloc | apply pw_below_drewN | apply below_drew1 | refine below_set ?_ GE138.out) | exact HB.out)) hb); clear BK138; clear HB; have BK138 := n0_; have HB := n1_; clear n0_ n1_; (try clear hb); (try clear hb2); (try clear hk); (try clear hi)))
                              (try simp only [Act.put, List.setIfInBounds_toArray, List.set_cons_zero, List.set_cons_succ])
                              go_cut [105] (fun v105 wc => ∃ (kq : Nat) (x105_32 : Bool), v105 = .bool x105_32 ∧ Aside0 (lockgatelaw13_LayoutApart.j5 kq t132 x11_15 (wrap64 (x12_5 + 1)) x105_32 t133 t134 t135 t136 = some r) ∧ Aside0 (kq ≤ k5) ∧ Aside0 (wc.heap[gb138]? = some (.cells #[.int .i64 t133, .int .i64 t134, .int .i64 t135, .int .i64 t136] 24 (0, 0))) ∧ Aside0 (Below w.heap.size w wc))
                              case first =>
                                have H := HC33.out
                                clear HC33
                                by_cases c38 : t141 < 0
                                · rw [if_pos c38] at H
                                  have c38b0 : decide (t141 < 0) = true := decide_eq_true c38
                                  clear c38
                                  (first | rw [c38b0] | (simp only [i64_w, i32_w]; rw [c38b0]) | skip)
                                  have H' := Aside0.mk H
                                  clear H
                                  go_wp2
                                  go_meet
                                  case rel => exact ⟨_, (true), (by first | rfl | (simp; done) | (simp [*]; done)), H', ⟨by have := HJ4.out; have := HJ8.out; have := HJ15.out; have := HJ17.out; have := HK5.out; first | omega | exact Nat.le_refl _⟩, ⟨by (with_reducible repeat (first | refine blk_drewN ?_ _ | refine blk_drew ?_ | refine blk_alloc ?_ _)); exact BK138.out⟩, ⟨by repeat (first | (with_reducible first | exact HB.out | apply below_alloc | apply pw_below_drewN | apply below_drew1 | refine below_set ?_ GE138.out) | exact HB.out)⟩⟩
                                · rw [if_neg c38] at H
                                  have c38b0 : decide (t141 < 0) = false := decide_eq_false c38
                                  clear c38
                                  (first | rw [c38b0] | (simp only [i64_w, i32_w]; rw [c38b0]) | skip)
                                  by_cases c39 : t141 ≥ t136
                                  · rw [if_pos c39] at H
                                    have c39b0 : decide (t136 ≤ t141) = true := decide_eq_true c39
                                    clear c39
                                    have H' := Aside0.mk H
                                    clear H
                                    have hcz40_0 : w37.cell? ⟨gb138, 0, none⟩ = some (.int .i64 t133) := (blk_cell BK138.out 0).trans rfl
                                    have hcz40_1 : w37.cell? ⟨gb138, 1, none⟩ = some (.int .i64 t134) := (blk_cell BK138.out 1).trans rfl
                                    have hcz40_2 : w37.cell? ⟨gb138, 2, none⟩ = some (.int .i64 t135) := (blk_cell BK138.out 2).trans rfl
                                    have hcz40_3 : w37.cell? ⟨gb138, 3, none⟩ = some (.int .i64 t136) := (blk_cell BK138.out 3).trans rfl
                                    have hfz40_0 := blk_frozen BK138.out 0
                                    have hfz40_1 := blk_frozen BK138.out 1
                                    have hfz40_2 := blk_frozen BK138.out 2
                                    have hfz40_3 := blk_frozen BK138.out 3
                                    go_wp2
                                    go_meet
                                    case rel => exact ⟨_, (true), (by first | rfl | (simp; done) | (simp [*]; done)), H', ⟨by have := HJ4.out; have := HJ8.out; have := HJ15.out; have := HJ17.out; have := HK5.out; first | omega | exact Nat.le_refl _⟩, ⟨by (with_reducible repeat (first | refine blk_drewN ?_ _ | refine blk_drew ?_ | refine blk_alloc ?_ _)); exact BK138.out⟩, ⟨by repeat (first | (with_reducible first | exact HB.out | apply below_alloc | apply pw_below_drewN | apply below_drew1 | refine below_set ?_ GE138.out) | exact HB.out)⟩⟩
                                  · rw [if_neg c39] at H
                                    have c39b0 : decide (t136 ≤ t141) = false := decide_eq_false c39
                                    clear c39
                                    replace H := Option.bind_eq_some_iff.mp H
                                    obtain ⟨t142, A410, H⟩ := H
                                    replace H : (if (wrap64 (t142 + t141)) = x11_15 then ((layout_Root.f k5 t133 t134 t135 t136 t140).bind fun t143 => (lockgatelaw13_LayoutApart.j5 k5 t132 x11_15 (wrap64 (x12_5 + 1)) ((t141 == 1) != (t143 == x11_15)) t133 t134 t135 t136)) else (lockgatelaw13_LayoutApart.j5 k5 t132 x11_15 (wrap64 (x12_5 + 1)) true t133 t134 t135 t136)) = some r := H
                                    have A41 := Aside0.mk A410
                                    clear A410
                                    by_cases c42 : (wrap64 (t142 + t141)) = x11_15
                                    · rw [if_pos c42] at H
                                      have c42b0 : ((wrap64 (t142 + t141)) == x11_15) = true := beq_iff_eq.mpr c42
                                      have c42b1 : ((wrap64 (t142 + t141)) != x11_15) = false := bne_eq_false_iff_eq.mpr c42
                                      clear c42
                                      replace H := Option.bind_eq_some_iff.mp H
                                      obtain ⟨t143, A430, H⟩ := H
                                      replace H : (lockgatelaw13_LayoutApart.j5 k5 t132 x11_15 (wrap64 (x12_5 + 1)) ((t141 == 1) != (t143 == x11_15)) t133 t134 t135 t136) = some r := H
                                      have A43 := Aside0.mk A430
                                      clear A430
                                      have H' := Aside0.mk H
                                      clear H
                                      have hcz44_0 : w37.cell? ⟨gb138, 0, none⟩ = some (.int .i64 t133) := (blk_cell BK138.out 0).trans rfl
                                      have hcz44_1 : w37.cell? ⟨gb138, 1, none⟩ = some (.int .i64 t134) := (blk_cell BK138.out 1).trans rfl
                                      have hcz44_2 : w37.cell? ⟨gb138, 2, none⟩ = some (.int .i64 t135) := (blk_cell BK138.out 2).trans rfl
                                      have hcz44_3 : w37.cell? ⟨gb138, 3, none⟩ = some (.int .i64 t136) := (blk_cell BK138.out 3).trans rfl
                                      have hfz44_0 := blk_frozen BK138.out 0
                                      have hfz44_1 := blk_frozen BK138.out 1
                                      have hfz44_2 := blk_frozen BK138.out 2
                                      have hfz44_3 := blk_frozen BK138.out 3
                                      go_wp2_with (first | (go_at_call 13; (with_reducible refine (layout_Begin.calls k5 t133 t134 t135 t136 t140 t142 _ A41.out).mono ?_); rintro e w45 ⟨rfl, hb⟩; have n0_ := Aside0.mk (blk_below (g := gb138) (o := .cells #[.int .i64 t133, .int .i64 t134, .int .i64 t135, .int .i64 t136] 24 (0, 0)) (by (with_reducible repeat (first | refine blk_drewN ?_ _ | refine blk_drew ?_ | refine blk_alloc ?_ _)); exact BK138.out) hb); have n1_ := Aside0.mk (below_step (by repeat (first | (with_reducible first | exact HB.out | apply below_alloc | apply pw_below_drewN | apply below_drew1 | refine below_set ?_ GE138.out) | exact HB.out)) hb); clear BK138; clear HB; have BK138 := n0_; have HB := n1_; clear n0_ n1_; (try clear hb); (try clear hb2); (try clear hk); (try clear hi); have hcz46_0 : w45.cell? ⟨gb138, 0, none⟩ = some (.int .i64 t133) := (blk_cell BK138.out 0).trans rfl; have hcz46_1 : w45.cell? ⟨gb138, 1, none⟩ = some (.int .i64 t134) := (blk_cell BK138.out 1).trans rfl; have hcz46_2 : w45.cell? ⟨gb138, 2, none⟩ = some (.int .i64 t135) := (blk_cell BK138.out 2).trans rfl; have hcz46_3 : w45.cell? ⟨gb138, 3, none⟩ = some (.int .i64 t136) := (blk_cell BK138.out 3).trans rfl; have hfz46_0 := blk_frozen BK138.out 0; have hfz46_1 := blk_frozen BK138.out 1; have hfz46_2 := blk_frozen BK138.out 2; have hfz46_3 := blk_frozen BK138.out 3) | (go_at_call 14; (with_reducible refine (layout_Root.calls k5 t133 t134 t135 t136 t140 t143 _ A43.out).mono ?_); rintro e w47 ⟨rfl, hb⟩; have n0_ := Aside0.mk (blk_below (g := gb138) (o := .cells #[.int .i64 t133, .int .i64 t134, .int .i64 t135, .int .i64 t136] 24 (0, 0)) (by (with_reducible repeat (first | refine blk_drewN ?_ _ | refine blk_drew ?_ | refine blk_alloc ?_ _)); exact BK138.out) hb); have n1_ := Aside0.mk (below_step (by repeat (first | (with_reducible first | exact HB.out | apply below_alloc | apply pw_below_drewN | apply below_drew1 | refine below_set ?_ GE138.out) | exact HB.out)) hb); clear BK138; clear HB; have BK138 := n0_; have HB := n1_; clear n0_ n1_; (try clear hb); (try clear hb2); (try clear hk); (try clear hi)))
                                      go_meet
                                      case rel => exact ⟨_, (((t141 == 1) != (t143 == x11_15))), (by first | rfl | (simp; done) | (simp [*]; done)), H', ⟨by have := HJ4.out; have := HJ8.out; have := HJ15.out; have := HJ17.out; have := HK5.out; first | omega | exact Nat.le_refl _⟩, ⟨by (with_reducible repeat (first | refine blk_drewN ?_ _ | refine blk_drew ?_ | refine blk_alloc ?_ _)); exact BK138.out⟩, ⟨by repeat (first | (with_reducible first | exact HB.out | apply below_alloc | apply pw_below_drewN | apply below_drew1 | refine below_set ?_ GE138.out) | exact HB.out)⟩⟩
                                    · rw [if_neg c42] at H
                                      have c42b0 : ((wrap64 (t142 + t141)) == x11_15) = false := beq_eq_false_iff_ne.mpr c42
                                      have c42b1 : ((wrap64 (t142 + t141)) != x11_15) = true := bne_iff_ne.mpr c42
                                      have H' := Aside0.mk H
                                      clear H
                                      have hcz48_0 : w37.cell? ⟨gb138, 0, none⟩ = some (.int .i64 t133) := (blk_cell BK138.out 0).trans rfl
                                      have hcz48_1 : w37.cell? ⟨gb138, 1, none⟩ = some (.int .i64 t134) := (blk_cell BK138.out 1).trans rfl
                                      have hcz48_2 : w37.cell? ⟨gb138, 2, none⟩ = some (.int .i64 t135) := (blk_cell BK138.out 2).trans rfl
                                      have hcz48_3 : w37.cell? ⟨gb138, 3, none⟩ = some (.int .i64 t136) := (blk_cell BK138.out 3).trans rfl
                                      have hfz48_0 := blk_frozen BK138.out 0
                                      have hfz48_1 := blk_frozen BK138.out 1
                                      have hfz48_2 := blk_frozen BK138.out 2
                                      have hfz48_3 := blk_frozen BK138.out 3
                                      go_wp2_with (first | (go_at_call 13; (with_reducible refine (layout_Begin.calls k5 t133 t134 t135 t136 t140 t142 _ A41.out).mono ?_); rintro e w49 ⟨rfl, hb⟩; have n0_ := Aside0.mk (blk_below (g := gb138) (o := .cells #[.int .i64 t133, .int .i64 t134, .int .i64 t135, .int .i64 t136] 24 (0, 0)) (by (with_reducible repeat (first | refine blk_drewN ?_ _ | refine blk_drew ?_ | refine blk_alloc ?_ _)); exact BK138.out) hb); have n1_ := Aside0.mk (below_step (by repeat (first | (with_reducible first | exact HB.out | apply below_alloc | apply pw_below_drewN | apply below_drew1 | refine below_set ?_ GE138.out) | exact HB.out)) hb); clear BK138; clear HB; have BK138 := n0_; have HB := n1_; clear n0_ n1_; (try clear hb); (try clear hb2); (try clear hk); (try clear hi)))
                                      go_meet
                                      case rel => exact ⟨_, (true), (by first | rfl | (simp; done) | (simp [*]; done)), H', ⟨by have := HJ4.out; have := HJ8.out; have := HJ15.out; have := HJ17.out; have := HK5.out; first | omega | exact Nat.le_refl _⟩, ⟨by (with_reducible repeat (first | refine blk_drewN ?_ _ | refine blk_drew ?_ | refine blk_alloc ?_ _)); exact BK138.out⟩, ⟨by repeat (first | (with_reducible first | exact HB.out | apply below_alloc | apply pw_below_drewN | apply below_drew1 | refine below_set ?_ GE138.out) | exact HB.out)⟩⟩
                              case rest =>
                                clear HC33
                                try clear c1
                                try clear c2
                                try clear p2
                                try clear c3
                                try clear c4
                                try clear p6
                                try clear c7
                                try clear c7b0
                                try clear c8
                                try clear c9
                                try clear c10
                                try clear c11
                                try clear c12
                                try clear c13
                                try clear c13b0
                                try clear c13b1
                                try clear c14
                                try clear c15
                                try clear c15b0
                                try clear c15b1
                                try clear c17
                                try clear c17b0
                                try clear c19
                                try clear c19b0
                                try clear c20
                                try clear c20b0
                                try clear c22
                                try clear c22b0
                                try clear c23
                                try clear c23b0
                                try clear c32
                                try clear c32b0
                                try clear c38
                                try clear c38b0
                                try clear c39
                                try clear c39b0
                                try clear c42
                                try clear c42b0
                                try clear c42b1
                                try clear hcz12_0
                                try clear hcz12_1
                                try clear hcz12_2
                                try clear hcz12_3
                                try clear hcz24_0
                                try clear hcz24_1
                                try clear hcz24_2
                                try clear hcz24_3
                                try clear hcz26_0
                                try clear hcz26_1
                                try clear hcz26_2
                                try clear hcz26_3
                                try clear hcz28_0
                                try clear hcz28_1
                                try clear hcz28_2
                                try clear hcz28_3
                                try clear hcz34_0
                                try clear hcz34_1
                                try clear hcz34_2
                                try clear hcz34_3
                                try clear hcz36_0
                                try clear hcz36_1
                                try clear hcz36_2
                                try clear hcz36_3
                                try clear hcz40_0
                                try clear hcz40_1
                                try clear hcz40_2
                                try clear hcz40_3
                                try clear hcz44_0
                                try clear hcz44_1
                                try clear hcz44_2
                                try clear hcz44_3
                                try clear hcz46_0
                                try clear hcz46_1
                                try clear hcz46_2
                                try clear hcz46_3
                                try clear hcz48_0
                                try clear hcz48_1
                                try clear hcz48_2
                                try clear hcz48_3
                                try clear hfz12_0
                                try clear hfz12_1
                                try clear hfz12_2
                                try clear hfz12_3
                                try clear hfz24_0
                                try clear hfz24_1
                                try clear hfz24_2
                                try clear hfz24_3
                                try clear hfz26_0
                                try clear hfz26_1
                                try clear hfz26_2
                                try clear hfz26_3
                                try clear hfz28_0
                                try clear hfz28_1
                                try clear hfz28_2
                                try clear hfz28_3
                                try clear hfz34_0
                                try clear hfz34_1
                                try clear hfz34_2
                                try clear hfz34_3
                                try clear hfz36_0
                                try clear hfz36_1
                                try clear hfz36_2
                                try clear hfz36_3
                                try clear hfz40_0
                                try clear hfz40_1
                                try clear hfz40_2
                                try clear hfz40_3
                                try clear hfz44_0
                                try clear hfz44_1
                                try clear hfz44_2
                                try clear hfz44_3
                                try clear hfz46_0
                                try clear hfz46_1
                                try clear hfz46_2
                                try clear hfz46_3
                                try clear hfz48_0
                                try clear hfz48_1
                                try clear hfz48_2
                                try clear hfz48_3
                                try clear p2
                                try clear p6
                                obtain ⟨kq, x105_32, rfl, HA, HJ32, BK138, HB⟩ := hcut
                                cases kq with
                                | zero => exact absurd HA.out (by simp [lockgatelaw13_LayoutApart.j5])
                                | succ kj32 =>
                                  have H := HA.out
                                  clear HA
                                  simp only [lockgatelaw13_LayoutApart.j5] at H
                                  by_cases c50 : x105_32 = true
                                  · subst c50
                                    have H1 : (some false) = some r := by rw [if_pos rfl] at H; exact H
                                    clear H
                                    have H := H1
                                    clear H1
                                    obtain rfl := Option.some.inj H
                                    go_wp2
                                    go_ret
                                    exact ⟨by first | rfl | (simp [errW_none, errW_some] <;> rfl) | (simp [*, errW_none, errW_some] <;> rfl), by repeat (first | (with_reducible first | exact HB.out | apply below_alloc | apply pw_below_drewN | apply below_drew1 | refine below_set ?_ GE138.out) | exact HB.out)⟩
                                  · replace c50 := Bool.eq_false_iff.mpr c50
                                    subst c50
                                    have H1 : (if x11_15 ≥ (wrap64 (t135 + (wrap64 (4 * t136)))) then (if t132 = true then (some ((wrap64 (x12_5 + 1)) == 0)) else (some false)) else (if t132 = true then (some ((wrap64 (x12_5 + 1)) == 1)) else (some false))) = some r := by rw [if_neg (show ¬ (false = true) by decide)] at H; exact H
                                    clear H
                                    have H := H1
                                    clear H1
                                    by_cases c51 : x11_15 ≥ (wrap64 (t135 + (wrap64 (4 * t136))))
                                    · rw [if_pos c51] at H
                                      have c51b0 : decide ((wrap64 (t135 + (wrap64 (4 * t136)))) ≤ x11_15) = true := decide_eq_true c51
                                      clear c51
                                      by_cases c52 : t132 = true
                                      · subst c52
                                        have H1 : (some ((wrap64 (x12_5 + 1)) == 0)) = some r := by rw [if_pos rfl] at H; exact H
                                        clear H
                                        have H := H1
                                        clear H1
                                        obtain rfl := Option.some.inj H
                                        have hcz53_0 : wc.cell? ⟨gb138, 0, none⟩ = some (.int .i64 t133) := (blk_cell BK138.out 0).trans rfl
                                        have hcz53_1 : wc.cell? ⟨gb138, 1, none⟩ = some (.int .i64 t134) := (blk_cell BK138.out 1).trans rfl
                                        have hcz53_2 : wc.cell? ⟨gb138, 2, none⟩ = some (.int .i64 t135) := (blk_cell BK138.out 2).trans rfl
                                        have hcz53_3 : wc.cell? ⟨gb138, 3, none⟩ = some (.int .i64 t136) := (blk_cell BK138.out 3).trans rfl
                                        have hfz53_0 := blk_frozen BK138.out 0
                                        have hfz53_1 := blk_frozen BK138.out 1
                                        have hfz53_2 := blk_frozen BK138.out 2
                                        have hfz53_3 := blk_frozen BK138.out 3
                                        go_wp2
                                        go_ret
                                        exact ⟨by first | rfl | (simp [errW_none, errW_some] <;> rfl) | (simp [*, errW_none, errW_some] <;> rfl), by repeat (first | (with_reducible first | exact HB.out | apply below_alloc | apply pw_below_drewN | apply below_drew1 | refine below_set ?_ GE138.out) | exact HB.out)⟩
                                      · replace c52 := Bool.eq_false_iff.mpr c52
                                        subst c52
                                        have H1 : (some false) = some r := by rw [if_neg (show ¬ (false = true) by decide)] at H; exact H
                                        clear H
                                        have H := H1
                                        clear H1
                                        obtain rfl := Option.some.inj H
                                        have hcz54_0 : wc.cell? ⟨gb138, 0, none⟩ = some (.int .i64 t133) := (blk_cell BK138.out 0).trans rfl
                                        have hcz54_1 : wc.cell? ⟨gb138, 1, none⟩ = some (.int .i64 t134) := (blk_cell BK138.out 1).trans rfl
                                        have hcz54_2 : wc.cell? ⟨gb138, 2, none⟩ = some (.int .i64 t135) := (blk_cell BK138.out 2).trans rfl
                                        have hcz54_3 : wc.cell? ⟨gb138, 3, none⟩ = some (.int .i64 t136) := (blk_cell BK138.out 3).trans rfl
                                        have hfz54_0 := blk_frozen BK138.out 0
                                        have hfz54_1 := blk_frozen BK138.out 1
                                        have hfz54_2 := blk_frozen BK138.out 2
                                        have hfz54_3 := blk_frozen BK138.out 3
                                        go_wp2
                                        go_ret
                                        exact ⟨by first | rfl | (simp [errW_none, errW_some] <;> rfl) | (simp [*, errW_none, errW_some] <;> rfl), by repeat (first | (with_reducible first | exact HB.out | apply below_alloc | apply pw_below_drewN | apply below_drew1 | refine below_set ?_ GE138.out) | exact HB.out)⟩
                                    · rw [if_neg c51] at H
                                      have c51b0 : decide ((wrap64 (t135 + (wrap64 (4 * t136)))) ≤ x11_15) = false := decide_eq_false c51
                                      clear c51
                                      by_cases c55 : t132 = true
                                      · subst c55
                                        have H1 : (some ((wrap64 (x12_5 + 1)) == 1)) = some r := by rw [if_pos rfl] at H; exact H
                                        clear H
                                        have H := H1
                                        clear H1
                                        obtain rfl := Option.some.inj H
                                        have hcz56_0 : wc.cell? ⟨gb138, 0, none⟩ = some (.int .i64 t133) := (blk_cell BK138.out 0).trans rfl
                                        have hcz56_1 : wc.cell? ⟨gb138, 1, none⟩ = some (.int .i64 t134) := (blk_cell BK138.out 1).trans rfl
                                        have hcz56_2 : wc.cell? ⟨gb138, 2, none⟩ = some (.int .i64 t135) := (blk_cell BK138.out 2).trans rfl
                                        have hcz56_3 : wc.cell? ⟨gb138, 3, none⟩ = some (.int .i64 t136) := (blk_cell BK138.out 3).trans rfl
                                        have hfz56_0 := blk_frozen BK138.out 0
                                        have hfz56_1 := blk_frozen BK138.out 1
                                        have hfz56_2 := blk_frozen BK138.out 2
                                        have hfz56_3 := blk_frozen BK138.out 3
                                        go_wp2
                                        go_ret
                                        exact ⟨by first | rfl | (simp [errW_none, errW_some] <;> rfl) | (simp [*, errW_none, errW_some] <;> rfl), by repeat (first | (with_reducible first | exact HB.out | apply below_alloc | apply pw_below_drewN | apply below_drew1 | refine below_set ?_ GE138.out) | exact HB.out)⟩
                                      · replace c55 := Bool.eq_false_iff.mpr c55
                                        subst c55
                                        have H1 : (some false) = some r := by rw [if_neg (show ¬ (false = true) by decide)] at H; exact H
                                        clear H
                                        have H := H1
                                        clear H1
                                        obtain rfl := Option.some.inj H
                                        have hcz57_0 : wc.cell? ⟨gb138, 0, none⟩ = some (.int .i64 t133) := (blk_cell BK138.out 0).trans rfl
                                        have hcz57_1 : wc.cell? ⟨gb138, 1, none⟩ = some (.int .i64 t134) := (blk_cell BK138.out 1).trans rfl
                                        have hcz57_2 : wc.cell? ⟨gb138, 2, none⟩ = some (.int .i64 t135) := (blk_cell BK138.out 2).trans rfl
                                        have hcz57_3 : wc.cell? ⟨gb138, 3, none⟩ = some (.int .i64 t136) := (blk_cell BK138.out 3).trans rfl
                                        have hfz57_0 := blk_frozen BK138.out 0
                                        have hfz57_1 := blk_frozen BK138.out 1
                                        have hfz57_2 := blk_frozen BK138.out 2
                                        have hfz57_3 := blk_frozen BK138.out 3
                                        go_wp2
                                        go_ret
                                        exact ⟨by first | rfl | (simp [errW_none, errW_some] <;> rfl) | (simp [*, errW_none, errW_some] <;> rfl), by repeat (first | (with_reducible first | exact HB.out | apply below_alloc | apply pw_below_drewN | apply below_drew1 | refine below_set ?_ GE138.out) | exact HB.out)⟩
                            · rw [if_neg c32] at H
                              have c32b0 : decide (0 ≤ t140) = false := decide_eq_false c32
                              clear c32
                              by_cases c58 : t141 = (-1)
                              · rw [if_pos c58] at H
                                have c58b0 : (t141 == (-1)) = true := beq_iff_eq.mpr c58
                                have c58b1 : (t141 != (-1)) = false := bne_eq_false_iff_eq.mpr c58
                                clear c58
                                by_cases c59 : x11_15 ≥ (wrap64 (t135 + (wrap64 (4 * t136))))
                                · rw [if_pos c59] at H
                                  have c59b0 : decide ((wrap64 (t135 + (wrap64 (4 * t136)))) ≤ x11_15) = true := decide_eq_true c59
                                  clear c59
                                  by_cases c60 : t132 = true
                                  · subst c60
                                    have H1 : (some (x12_5 == 0)) = some r := by rw [if_pos rfl] at H; exact H
                                    clear H
                                    have H := H1
                                    clear H1
                                    obtain rfl := Option.some.inj H
                                    have hcz61_0 : wr.cell? ⟨gb138, 0, none⟩ = some (.int .i64 t133) := (blk_cell BK138.out 0).trans rfl
                                    have hcz61_1 : wr.cell? ⟨gb138, 1, none⟩ = some (.int .i64 t134) := (blk_cell BK138.out 1).trans rfl
                                    have hcz61_2 : wr.cell? ⟨gb138, 2, none⟩ = some (.int .i64 t135) := (blk_cell BK138.out 2).trans rfl
                                    have hcz61_3 : wr.cell? ⟨gb138, 3, none⟩ = some (.int .i64 t136) := (blk_cell BK138.out 3).trans rfl
                                    have hfz61_0 := blk_frozen BK138.out 0
                                    have hfz61_1 := blk_frozen BK138.out 1
                                    have hfz61_2 := blk_frozen BK138.out 2
                                    have hfz61_3 := blk_frozen BK138.out 3
                                    go_wp2_with (first | ((with_reducible refine gate_callee (f := 11) rfl ?_); refine goesL_ (some 71) rfl rfl Try.func11 (by kernel_rfl) rfl #[.agg #[.int .i64 t133, .int .i64 t134, .int .i64 t135, .int .i64 t136], .int .i64 x11_15] rfl (by (try simp only [List.map_toArray, List.map_cons, List.map_nil]); first | done | rfl | (simp only [List.length_drop, List.length_take]; rfl)) ?_; (with_reducible refine (layout_Zone.calls k5 t133 t134 t135 t136 x11_15 t140 _ A30.out).mono ?_); rintro e w62 ⟨rfl, hb⟩; refine ⟨_, rfl, ?_⟩; have n0_ := Aside0.mk (blk_below (g := gb138) (o := .cells #[.int .i64 t133, .int .i64 t134, .int .i64 t135, .int .i64 t136] 24 (0, 0)) (by (with_reducible repeat (first | refine blk_drewN ?_ _ | refine blk_drew ?_ | refine blk_alloc ?_ _)); exact BK138.out) hb); have n1_ := Aside0.mk (below_step (by repeat (first | (with_reducible first | exact HB.out | apply below_alloc | apply pw_below_drewN | apply below_drew1 | refine below_set ?_ GE138.out) | exact HB.out)) hb); clear BK138; clear HB; have BK138 := n0_; have HB := n1_; clear n0_ n1_; (try clear hb); (try clear hb2); (try clear hk); (try clear hi); have hcz63_0 : w62.cell? ⟨gb138, 0, none⟩ = some (.int .i64 t133) := (blk_cell BK138.out 0).trans rfl; have hcz63_1 : w62.cell? ⟨gb138, 1, none⟩ = some (.int .i64 t134) := (blk_cell BK138.out 1).trans rfl; have hcz63_2 : w62.cell? ⟨gb138, 2, none⟩ = some (.int .i64 t135) := (blk_cell BK138.out 2).trans rfl; have hcz63_3 : w62.cell? ⟨gb138, 3, none⟩ = some (.int .i64 t136) := (blk_cell BK138.out 3).trans rfl; have hfz63_0 := blk_frozen BK138.out 0; have hfz63_1 := blk_frozen BK138.out 1; have hfz63_2 := blk_frozen BK138.out 2; have hfz63_3 := blk_frozen BK138.out 3) | ((with_reducible refine gate_callee (f := 12) rfl ?_); refine goesL_ (some 74) rfl rfl Try.func12 (by kernel_rfl) rfl #[.agg #[.int .i64 t133, .int .i64 t134, .int .i64 t135, .int .i64 t136], .int .i64 x11_15] rfl (by (try simp only [List.map_toArray, List.map_cons, List.map_nil]); first | done | rfl | (simp only [List.length_drop, List.length_take]; rfl)) ?_; (with_reducible refine (layout_Place.calls k5 t133 t134 t135 t136 x11_15 t141 _ A31.out).mono ?_); rintro e w64 ⟨rfl, hb⟩; refine ⟨_, rfl, ?_⟩; have n0_ := Aside0.mk (blk_below (g := gb138) (o := .cells #[.int .i64 t133, .int .i64 t134, .int .i64 t135, .int .i64 t136] 24 (0, 0)) (by (with_reducible repeat (first | refine blk_drewN ?_ _ | refine blk_drew ?_ | refine blk_alloc ?_ _)); exact BK138.out) hb); have n1_ := Aside0.mk (below_step (by repeat (first | (with_reducible first | exact HB.out | apply below_alloc | apply pw_below_drewN | apply below_drew1 | refine below_set ?_ GE138.out) | exact HB.out)) hb); clear BK138; clear HB; have BK138 := n0_; have HB := n1_; clear n0_ n1_; (try clear hb); (try clear hb2); (try clear hk); (try clear hi); have hcz65_0 : w64.cell? ⟨gb138, 0, none⟩ = some (.int .i64 t133) := (blk_cell BK138.out 0).trans rfl; have hcz65_1 : w64.cell? ⟨gb138, 1, none⟩ = some (.int .i64 t134) := (blk_cell BK138.out 1).trans rfl; have hcz65_2 : w64.cell? ⟨gb138, 2, none⟩ = some (.int .i64 t135) := (blk_cell BK138.out 2).trans rfl; have hcz65_3 : w64.cell? ⟨gb138, 3, none⟩ = some (.int .i64 t136) := (blk_cell BK138.out 3).trans rfl; have hfz65_0 := blk_frozen BK138.out 0; have hfz65_1 := blk_frozen BK138.out 1; have hfz65_2 := blk_frozen BK138.out 2; have hfz65_3 := blk_frozen BK138.out 3))
                                    go_ret
                                    exact ⟨by first | rfl | (simp [errW_none, errW_some] <;> rfl) | (simp [*, errW_none, errW_some] <;> rfl), by repeat (first | (with_reducible first | exact HB.out | apply below_alloc | apply pw_below_drewN | apply below_drew1 | refine below_set ?_ GE138.out) | exact HB.out)⟩
                                  · replace c60 := Bool.eq_false_iff.mpr c60
                                    subst c60
                                    have H1 : (some false) = some r := by rw [if_neg (show ¬ (false = true) by decide)] at H; exact H
                                    clear H
                                    have H := H1
                                    clear H1
                                    obtain rfl := Option.some.inj H
                                    have hcz66_0 : wr.cell? ⟨gb138, 0, none⟩ = some (.int .i64 t133) := (blk_cell BK138.out 0).trans rfl
                                    have hcz66_1 : wr.cell? ⟨gb138, 1, none⟩ = some (.int .i64 t134) := (blk_cell BK138.out 1).trans rfl
                                    have hcz66_2 : wr.cell? ⟨gb138, 2, none⟩ = some (.int .i64 t135) := (blk_cell BK138.out 2).trans rfl
                                    have hcz66_3 : wr.cell? ⟨gb138, 3, none⟩ = some (.int .i64 t136) := (blk_cell BK138.out 3).trans rfl
                                    have hfz66_0 := blk_frozen BK138.out 0
                                    have hfz66_1 := blk_frozen BK138.out 1
                                    have hfz66_2 := blk_frozen BK138.out 2
                                    have hfz66_3 := blk_frozen BK138.out 3
                                    go_wp2_with (first | ((with_reducible refine gate_callee (f := 11) rfl ?_); refine goesL_ (some 71) rfl rfl Try.func11 (by kernel_rfl) rfl #[.agg #[.int .i64 t133, .int .i64 t134, .int .i64 t135, .int .i64 t136], .int .i64 x11_15] rfl (by (try simp only [List.map_toArray, List.map_cons, List.map_nil]); first | done | rfl | (simp only [List.length_drop, List.length_take]; rfl)) ?_; (with_reducible refine (layout_Zone.calls k5 t133 t134 t135 t136 x11_15 t140 _ A30.out).mono ?_); rintro e w67 ⟨rfl, hb⟩; refine ⟨_, rfl, ?_⟩; have n0_ := Aside0.mk (blk_below (g := gb138) (o := .cells #[.int .i64 t133, .int .i64 t134, .int .i64 t135, .int .i64 t136] 24 (0, 0)) (by (with_reducible repeat (first | refine blk_drewN ?_ _ | refine blk_drew ?_ | refine blk_alloc ?_ _)); exact BK138.out) hb); have n1_ := Aside0.mk (below_step (by repeat (first | (with_reducible first | exact HB.out | apply below_alloc | apply pw_below_drewN | apply below_drew1 | refine below_set ?_ GE138.out) | exact HB.out)) hb); clear BK138; clear HB; have BK138 := n0_; have HB := n1_; clear n0_ n1_; (try clear hb); (try clear hb2); (try clear hk); (try clear hi); have hcz68_0 : w67.cell? ⟨gb138, 0, none⟩ = some (.int .i64 t133) := (blk_cell BK138.out 0).trans rfl; have hcz68_1 : w67.cell? ⟨gb138, 1, none⟩ = some (.int .i64 t134) := (blk_cell BK138.out 1).trans rfl; have hcz68_2 : w67.cell? ⟨gb138, 2, none⟩ = some (.int .i64 t135) := (blk_cell BK138.out 2).trans rfl; have hcz68_3 : w67.cell? ⟨gb138, 3, none⟩ = some (.int .i64 t136) := (blk_cell BK138.out 3).trans rfl; have hfz68_0 := blk_frozen BK138.out 0; have hfz68_1 := blk_frozen BK138.out 1; have hfz68_2 := blk_frozen BK138.out 2; have hfz68_3 := blk_frozen BK138.out 3) | ((with_reducible refine gate_callee (f := 12) rfl ?_); refine goesL_ (some 74) rfl rfl Try.func12 (by kernel_rfl) rfl #[.agg #[.int .i64 t133, .int .i64 t134, .int .i64 t135, .int .i64 t136], .int .i64 x11_15] rfl (by (try simp only [List.map_toArray, List.map_cons, List.map_nil]); first | done | rfl | (simp only [List.length_drop, List.length_take]; rfl)) ?_; (with_reducible refine (layout_Place.calls k5 t133 t134 t135 t136 x11_15 t141 _ A31.out).mono ?_); rintro e w69 ⟨rfl, hb⟩; refine ⟨_, rfl, ?_⟩; have n0_ := Aside0.mk (blk_below (g := gb138) (o := .cells #[.int .i64 t133, .int .i64 t134, .int .i64 t135, .int .i64 t136] 24 (0, 0)) (by (with_reducible repeat (first | refine blk_drewN ?_ _ | refine blk_drew ?_ | refine blk_alloc ?_ _)); exact BK138.out) hb); have n1_ := Aside0.mk (below_step (by repeat (first | (with_reducible first | exact HB.out | apply below_alloc | apply pw_below_drewN | apply below_drew1 | refine below_set ?_ GE138.out) | exact HB.out)) hb); clear BK138; clear HB; have BK138 := n0_; have HB := n1_; clear n0_ n1_; (try clear hb); (try clear hb2); (try clear hk); (try clear hi); have hcz70_0 : w69.cell? ⟨gb138, 0, none⟩ = some (.int .i64 t133) := (blk_cell BK138.out 0).trans rfl; have hcz70_1 : w69.cell? ⟨gb138, 1, none⟩ = some (.int .i64 t134) := (blk_cell BK138.out 1).trans rfl; have hcz70_2 : w69.cell? ⟨gb138, 2, none⟩ = some (.int .i64 t135) := (blk_cell BK138.out 2).trans rfl; have hcz70_3 : w69.cell? ⟨gb138, 3, none⟩ = some (.int .i64 t136) := (blk_cell BK138.out 3).trans rfl; have hfz70_0 := blk_frozen BK138.out 0; have hfz70_1 := blk_frozen BK138.out 1; have hfz70_2 := blk_frozen BK138.out 2; have hfz70_3 := blk_frozen BK138.out 3))
                                    go_ret
                                    exact ⟨by first | rfl | (simp [errW_none, errW_some] <;> rfl) | (simp [*, errW_none, errW_some] <;> rfl), by repeat (first | (with_reducible first | exact HB.out | apply below_alloc | apply pw_below_drewN | apply below_drew1 | refine below_set ?_ GE138.out) | exact HB.out)⟩
                                · rw [if_neg c59] at H
                                  have c59b0 : decide ((wrap64 (t135 + (wrap64 (4 * t136)))) ≤ x11_15) = false := decide_eq_false c59
                                  clear c59
                                  by_cases c71 : t132 = true
                                  · subst c71
                                    have H1 : (some (x12_5 == 1)) = some r := by rw [if_pos rfl] at H; exact H
                                    clear H
                                    have H := H1
                                    clear H1
                                    obtain rfl := Option.some.inj H
                                    have hcz72_0 : wr.cell? ⟨gb138, 0, none⟩ = some (.int .i64 t133) := (blk_cell BK138.out 0).trans rfl
                                    have hcz72_1 : wr.cell? ⟨gb138, 1, none⟩ = some (.int .i64 t134) := (blk_cell BK138.out 1).trans rfl
                                    have hcz72_2 : wr.cell? ⟨gb138, 2, none⟩ = some (.int .i64 t135) := (blk_cell BK138.out 2).trans rfl
                                    have hcz72_3 : wr.cell? ⟨gb138, 3, none⟩ = some (.int .i64 t136) := (blk_cell BK138.out 3).trans rfl
                                    have hfz72_0 := blk_frozen BK138.out 0
                                    have hfz72_1 := blk_frozen BK138.out 1
                                    have hfz72_2 := blk_frozen BK138.out 2
                                    have hfz72_3 := blk_frozen BK138.out 3
                                    go_wp2_with (first | ((with_reducible refine gate_callee (f := 11) rfl ?_); refine goesL_ (some 71) rfl rfl Try.func11 (by kernel_rfl) rfl #[.agg #[.int .i64 t133, .int .i64 t134, .int .i64 t135, .int .i64 t136], .int .i64 x11_15] rfl (by (try simp only [List.map_toArray, List.map_cons, List.map_nil]); first | done | rfl | (simp only [List.length_drop, List.length_take]; rfl)) ?_; (with_reducible refine (layout_Zone.calls k5 t133 t134 t135 t136 x11_15 t140 _ A30.out).mono ?_); rintro e w73 ⟨rfl, hb⟩; refine ⟨_, rfl, ?_⟩; have n0_ := Aside0.mk (blk_below (g := gb138) (o := .cells #[.int .i64 t133, .int .i64 t134, .int .i64 t135, .int .i64 t136] 24 (0, 0)) (by (with_reducible repeat (first | refine blk_drewN ?_ _ | refine blk_drew ?_ | refine blk_alloc ?_ _)); exact BK138.out) hb); have n1_ := Aside0.mk (below_step (by repeat (first | (with_reducible first | exact HB.out | apply below_alloc | apply pw_below_drewN | apply below_drew1 | refine below_set ?_ GE138.out) | exact HB.out)) hb); clear BK138; clear HB; have BK138 := n0_; have HB := n1_; clear n0_ n1_; (try clear hb); (try clear hb2); (try clear hk); (try clear hi); have hcz74_0 : w73.cell? ⟨gb138, 0, none⟩ = some (.int .i64 t133) := (blk_cell BK138.out 0).trans rfl; have hcz74_1 : w73.cell? ⟨gb138, 1, none⟩ = some (.int .i64 t134) := (blk_cell BK138.out 1).trans rfl; have hcz74_2 : w73.cell? ⟨gb138, 2, none⟩ = some (.int .i64 t135) := (blk_cell BK138.out 2).trans rfl; have hcz74_3 : w73.cell? ⟨gb138, 3, none⟩ = some (.int .i64 t136) := (blk_cell BK138.out 3).trans rfl; have hfz74_0 := blk_frozen BK138.out 0; have hfz74_1 := blk_frozen BK138.out 1; have hfz74_2 := blk_frozen BK138.out 2; have hfz74_3 := blk_frozen BK138.out 3) | ((with_reducible refine gate_callee (f := 12) rfl ?_); refine goesL_ (some 74) rfl rfl Try.func12 (by kernel_rfl) rfl #[.agg #[.int .i64 t133, .int .i64 t134, .int .i64 t135, .int .i64 t136], .int .i64 x11_15] rfl (by (try simp only [List.map_toArray, List.map_cons, List.map_nil]); first | done | rfl | (simp only [List.length_drop, List.length_take]; rfl)) ?_; (with_reducible refine (layout_Place.calls k5 t133 t134 t135 t136 x11_15 t141 _ A31.out).mono ?_); rintro e w75 ⟨rfl, hb⟩; refine ⟨_, rfl, ?_⟩; have n0_ := Aside0.mk (blk_below (g := gb138) (o := .cells #[.int .i64 t133, .int .i64 t134, .int .i64 t135, .int .i64 t136] 24 (0, 0)) (by (with_reducible repeat (first | refine blk_drewN ?_ _ | refine blk_drew ?_ | refine blk_alloc ?_ _)); exact BK138.out) hb); have n1_ := Aside0.mk (below_step (by repeat (first | (with_reducible first | exact HB.out | apply below_alloc | apply pw_below_drewN | apply below_drew1 | refine below_set ?_ GE138.out) | exact HB.out)) hb); clear BK138; clear HB; have BK138 := n0_; have HB := n1_; clear n0_ n1_; (try clear hb); (try clear hb2); (try clear hk); (try clear hi); have hcz76_0 : w75.cell? ⟨gb138, 0, none⟩ = some (.int .i64 t133) := (blk_cell BK138.out 0).trans rfl; have hcz76_1 : w75.cell? ⟨gb138, 1, none⟩ = some (.int .i64 t134) := (blk_cell BK138.out 1).trans rfl; have hcz76_2 : w75.cell? ⟨gb138, 2, none⟩ = some (.int .i64 t135) := (blk_cell BK138.out 2).trans rfl; have hcz76_3 : w75.cell? ⟨gb138, 3, none⟩ = some (.int .i64 t136) := (blk_cell BK138.out 3).trans rfl; have hfz76_0 := blk_frozen BK138.out 0; have hfz76_1 := blk_frozen BK138.out 1; have hfz76_2 := blk_frozen BK138.out 2; have hfz76_3 := blk_frozen BK138.out 3))
                                    go_ret
                                    exact ⟨by first | rfl | (simp [errW_none, errW_some] <;> rfl) | (simp [*, errW_none, errW_some] <;> rfl), by repeat (first | (with_reducible first | exact HB.out | apply below_alloc | apply pw_below_drewN | apply below_drew1 | refine below_set ?_ GE138.out) | exact HB.out)⟩
                                  · replace c71 := Bool.eq_false_iff.mpr c71
                                    subst c71
                                    have H1 : (some false) = some r := by rw [if_neg (show ¬ (false = true) by decide)] at H; exact H
                                    clear H
                                    have H := H1
                                    clear H1
                                    obtain rfl := Option.some.inj H
                                    have hcz77_0 : wr.cell? ⟨gb138, 0, none⟩ = some (.int .i64 t133) := (blk_cell BK138.out 0).trans rfl
                                    have hcz77_1 : wr.cell? ⟨gb138, 1, none⟩ = some (.int .i64 t134) := (blk_cell BK138.out 1).trans rfl
                                    have hcz77_2 : wr.cell? ⟨gb138, 2, none⟩ = some (.int .i64 t135) := (blk_cell BK138.out 2).trans rfl
                                    have hcz77_3 : wr.cell? ⟨gb138, 3, none⟩ = some (.int .i64 t136) := (blk_cell BK138.out 3).trans rfl
                                    have hfz77_0 := blk_frozen BK138.out 0
                                    have hfz77_1 := blk_frozen BK138.out 1
                                    have hfz77_2 := blk_frozen BK138.out 2
                                    have hfz77_3 := blk_frozen BK138.out 3
                                    go_wp2_with (first | ((with_reducible refine gate_callee (f := 11) rfl ?_); refine goesL_ (some 71) rfl rfl Try.func11 (by kernel_rfl) rfl #[.agg #[.int .i64 t133, .int .i64 t134, .int .i64 t135, .int .i64 t136], .int .i64 x11_15] rfl (by (try simp only [List.map_toArray, List.map_cons, List.map_nil]); first | done | rfl | (simp only [List.length_drop, List.length_take]; rfl)) ?_; (with_reducible refine (layout_Zone.calls k5 t133 t134 t135 t136 x11_15 t140 _ A30.out).mono ?_); rintro e w78 ⟨rfl, hb⟩; refine ⟨_, rfl, ?_⟩; have n0_ := Aside0.mk (blk_below (g := gb138) (o := .cells #[.int .i64 t133, .int .i64 t134, .int .i64 t135, .int .i64 t136] 24 (0, 0)) (by (with_reducible repeat (first | refine blk_drewN ?_ _ | refine blk_drew ?_ | refine blk_alloc ?_ _)); exact BK138.out) hb); have n1_ := Aside0.mk (below_step (by repeat (first | (with_reducible first | exact HB.out | apply below_alloc | apply pw_below_drewN | apply below_drew1 | refine below_set ?_ GE138.out) | exact HB.out)) hb); clear BK138; clear HB; have BK138 := n0_; have HB := n1_; clear n0_ n1_; (try clear hb); (try clear hb2); (try clear hk); (try clear hi); have hcz79_0 : w78.cell? ⟨gb138, 0, none⟩ = some (.int .i64 t133) := (blk_cell BK138.out 0).trans rfl; have hcz79_1 : w78.cell? ⟨gb138, 1, none⟩ = some (.int .i64 t134) := (blk_cell BK138.out 1).trans rfl; have hcz79_2 : w78.cell? ⟨gb138, 2, none⟩ = some (.int .i64 t135) := (blk_cell BK138.out 2).trans rfl; have hcz79_3 : w78.cell? ⟨gb138, 3, none⟩ = some (.int .i64 t136) := (blk_cell BK138.out 3).trans rfl; have hfz79_0 := blk_frozen BK138.out 0; have hfz79_1 := blk_frozen BK138.out 1; have hfz79_2 := blk_frozen BK138.out 2; have hfz79_3 := blk_frozen BK138.out 3) | ((with_reducible refine gate_callee (f := 12) rfl ?_); refine goesL_ (some 74) rfl rfl Try.func12 (by kernel_rfl) rfl #[.agg #[.int .i64 t133, .int .i64 t134, .int .i64 t135, .int .i64 t136], .int .i64 x11_15] rfl (by (try simp only [List.map_toArray, List.map_cons, List.map_nil]); first | done | rfl | (simp only [List.length_drop, List.length_take]; rfl)) ?_; (with_reducible refine (layout_Place.calls k5 t133 t134 t135 t136 x11_15 t141 _ A31.out).mono ?_); rintro e w80 ⟨rfl, hb⟩; refine ⟨_, rfl, ?_⟩; have n0_ := Aside0.mk (blk_below (g := gb138) (o := .cells #[.int .i64 t133, .int .i64 t134, .int .i64 t135, .int .i64 t136] 24 (0, 0)) (by (with_reducible repeat (first | refine blk_drewN ?_ _ | refine blk_drew ?_ | refine blk_alloc ?_ _)); exact BK138.out) hb); have n1_ := Aside0.mk (below_step (by repeat (first | (with_reducible first | exact HB.out | apply below_alloc | apply pw_below_drewN | apply below_drew1 | refine below_set ?_ GE138.out) | exact HB.out)) hb); clear BK138; clear HB; have BK138 := n0_; have HB := n1_; clear n0_ n1_; (try clear hb); (try clear hb2); (try clear hk); (try clear hi); have hcz81_0 : w80.cell? ⟨gb138, 0, none⟩ = some (.int .i64 t133) := (blk_cell BK138.out 0).trans rfl; have hcz81_1 : w80.cell? ⟨gb138, 1, none⟩ = some (.int .i64 t134) := (blk_cell BK138.out 1).trans rfl; have hcz81_2 : w80.cell? ⟨gb138, 2, none⟩ = some (.int .i64 t135) := (blk_cell BK138.out 2).trans rfl; have hcz81_3 : w80.cell? ⟨gb138, 3, none⟩ = some (.int .i64 t136) := (blk_cell BK138.out 3).trans rfl; have hfz81_0 := blk_frozen BK138.out 0; have hfz81_1 := blk_frozen BK138.out 1; have hfz81_2 := blk_frozen BK138.out 2; have hfz81_3 := blk_frozen BK138.out 3))
                                    go_ret
                                    exact ⟨by first | rfl | (simp [errW_none, errW_some] <;> rfl) | (simp [*, errW_none, errW_some] <;> rfl), by repeat (first | (with_reducible first | exact HB.out | apply below_alloc | apply pw_below_drewN | apply below_drew1 | refine below_set ?_ GE138.out) | exact HB.out)⟩
                              · rw [if_neg c58] at H
                                have c58b0 : (t141 == (-1)) = false := beq_eq_false_iff_ne.mpr c58
                                have c58b1 : (t141 != (-1)) = true := bne_iff_ne.mpr c58
                                obtain rfl := Option.some.inj H
                                have hcz82_0 : wr.cell? ⟨gb138, 0, none⟩ = some (.int .i64 t133) := (blk_cell BK138.out 0).trans rfl
                                have hcz82_1 : wr.cell? ⟨gb138, 1, none⟩ = some (.int .i64 t134) := (blk_cell BK138.out 1).trans rfl
                                have hcz82_2 : wr.cell? ⟨gb138, 2, none⟩ = some (.int .i64 t135) := (blk_cell BK138.out 2).trans rfl
                                have hcz82_3 : wr.cell? ⟨gb138, 3, none⟩ = some (.int .i64 t136) := (blk_cell BK138.out 3).trans rfl
                                have hfz82_0 := blk_frozen BK138.out 0
                                have hfz82_1 := blk_frozen BK138.out 1
                                have hfz82_2 := blk_frozen BK138.out 2
                                have hfz82_3 := blk_frozen BK138.out 3
                                go_wp2_with (first | ((with_reducible refine gate_callee (f := 11) rfl ?_); refine goesL_ (some 71) rfl rfl Try.func11 (by kernel_rfl) rfl #[.agg #[.int .i64 t133, .int .i64 t134, .int .i64 t135, .int .i64 t136], .int .i64 x11_15] rfl (by (try simp only [List.map_toArray, List.map_cons, List.map_nil]); first | done | rfl | (simp only [List.length_drop, List.length_take]; rfl)) ?_; (with_reducible refine (layout_Zone.calls k5 t133 t134 t135 t136 x11_15 t140 _ A30.out).mono ?_); rintro e w83 ⟨rfl, hb⟩; refine ⟨_, rfl, ?_⟩; have n0_ := Aside0.mk (blk_below (g := gb138) (o := .cells #[.int .i64 t133, .int .i64 t134, .int .i64 t135, .int .i64 t136] 24 (0, 0)) (by (with_reducible repeat (first | refine blk_drewN ?_ _ | refine blk_drew ?_ | refine blk_alloc ?_ _)); exact BK138.out) hb); have n1_ := Aside0.mk (below_step (by repeat (first | (with_reducible first | exact HB.out | apply below_alloc | apply pw_below_drewN | apply below_drew1 | refine below_set ?_ GE138.out) | exact HB.out)) hb); clear BK138; clear HB; have BK138 := n0_; have HB := n1_; clear n0_ n1_; (try clear hb); (try clear hb2); (try clear hk); (try clear hi); have hcz84_0 : w83.cell? ⟨gb138, 0, none⟩ = some (.int .i64 t133) := (blk_cell BK138.out 0).trans rfl; have hcz84_1 : w83.cell? ⟨gb138, 1, none⟩ = some (.int .i64 t134) := (blk_cell BK138.out 1).trans rfl; have hcz84_2 : w83.cell? ⟨gb138, 2, none⟩ = some (.int .i64 t135) := (blk_cell BK138.out 2).trans rfl; have hcz84_3 : w83.cell? ⟨gb138, 3, none⟩ = some (.int .i64 t136) := (blk_cell BK138.out 3).trans rfl; have hfz84_0 := blk_frozen BK138.out 0; have hfz84_1 := blk_frozen BK138.out 1; have hfz84_2 := blk_frozen BK138.out 2; have hfz84_3 := blk_frozen BK138.out 3) | ((with_reducible refine gate_callee (f := 12) rfl ?_); refine goesL_ (some 74) rfl rfl Try.func12 (by kernel_rfl) rfl #[.agg #[.int .i64 t133, .int .i64 t134, .int .i64 t135, .int .i64 t136], .int .i64 x11_15] rfl (by (try simp only [List.map_toArray, List.map_cons, List.map_nil]); first | done | rfl | (simp only [List.length_drop, List.length_take]; rfl)) ?_; (with_reducible refine (layout_Place.calls k5 t133 t134 t135 t136 x11_15 t141 _ A31.out).mono ?_); rintro e w85 ⟨rfl, hb⟩; refine ⟨_, rfl, ?_⟩; have n0_ := Aside0.mk (blk_below (g := gb138) (o := .cells #[.int .i64 t133, .int .i64 t134, .int .i64 t135, .int .i64 t136] 24 (0, 0)) (by (with_reducible repeat (first | refine blk_drewN ?_ _ | refine blk_drew ?_ | refine blk_alloc ?_ _)); exact BK138.out) hb); have n1_ := Aside0.mk (below_step (by repeat (first | (with_reducible first | exact HB.out | apply below_alloc | apply pw_below_drewN | apply below_drew1 | refine below_set ?_ GE138.out) | exact HB.out)) hb); clear BK138; clear HB; have BK138 := n0_; have HB := n1_; clear n0_ n1_; (try clear hb); (try clear hb2); (try clear hk); (try clear hi)))
                                go_ret
                                exact ⟨by first | rfl | (simp [errW_none, errW_some] <;> rfl) | (simp [*, errW_none, errW_some] <;> rfl), by repeat (first | (with_reducible first | exact HB.out | apply below_alloc | apply pw_below_drewN | apply below_drew1 | refine below_set ?_ GE138.out) | exact HB.out)⟩

/-- THE ONE PURE STATEMENT of lockgatelaw13_LayoutApart: yours. -/
def lockgatelaw13_LayoutApart.Pure : Prop := ∀ (a0 : Int) (a1 : Int) (a2 : Int), (Lit.int .i64 a0).wf = true → (Lit.int .i64 a1).wf = true → (Lit.int .i64 a2).wf = true → ∃ k, lockgatelaw13_LayoutApart.f k a0 a1 a2 = some true
theorem lockgatelaw13_LayoutApart.walk (P : lockgatelaw13_LayoutApart.Pure) (a0 : Int) (a1 : Int) (a2 : Int) (w : World) (w0 : (Lit.int .i64 a0).wf = true) (w1 : (Lit.int .i64 a1).wf = true) (w2 : (Lit.int .i64 a2).wf = true) :
    Calls Try.prog 3 #[.int .i64 a0, .int .i64 a1, .int .i64 a2] w fun e w' => e = .returned (.bool true) ∧ Below w.heap.size w w' := by
  obtain ⟨k, h⟩ := P a0 a1 a2 w0 w1 w2
  refine (lockgatelaw13_LayoutApart.calls k a0 a1 a2 true w h).mono ?_
  rintro e w' ⟨rfl, hd⟩
  exact ⟨rfl, hd⟩

end Go.Proofs.Ytkfloghdnklakaa.PLayoutApart
