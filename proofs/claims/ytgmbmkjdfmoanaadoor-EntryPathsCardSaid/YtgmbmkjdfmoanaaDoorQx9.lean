-- Written by mp.py (a program of this repo, over the print) for this seat: functions, contracts, walks.
import Derived.Test.YtgmbmkjdfmoanaaDoorQx0
import Derived.Test.YtgmbmkjdfmoanaaDoorQx2
import Derived.Test.YtgmbmkjdfmoanaaDoorQx3
import Derived.Test.YtgmbmkjdfmoanaaDoorQx5
import Derived.Test.YtgmbmkjdfmoanaaDoorQx7
namespace Go.Proofs.YtgmbmkjdfmoanaaDoor.Q
open Go.RowKit Go.Proofs.YtgmbmkjdfmoanaaDoorW.PrintWords Go.Proofs.YtgmbmkjdfmoanaaDoorW.PrintLast Go.Proofs.YtgmbmkjdfmoanaaDoorW.PrintMore
attribute [local go_sem] max2_int min2_int max_two min_two max_three min_three max_four min_four   -- for this text's walks alone
set_option linter.unusedVariables false
set_option linter.unusedSimpArgs false

/-! ### lockgatelaw15_EntryPaths: function 4 -/
mutual
def lockgatelaw15_EntryPaths.l0 : Nat → List ByteArray → Bool → ByteArray → List ByteArray → Bool → Int → Option (Bool)
  | 0, _, _, _, _, _, _ => none
  | k + 1, x0, x3, x4, x5, x6, x7 => if x7 < (x0.length : Int) then (lockgatelaw15_EntryPaths.j1 k x0 x3 x4 x5 x6 x7 (decide (x7 < 10))) else (lockgatelaw15_EntryPaths.j1 k x0 x3 x4 x5 x6 x7 false)
def lockgatelaw15_EntryPaths.j1 : Nat → List ByteArray → Bool → ByteArray → List ByteArray → Bool → Int → Bool → Option (Bool)
  | 0, _, _, _, _, _, _, _ => none
  | k + 1, x0, x3, x4, x5, x6, x7, x23 => if x23 = true then (if 0 ≤ x7 then (if x7 < (x0.length : Int) then ((lockgatelaw15_short.f (rdOf ByteArray.empty x0 x7) 40).bind fun t180 => (if x4.size + 1 ≤ 9223372036854775807 then (if (x4 ++ (⟨#[47]⟩ : ByteArray)).size + t180.size ≤ 9223372036854775807 then (if x5.length < 8796093022208 then ((some (x5 ++ [t180] : List ByteArray)).bind fun y181 => (if x6 = true then ((entry_Name.f t180).bind fun t184 => (lockgatelaw15_EntryPaths.l0 k x0 x3 ((x4 ++ (⟨#[47]⟩ : ByteArray)) ++ t180) y181 t184 (wrap64 (x7 + 1)))) else (lockgatelaw15_EntryPaths.l0 k x0 x3 ((x4 ++ (⟨#[47]⟩ : ByteArray)) ++ t180) y181 false (wrap64 (x7 + 1))))) else (none)) else (none)) else (none))) else (none)) else (none)) else (if (x5.length : Int) = 0 then (lockgatelaw15_EntryPaths.j2 k x3 (⟨#[47]⟩ : ByteArray) x5 x6) else (lockgatelaw15_EntryPaths.j2 k x3 x4 x5 x6))
def lockgatelaw15_EntryPaths.j2 : Nat → Bool → ByteArray → List ByteArray → Bool → Option (Bool)
  | 0, _, _, _, _ => none
  | k + 1, x3, x4, x5, x6 => (entry_Split.f k x4).bind fun bt185 => (if x6 = true then (lockgatelaw15_EntryPaths.j3 k x3 x4 x5 bt185.1 bt185.2 (decide ((x5.length : Int) > 8))) else (lockgatelaw15_EntryPaths.j3 k x3 x4 x5 bt185.1 bt185.2 true))
def lockgatelaw15_EntryPaths.j3 : Nat → Bool → ByteArray → List ByteArray → List ByteArray → Bool → Bool → Option (Bool)
  | 0, _, _, _, _, _, _ => none
  | k + 1, x3, x4, x5, x9, x10, x58 => if x58 = true then (lockgatelaw15_EntryPaths.l1 k x3 x4 x5 x10 false 0) else ((lockgateref15_SameNames.f k x9 x5).bind fun t191 => (if x3 = true then (if x10 = true then (some t191) else (some false)) else (some false)))
def lockgatelaw15_EntryPaths.l1 : Nat → Bool → ByteArray → List ByteArray → Bool → Bool → Int → Option (Bool)
  | 0, _, _, _, _, _, _ => none
  | k + 1, x3, x4, x5, x10, x11, x12 => if x12 < (x5.length : Int) then (lockgatelaw15_EntryPaths.l2 k x3 x4 x5 x10 x11 x12 0) else (if x3 = true then (if x10 = true then (if x11 = true then (some true) else (some (x4.toList == ([47] : List UInt8)))) else (some true)) else (some false))
def lockgatelaw15_EntryPaths.l2 : Nat → Bool → ByteArray → List ByteArray → Bool → Bool → Int → Int → Option (Bool)
  | 0, _, _, _, _, _, _, _ => none
  | k + 1, x3, x4, x5, x10, x11, x12, x13 => if 0 ≤ x12 then (if x12 < (x5.length : Int) then (if x13 < ((rdOf ByteArray.empty x5 x12).size : Int) then (if x11 = true then (lockgatelaw15_EntryPaths.l2 k x3 x4 x5 x10 true x12 (wrap64 (x13 + 1))) else (if 0 ≤ x13 then (lockgatelaw15_EntryPaths.l2 k x3 x4 x5 x10 ((bt (rdOf ByteArray.empty x5 x12) x13) == 47) x12 (wrap64 (x13 + 1))) else (none))) else (lockgatelaw15_EntryPaths.l1 k x3 x4 x5 x10 x11 (wrap64 (x12 + 1)))) else (none)) else (none)
end
def lockgatelaw15_EntryPaths.f (k : Nat) (l0 : List ByteArray) : Option (Bool) := (lockgatelaw15_awake.f k).bind fun t178 => (lockgatelaw15_EntryPaths.l0 k l0 t178 (⟨#[]⟩ : ByteArray) ([] : List ByteArray) true 0)
theorem lockgatelaw15_EntryPaths.mono_l : ∀ k, (∀ y0 y1 y2 y3 y4 y5, LeO (lockgatelaw15_EntryPaths.l0 k y0 y1 y2 y3 y4 y5) (lockgatelaw15_EntryPaths.l0 (k + 1) y0 y1 y2 y3 y4 y5)) ∧ (∀ y0 y1 y2 y3 y4 y5 y6, LeO (lockgatelaw15_EntryPaths.j1 k y0 y1 y2 y3 y4 y5 y6) (lockgatelaw15_EntryPaths.j1 (k + 1) y0 y1 y2 y3 y4 y5 y6)) ∧ (∀ y0 y1 y2 y3, LeO (lockgatelaw15_EntryPaths.j2 k y0 y1 y2 y3) (lockgatelaw15_EntryPaths.j2 (k + 1) y0 y1 y2 y3)) ∧ (∀ y0 y1 y2 y3 y4 y5, LeO (lockgatelaw15_EntryPaths.j3 k y0 y1 y2 y3 y4 y5) (lockgatelaw15_EntryPaths.j3 (k + 1) y0 y1 y2 y3 y4 y5)) ∧ (∀ y0 y1 y2 y3 y4 y5, LeO (lockgatelaw15_EntryPaths.l1 k y0 y1 y2 y3 y4 y5) (lockgatelaw15_EntryPaths.l1 (k + 1) y0 y1 y2 y3 y4 y5)) ∧ (∀ y0 y1 y2 y3 y4 y5 y6, LeO (lockgatelaw15_EntryPaths.l2 k y0 y1 y2 y3 y4 y5 y6) (lockgatelaw15_EntryPaths.l2 (k + 1) y0 y1 y2 y3 y4 y5 y6))
  | 0 => ⟨fun _ _ _ _ _ _ r h => by simp [lockgatelaw15_EntryPaths.l0] at h, fun _ _ _ _ _ _ _ r h => by simp [lockgatelaw15_EntryPaths.j1] at h, fun _ _ _ _ r h => by simp [lockgatelaw15_EntryPaths.j2] at h, fun _ _ _ _ _ _ r h => by simp [lockgatelaw15_EntryPaths.j3] at h, fun _ _ _ _ _ _ r h => by simp [lockgatelaw15_EntryPaths.l1] at h, fun _ _ _ _ _ _ _ r h => by simp [lockgatelaw15_EntryPaths.l2] at h⟩
  | k + 1 => by
    obtain ⟨ih0, ih1, ih2, ih3, ih4, ih5⟩ := lockgatelaw15_EntryPaths.mono_l k
    refine ⟨?_, ?_, ?_, ?_, ?_, ?_⟩
    · intro y0 y1 y2 y3 y4 y5
      unfold lockgatelaw15_EntryPaths.l0
      repeat' first
      | (with_reducible exact ih0 _ _ _ _ _ _)
      | (with_reducible exact ih1 _ _ _ _ _ _ _)
      | (with_reducible exact ih2 _ _ _ _)
      | (with_reducible exact ih3 _ _ _ _ _ _)
      | (with_reducible exact ih4 _ _ _ _ _ _)
      | (with_reducible exact ih5 _ _ _ _ _ _ _)
      | (with_reducible exact entry_Split.mono _ _)
      | (with_reducible exact lockgatelaw15_awake.mono _)
      | (with_reducible exact lockgateref15_SameNames.mono _ _ _)
      | (with_reducible exact LeO.refl _)
      | (with_reducible exact LeO.none _)
      | (with_reducible refine LeO.ite ?_ ?_)
      | (with_reducible refine LeO.bind ?_ (fun _ => ?_))
      | exact ih0 _ _ _ _ _ _
      | exact ih1 _ _ _ _ _ _ _
      | exact ih2 _ _ _ _
      | exact ih3 _ _ _ _ _ _
      | exact ih4 _ _ _ _ _ _
      | exact ih5 _ _ _ _ _ _ _
      | exact entry_Split.mono _ _
      | exact lockgatelaw15_awake.mono _
      | exact lockgateref15_SameNames.mono _ _ _
      | exact LeO.none _
      | refine LeO.ite ?_ ?_
      | refine LeO.bind ?_ (fun _ => ?_)
    · intro y0 y1 y2 y3 y4 y5 y6
      unfold lockgatelaw15_EntryPaths.j1
      repeat' first
      | (with_reducible exact ih0 _ _ _ _ _ _)
      | (with_reducible exact ih1 _ _ _ _ _ _ _)
      | (with_reducible exact ih2 _ _ _ _)
      | (with_reducible exact ih3 _ _ _ _ _ _)
      | (with_reducible exact ih4 _ _ _ _ _ _)
      | (with_reducible exact ih5 _ _ _ _ _ _ _)
      | (with_reducible exact entry_Split.mono _ _)
      | (with_reducible exact lockgatelaw15_awake.mono _)
      | (with_reducible exact lockgateref15_SameNames.mono _ _ _)
      | (with_reducible exact LeO.refl _)
      | (with_reducible exact LeO.none _)
      | (with_reducible refine LeO.ite ?_ ?_)
      | (with_reducible refine LeO.bind ?_ (fun _ => ?_))
      | exact ih0 _ _ _ _ _ _
      | exact ih1 _ _ _ _ _ _ _
      | exact ih2 _ _ _ _
      | exact ih3 _ _ _ _ _ _
      | exact ih4 _ _ _ _ _ _
      | exact ih5 _ _ _ _ _ _ _
      | exact entry_Split.mono _ _
      | exact lockgatelaw15_awake.mono _
      | exact lockgateref15_SameNames.mono _ _ _
      | exact LeO.none _
      | refine LeO.ite ?_ ?_
      | refine LeO.bind ?_ (fun _ => ?_)
    · intro y0 y1 y2 y3
      unfold lockgatelaw15_EntryPaths.j2
      repeat' first
      | (with_reducible exact ih0 _ _ _ _ _ _)
      | (with_reducible exact ih1 _ _ _ _ _ _ _)
      | (with_reducible exact ih2 _ _ _ _)
      | (with_reducible exact ih3 _ _ _ _ _ _)
      | (with_reducible exact ih4 _ _ _ _ _ _)
      | (with_reducible exact ih5 _ _ _ _ _ _ _)
      | (with_reducible exact entry_Split.mono _ _)
      | (with_reducible exact lockgatelaw15_awake.mono _)
      | (with_reducible exact lockgateref15_SameNames.mono _ _ _)
      | (with_reducible exact LeO.refl _)
      | (with_reducible exact LeO.none _)
      | (with_reducible refine LeO.ite ?_ ?_)
      | (with_reducible refine LeO.bind ?_ (fun _ => ?_))
      | exact ih0 _ _ _ _ _ _
      | exact ih1 _ _ _ _ _ _ _
      | exact ih2 _ _ _ _
      | exact ih3 _ _ _ _ _ _
      | exact ih4 _ _ _ _ _ _
      | exact ih5 _ _ _ _ _ _ _
      | exact entry_Split.mono _ _
      | exact lockgatelaw15_awake.mono _
      | exact lockgateref15_SameNames.mono _ _ _
      | exact LeO.none _
      | refine LeO.ite ?_ ?_
      | refine LeO.bind ?_ (fun _ => ?_)
    · intro y0 y1 y2 y3 y4 y5
      unfold lockgatelaw15_EntryPaths.j3
      repeat' first
      | (with_reducible exact ih0 _ _ _ _ _ _)
      | (with_reducible exact ih1 _ _ _ _ _ _ _)
      | (with_reducible exact ih2 _ _ _ _)
      | (with_reducible exact ih3 _ _ _ _ _ _)
      | (with_reducible exact ih4 _ _ _ _ _ _)
      | (with_reducible exact ih5 _ _ _ _ _ _ _)
      | (with_reducible exact entry_Split.mono _ _)
      | (with_reducible exact lockgatelaw15_awake.mono _)
      | (with_reducible exact lockgateref15_SameNames.mono _ _ _)
      | (with_reducible exact LeO.refl _)
      | (with_reducible exact LeO.none _)
      | (with_reducible refine LeO.ite ?_ ?_)
      | (with_reducible refine LeO.bind ?_ (fun _ => ?_))
      | exact ih0 _ _ _ _ _ _
      | exact ih1 _ _ _ _ _ _ _
      | exact ih2 _ _ _ _
      | exact ih3 _ _ _ _ _ _
      | exact ih4 _ _ _ _ _ _
      | exact ih5 _ _ _ _ _ _ _
      | exact entry_Split.mono _ _
      | exact lockgatelaw15_awake.mono _
      | exact lockgateref15_SameNames.mono _ _ _
      | exact LeO.none _
      | refine LeO.ite ?_ ?_
      | refine LeO.bind ?_ (fun _ => ?_)
    · intro y0 y1 y2 y3 y4 y5
      unfold lockgatelaw15_EntryPaths.l1
      repeat' first
      | (with_reducible exact ih0 _ _ _ _ _ _)
      | (with_reducible exact ih1 _ _ _ _ _ _ _)
      | (with_reducible exact ih2 _ _ _ _)
      | (with_reducible exact ih3 _ _ _ _ _ _)
      | (with_reducible exact ih4 _ _ _ _ _ _)
      | (with_reducible exact ih5 _ _ _ _ _ _ _)
      | (with_reducible exact entry_Split.mono _ _)
      | (with_reducible exact lockgatelaw15_awake.mono _)
      | (with_reducible exact lockgateref15_SameNames.mono _ _ _)
      | (with_reducible exact LeO.refl _)
      | (with_reducible exact LeO.none _)
      | (with_reducible refine LeO.ite ?_ ?_)
      | (with_reducible refine LeO.bind ?_ (fun _ => ?_))
      | exact ih0 _ _ _ _ _ _
      | exact ih1 _ _ _ _ _ _ _
      | exact ih2 _ _ _ _
      | exact ih3 _ _ _ _ _ _
      | exact ih4 _ _ _ _ _ _
      | exact ih5 _ _ _ _ _ _ _
      | exact entry_Split.mono _ _
      | exact lockgatelaw15_awake.mono _
      | exact lockgateref15_SameNames.mono _ _ _
      | exact LeO.none _
      | refine LeO.ite ?_ ?_
      | refine LeO.bind ?_ (fun _ => ?_)
    · intro y0 y1 y2 y3 y4 y5 y6
      unfold lockgatelaw15_EntryPaths.l2
      repeat' first
      | (with_reducible exact ih0 _ _ _ _ _ _)
      | (with_reducible exact ih1 _ _ _ _ _ _ _)
      | (with_reducible exact ih2 _ _ _ _)
      | (with_reducible exact ih3 _ _ _ _ _ _)
      | (with_reducible exact ih4 _ _ _ _ _ _)
      | (with_reducible exact ih5 _ _ _ _ _ _ _)
      | (with_reducible exact entry_Split.mono _ _)
      | (with_reducible exact lockgatelaw15_awake.mono _)
      | (with_reducible exact lockgateref15_SameNames.mono _ _ _)
      | (with_reducible exact LeO.refl _)
      | (with_reducible exact LeO.none _)
      | (with_reducible refine LeO.ite ?_ ?_)
      | (with_reducible refine LeO.bind ?_ (fun _ => ?_))
      | exact ih0 _ _ _ _ _ _
      | exact ih1 _ _ _ _ _ _ _
      | exact ih2 _ _ _ _
      | exact ih3 _ _ _ _ _ _
      | exact ih4 _ _ _ _ _ _
      | exact ih5 _ _ _ _ _ _ _
      | exact entry_Split.mono _ _
      | exact lockgatelaw15_awake.mono _
      | exact lockgateref15_SameNames.mono _ _ _
      | exact LeO.none _
      | refine LeO.ite ?_ ?_
      | refine LeO.bind ?_ (fun _ => ?_)
theorem lockgatelaw15_EntryPaths.mono : ∀ a0 k, LeO (lockgatelaw15_EntryPaths.f k a0) (lockgatelaw15_EntryPaths.f (k + 1) a0) := by
  intro a0 k
  obtain ⟨ih0, ih1, ih2, ih3, ih4, ih5⟩ := lockgatelaw15_EntryPaths.mono_l k
  unfold lockgatelaw15_EntryPaths.f
  repeat' first
      | (with_reducible exact ih0 _ _ _ _ _ _)
      | (with_reducible exact ih1 _ _ _ _ _ _ _)
      | (with_reducible exact ih2 _ _ _ _)
      | (with_reducible exact ih3 _ _ _ _ _ _)
      | (with_reducible exact ih4 _ _ _ _ _ _)
      | (with_reducible exact ih5 _ _ _ _ _ _ _)
      | (with_reducible exact entry_Split.mono _ _)
      | (with_reducible exact lockgatelaw15_awake.mono _)
      | (with_reducible exact lockgateref15_SameNames.mono _ _ _)
      | (with_reducible exact LeO.refl _)
      | (with_reducible exact LeO.none _)
      | (with_reducible refine LeO.ite ?_ ?_)
      | (with_reducible refine LeO.bind ?_ (fun _ => ?_))
      | exact ih0 _ _ _ _ _ _
      | exact ih1 _ _ _ _ _ _ _
      | exact ih2 _ _ _ _
      | exact ih3 _ _ _ _ _ _
      | exact ih4 _ _ _ _ _ _
      | exact ih5 _ _ _ _ _ _ _
      | exact entry_Split.mono _ _
      | exact lockgatelaw15_awake.mono _
      | exact lockgateref15_SameNames.mono _ _ _
      | exact LeO.none _
      | refine LeO.ite ?_ ?_
      | refine LeO.bind ?_ (fun _ => ?_)
set_option maxHeartbeats 8000000 in
set_option maxRecDepth 100000 in
theorem lockgatelaw15_EntryPaths.calls (k : Nat) (A0 : Option Addr) (c0 : Nat) (l0 : List ByteArray) (r : Bool) (w : World) (hr0 : Kd.C Kd.string w A0 l0.length l0) (hc0 : l0.length ≤ c0) (h : lockgatelaw15_EntryPaths.f k l0 = some r) :
    Calls Tryd.prog 4 #[.slice A0 l0.length c0] w fun e w' => e = .returned (.bool r) ∧ Below w.heap.size w w' := by
  have HR0 := Aside0.mk hr0
  have HC0 := Aside0.mk hc0
  clear hr0 hc0
  have HB := Aside0.mk (Below.refl w.heap.size w)
  have H : ((lockgatelaw15_awake.f k).bind fun t178 => (lockgatelaw15_EntryPaths.l0 k l0 t178 (⟨#[]⟩ : ByteArray) ([] : List ByteArray) true 0)) = some r := h
  clear h
  replace H := Option.bind_eq_some_iff.mp H
  obtain ⟨t178, A20, H⟩ := H
  replace H : (lockgatelaw15_EntryPaths.l0 k l0 t178 (⟨#[]⟩ : ByteArray) ([] : List ByteArray) true 0) = some r := H
  have A2 := Aside0.mk A20
  clear A20
  have H' := Aside0.mk H
  clear H
  go_enter Tryd.func4, Tryd.ntmps4
  go_wp2_with (first | ((with_reducible refine gate_callee (f := 10) rfl ?_); refine goesL_ (some 15) rfl rfl Tryd.func10 (by kernel_rfl) rfl #[] rfl (by (try simp only [List.map_toArray, List.map_cons, List.map_nil]); first | done | rfl | (simp only [List.length_drop, List.length_take]; rfl)) ?_; (with_reducible refine (lockgatelaw15_awake.calls k  t178 _ A2.out).mono ?_); rintro e w3 ⟨rfl, hb⟩; refine ⟨_, rfl, ?_⟩; have n0_ := Aside0.mk (below_step (by repeat (first | (with_reducible first | exact HB.out | apply below_alloc | apply pw_below_drewN | apply below_drew1) | exact HB.out)) hb); clear HB; have HB := n0_; clear n0_; (try clear hb); (try clear hb2); (try clear hk); (try clear hi)))
  go_loopg [4, 5, 6, 7] k (fun kq v4 v5 v6 v7 w' => ∃ (x4_1 : ByteArray) (x5_1 : List ByteArray) (x6_1 : Bool) (x7_1 : Int), v4 = .string x4_1 ∧ v6 = .bool x6_1 ∧ v7 = .int .i64 x7_1 ∧ Aside0 (lockgatelaw15_EntryPaths.l0 kq l0 t178 x4_1 x5_1 x6_1 x7_1 = some r) ∧ Aside0 (kq ≤ k) ∧ Aside0 (Kd.R Kd.string 9 w' w.heap.size (fun _ => True) v5 x5_1) ∧ Aside0 (Below w.heap.size w w'))
  case atStart => exact ⟨((⟨#[]⟩ : ByteArray)), (([] : List ByteArray)), (true), (0), (by first | rfl | (simp; done) | (simp [*]; done)), (by first | rfl | (simp; done) | (simp [*]; done)), (by first | rfl | (simp; done) | (simp [*]; done)), H', ⟨Nat.le_refl _⟩, ⟨by first | exact Kd.R_nil _ _ _ _ _ | exact Kd.N_nil _ _ _ _ _ | exact Kd.V_nil _ _ _ _ _ | exact Kd.Q_nil _ _ _ _ _ | exact Kd.S_nil _ _ _ _ _⟩, ⟨by repeat (first | (with_reducible first | exact HB.out | apply below_alloc | apply pw_below_drewN | apply below_drew1) | exact HB.out)⟩⟩
  case round =>
    clear H'
    try clear c1
    try clear p2
    obtain ⟨x4_1, x5_1, x6_1, x7_1, rfl, rfl, rfl, HA, HK1, HO_5, HB⟩ := hrel
    cases gk with
    | zero => exact absurd HA.out (by simp [lockgatelaw15_EntryPaths.l0])
    | succ k1 =>
      have H := HA.out
      clear HA
      simp only [lockgatelaw15_EntryPaths.l0] at H
      have HC4 := Aside0.mk H
      clear H
      go_upto_region 6 with (fail)
      go_cut [23] (fun v23 wc => ∃ (kq : Nat) (x23_3 : Bool), v23 = .bool x23_3 ∧ Aside0 (lockgatelaw15_EntryPaths.j1 kq l0 t178 x4_1 x5_1 x6_1 x7_1 x23_3 = some r) ∧ Aside0 (kq ≤ k1) ∧ Aside0 (Kd.R Kd.string 9 wc w.heap.size (fun _ => True) u5 x5_1) ∧ Aside0 (Below w.heap.size w wc))
      case first =>
        have H := HC4.out
        clear HC4
        by_cases c5 : x7_1 < (l0.length : Int)
        · rw [if_pos c5] at H
          have c5b0 : decide (x7_1 < (l0.length : Int)) = true := decide_eq_true c5
          clear c5
          (first | rw [c5b0] | (simp only [i64_w, i32_w]; rw [c5b0]) | skip)
          have H' := Aside0.mk H
          clear H
          go_wp2
          go_meet
          case rel => exact ⟨_, (decide (x7_1 < 10)), (by first | rfl | (simp; done) | (simp [*]; done)), H', ⟨by have := HK1.out; first | omega | exact Nat.le_refl _⟩, ⟨by (with_reducible repeat (first | apply Kd.R_alloc | apply Kd.R_drewN | apply Kd.R_drew)); exact HO_5.out⟩, ⟨by repeat (first | (with_reducible first | exact HB.out | apply below_alloc | apply pw_below_drewN | apply below_drew1) | exact HB.out)⟩⟩
        · rw [if_neg c5] at H
          have c5b0 : decide (x7_1 < (l0.length : Int)) = false := decide_eq_false c5
          clear c5
          (first | rw [c5b0] | (simp only [i64_w, i32_w]; rw [c5b0]) | skip)
          have H' := Aside0.mk H
          clear H
          go_wp2
          go_meet
          case rel => exact ⟨_, (false), (by first | rfl | (simp; done) | (simp [*]; done)), H', ⟨by have := HK1.out; first | omega | exact Nat.le_refl _⟩, ⟨by (with_reducible repeat (first | apply Kd.R_alloc | apply Kd.R_drewN | apply Kd.R_drew)); exact HO_5.out⟩, ⟨by repeat (first | (with_reducible first | exact HB.out | apply below_alloc | apply pw_below_drewN | apply below_drew1) | exact HB.out)⟩⟩
      case rest =>
        clear HC4
        try clear c1
        try clear p2
        try clear c4
        try clear c5
        try clear c5b0
        try clear p2
        obtain ⟨kq, x23_3, rfl, HA, HJ3, HO_5, HB⟩ := hcut
        cases kq with
        | zero => exact absurd HA.out (by simp [lockgatelaw15_EntryPaths.j1])
        | succ kj3 =>
          have H := HA.out
          clear HA
          simp only [lockgatelaw15_EntryPaths.j1] at H
          by_cases c6 : x23_3 = true
          · subst c6
            have H1 : (if 0 ≤ x7_1 then (if x7_1 < (l0.length : Int) then ((lockgatelaw15_short.f (rdOf ByteArray.empty l0 x7_1) 40).bind fun t180 => (if x4_1.size + 1 ≤ 9223372036854775807 then (if (x4_1 ++ (⟨#[47]⟩ : ByteArray)).size + t180.size ≤ 9223372036854775807 then (if x5_1.length < 8796093022208 then ((some (x5_1 ++ [t180] : List ByteArray)).bind fun y181 => (if x6_1 = true then ((entry_Name.f t180).bind fun t184 => (lockgatelaw15_EntryPaths.l0 kj3 l0 t178 ((x4_1 ++ (⟨#[47]⟩ : ByteArray)) ++ t180) y181 t184 (wrap64 (x7_1 + 1)))) else (lockgatelaw15_EntryPaths.l0 kj3 l0 t178 ((x4_1 ++ (⟨#[47]⟩ : ByteArray)) ++ t180) y181 false (wrap64 (x7_1 + 1))))) else (none)) else (none)) else (none))) else (none)) else (none)) = some r := by rw [if_pos rfl] at H; exact H
            clear H
            have H := H1
            clear H1
            by_cases c7 : 0 ≤ x7_1
            · rw [if_pos c7] at H
              have c7b0 : decide (0 ≤ x7_1) = true := decide_eq_true c7
              clear c7
              by_cases c8 : x7_1 < (l0.length : Int)
              · rw [if_pos c8] at H
                have c8b0 : decide (x7_1 < (l0.length : Int)) = true := decide_eq_true c8
                clear c8
                replace H := Option.bind_eq_some_iff.mp H
                obtain ⟨t180, A90, H⟩ := H
                replace H : (if x4_1.size + 1 ≤ 9223372036854775807 then (if (x4_1 ++ (⟨#[47]⟩ : ByteArray)).size + t180.size ≤ 9223372036854775807 then (if x5_1.length < 8796093022208 then ((some (x5_1 ++ [t180] : List ByteArray)).bind fun y181 => (if x6_1 = true then ((entry_Name.f t180).bind fun t184 => (lockgatelaw15_EntryPaths.l0 kj3 l0 t178 ((x4_1 ++ (⟨#[47]⟩ : ByteArray)) ++ t180) y181 t184 (wrap64 (x7_1 + 1)))) else (lockgatelaw15_EntryPaths.l0 kj3 l0 t178 ((x4_1 ++ (⟨#[47]⟩ : ByteArray)) ++ t180) y181 false (wrap64 (x7_1 + 1))))) else (none)) else (none)) else (none)) = some r := H
                have A9 := Aside0.mk A90
                clear A90
                by_cases c10 : x4_1.size + 1 ≤ 9223372036854775807
                · rw [if_pos c10] at H
                  have c10b0 := eq_true c10
                  have c10b1 : decide (x4_1.size + 1 ≤ 9223372036854775807) = true := decide_eq_true c10
                  try have c10b2 : (9223372036854775807 < x4_1.size + 1) = False := eq_false (Nat.not_lt.2 c10)
                  by_cases c11 : (x4_1 ++ (⟨#[47]⟩ : ByteArray)).size + t180.size ≤ 9223372036854775807
                  · rw [if_pos c11] at H
                    have c11b0 := eq_true c11
                    have c11b1 : decide ((x4_1 ++ (⟨#[47]⟩ : ByteArray)).size + t180.size ≤ 9223372036854775807) = true := decide_eq_true c11
                    try have c11b2 : (9223372036854775807 < (x4_1 ++ (⟨#[47]⟩ : ByteArray)).size + t180.size) = False := eq_false (Nat.not_lt.2 c11)
                    by_cases c12 : x5_1.length < 8796093022208
                    · rw [if_pos c12] at H
                      have LMc12 := Aside0.mk c12
                      clear c12
                      obtain ⟨y181, hy181⟩ : ∃ y_ : List ByteArray, y_ = (x5_1 ++ [t180]) := ⟨_, rfl⟩
                      replace H : (if x6_1 = true then ((entry_Name.f t180).bind fun t184 => (lockgatelaw15_EntryPaths.l0 kj3 l0 t178 ((x4_1 ++ (⟨#[47]⟩ : ByteArray)) ++ t180) y181 t184 (wrap64 (x7_1 + 1)))) else (lockgatelaw15_EntryPaths.l0 kj3 l0 t178 ((x4_1 ++ (⟨#[47]⟩ : ByteArray)) ++ t180) y181 false (wrap64 (x7_1 + 1)))) = some r := by first | (rw [hy181]; with_reducible exact H) | (have H2_ := (Option.bind_some _ _).symm.trans H; rw [hy181]; with_reducible exact H2_) | (have H2_ := (Option.bind_some _ _).symm.trans H; with_reducible exact H2_) | with_reducible exact H | (rw [hy181]; exact H) | exact H
                      have Ny181 := Aside0.mk hy181
                      clear hy181
                      by_cases c13 : x6_1 = true
                      · subst c13
                        have H1 : ((entry_Name.f t180).bind fun t184 => (lockgatelaw15_EntryPaths.l0 kj3 l0 t178 ((x4_1 ++ (⟨#[47]⟩ : ByteArray)) ++ t180) y181 t184 (wrap64 (x7_1 + 1)))) = some r := by rw [if_pos rfl] at H; exact H
                        clear H
                        have H := H1
                        clear H1
                        replace H := Option.bind_eq_some_iff.mp H
                        obtain ⟨t184, A140, H⟩ := H
                        replace H : (lockgatelaw15_EntryPaths.l0 kj3 l0 t178 ((x4_1 ++ (⟨#[47]⟩ : ByteArray)) ++ t180) y181 t184 (wrap64 (x7_1 + 1))) = some r := H
                        have A14 := Aside0.mk A140
                        clear A140
                        have H' := Aside0.mk H
                        clear H
                        have p179 : 0 ≤ (x7_1 : Int) := of_decide_eq_true (by first | (with_reducible assumption) | assumption)
                        have q179 : x7_1 < (l0.length : Int) := of_decide_eq_true (by first | (with_reducible assumption) | assumption)
                        obtain ⟨ad179, e179, hx179_0⟩ := Kd.at_string HR0.out x7_1 p179 q179
                        cases e179
                        replace hx179_0 := (HB.out.cell (World.block_lt_of_cell? w _ hx179_0)).trans hx179_0
                        replace p179 := eq_true p179
                        replace q179 := eq_true q179
                        go_wp2_with (first | ((with_reducible refine gate_callee (f := 11) rfl ?_); refine goesL_ (some 30) rfl rfl Tryd.func11 (by kernel_rfl) rfl #[.string (rdOf ByteArray.empty l0 x7_1), .int .i64 40] rfl (by (try simp only [List.map_toArray, List.map_cons, List.map_nil]); first | done | rfl | (simp only [List.length_drop, List.length_take]; rfl)) ?_; (with_reducible refine (lockgatelaw15_short.calls (rdOf ByteArray.empty l0 x7_1) 40 t180 _ A9.out).mono ?_); rintro e w' ⟨rfl, ⟨nd, rfl⟩⟩; refine ⟨_, rfl, ?_⟩) | ((with_reducible refine gate_builtin (b := .append) (xs := #[.tmp 35, .tmp 37]) rfl ?_); (try (refine gate_guard (by rfl) ?_; dsimp only)); at_builtin; refine Kd.R_append Kd.string (w0 := w) w.heap.size rfl (.tmp 35) (.tmp 37) 24 9 (.string ⟨#[]⟩) 16 rfl Tryd.underlying24 info9 rfl (by decide) (by omega) u5 x5_1 t180 [.string t180] (fun _ => True) (fun _ => False) rfl rfl ?aP (fun _ hk => hk.elim) ?aF ?aO ?aB ?aS ?aL ?_; (case aP => exact rfl); (case aB => exact (by repeat (first | (with_reducible first | exact HB.out | apply below_alloc | apply pw_below_drewN | apply below_drew1) | exact HB.out))); (case aF => exact (fun _ _ => trivial)); (case aO => exact (by (with_reducible repeat (first | apply Kd.R_alloc | apply Kd.R_drewN | apply Kd.R_drew)); exact HO_5.out)); (case aS => exact (below_size (by repeat (first | (with_reducible first | exact HB.out | apply below_alloc | apply pw_below_drewN | apply below_drew1) | exact HB.out)))); (case aL => have := LMc12.out; omega); intro v182 w15 ho hb hg hat; rw [← Ny181.out] at ho; have n0_ := Aside0.mk (hb); have n1_ := Aside0.mk (ho); clear HB; clear HO_5; have HB := n0_; have HO183 := n1_; clear n0_ n1_; clear ho hb hg hat) | (go_at_call 15; (with_reducible refine (entry_Name.calls t180 t184 _ A14.out).mono ?_); rintro e w16 ⟨rfl, hb⟩; have n0_ := Aside0.mk (Kd.R_below (by (with_reducible repeat (first | apply Kd.R_alloc | apply Kd.R_drewN | apply Kd.R_drew)); exact HO183.out) hb); have n1_ := Aside0.mk (below_step (by repeat (first | (with_reducible first | exact HB.out | apply below_alloc | apply pw_below_drewN | apply below_drew1) | exact HB.out)) hb); clear HO183; clear HB; have HO183 := n0_; have HB := n1_; clear n0_ n1_; (try clear hb); (try clear hb2); (try clear hk); (try clear hi)))
                        go_roundg kj3
                        case measure => have := HK1.out; have := HJ3.out; omega
                        case rel => exact ⟨((x4_1 ++ (⟨#[47]⟩ : ByteArray)) ++ t180), (y181), (t184), (wrap64 (x7_1 + 1)), (by first | rfl | (simp; done) | (simp [*]; done)), (by first | rfl | (simp; done) | (simp [*]; done)), (by first | rfl | (simp; done) | (simp [*]; done)), H', ⟨by have := HK1.out; have := HJ3.out; omega⟩, ⟨by (with_reducible repeat (first | apply Kd.R_alloc | apply Kd.R_drewN | apply Kd.R_drew)); exact HO183.out⟩, ⟨by repeat (first | (with_reducible first | exact HB.out | apply below_alloc | apply pw_below_drewN | apply below_drew1) | exact HB.out)⟩⟩
                      · replace c13 := Bool.eq_false_iff.mpr c13
                        subst c13
                        have H1 : (lockgatelaw15_EntryPaths.l0 kj3 l0 t178 ((x4_1 ++ (⟨#[47]⟩ : ByteArray)) ++ t180) y181 false (wrap64 (x7_1 + 1))) = some r := by rw [if_neg (show ¬ (false = true) by decide)] at H; exact H
                        clear H
                        have H := H1
                        clear H1
                        have H' := Aside0.mk H
                        clear H
                        have p179 : 0 ≤ (x7_1 : Int) := of_decide_eq_true (by first | (with_reducible assumption) | assumption)
                        have q179 : x7_1 < (l0.length : Int) := of_decide_eq_true (by first | (with_reducible assumption) | assumption)
                        obtain ⟨ad179, e179, hx179_0⟩ := Kd.at_string HR0.out x7_1 p179 q179
                        cases e179
                        replace hx179_0 := (HB.out.cell (World.block_lt_of_cell? w _ hx179_0)).trans hx179_0
                        replace p179 := eq_true p179
                        replace q179 := eq_true q179
                        go_wp2_with (first | ((with_reducible refine gate_callee (f := 11) rfl ?_); refine goesL_ (some 30) rfl rfl Tryd.func11 (by kernel_rfl) rfl #[.string (rdOf ByteArray.empty l0 x7_1), .int .i64 40] rfl (by (try simp only [List.map_toArray, List.map_cons, List.map_nil]); first | done | rfl | (simp only [List.length_drop, List.length_take]; rfl)) ?_; (with_reducible refine (lockgatelaw15_short.calls (rdOf ByteArray.empty l0 x7_1) 40 t180 _ A9.out).mono ?_); rintro e w' ⟨rfl, ⟨nd, rfl⟩⟩; refine ⟨_, rfl, ?_⟩) | ((with_reducible refine gate_builtin (b := .append) (xs := #[.tmp 35, .tmp 37]) rfl ?_); (try (refine gate_guard (by rfl) ?_; dsimp only)); at_builtin; refine Kd.R_append Kd.string (w0 := w) w.heap.size rfl (.tmp 35) (.tmp 37) 24 9 (.string ⟨#[]⟩) 16 rfl Tryd.underlying24 info9 rfl (by decide) (by omega) u5 x5_1 t180 [.string t180] (fun _ => True) (fun _ => False) rfl rfl ?aP (fun _ hk => hk.elim) ?aF ?aO ?aB ?aS ?aL ?_; (case aP => exact rfl); (case aB => exact (by repeat (first | (with_reducible first | exact HB.out | apply below_alloc | apply pw_below_drewN | apply below_drew1) | exact HB.out))); (case aF => exact (fun _ _ => trivial)); (case aO => exact (by (with_reducible repeat (first | apply Kd.R_alloc | apply Kd.R_drewN | apply Kd.R_drew)); exact HO_5.out)); (case aS => exact (below_size (by repeat (first | (with_reducible first | exact HB.out | apply below_alloc | apply pw_below_drewN | apply below_drew1) | exact HB.out)))); (case aL => have := LMc12.out; omega); intro v182 w17 ho hb hg hat; rw [← Ny181.out] at ho; have n0_ := Aside0.mk (hb); have n1_ := Aside0.mk (ho); clear HB; clear HO_5; have HB := n0_; have HO183 := n1_; clear n0_ n1_; clear ho hb hg hat))
                        go_roundg kj3
                        case measure => have := HK1.out; have := HJ3.out; omega
                        case rel => exact ⟨((x4_1 ++ (⟨#[47]⟩ : ByteArray)) ++ t180), (y181), (false), (wrap64 (x7_1 + 1)), (by first | rfl | (simp; done) | (simp [*]; done)), (by first | rfl | (simp; done) | (simp [*]; done)), (by first | rfl | (simp; done) | (simp [*]; done)), H', ⟨by have := HK1.out; have := HJ3.out; omega⟩, ⟨by (with_reducible repeat (first | apply Kd.R_alloc | apply Kd.R_drewN | apply Kd.R_drew)); exact HO183.out⟩, ⟨by repeat (first | (with_reducible first | exact HB.out | apply below_alloc | apply pw_below_drewN | apply below_drew1) | exact HB.out)⟩⟩
                    · rw [if_neg c12] at H
                      exact absurd H (by simp)
                  · rw [if_neg c11] at H
                    exact absurd H (by simp)
                · rw [if_neg c10] at H
                  exact absurd H (by simp)
              · rw [if_neg c8] at H
                exact absurd H (by simp)
            · rw [if_neg c7] at H
              exact absurd H (by simp)
          · replace c6 := Bool.eq_false_iff.mpr c6
            subst c6
            have H1 : (if (x5_1.length : Int) = 0 then (lockgatelaw15_EntryPaths.j2 kj3 t178 (⟨#[47]⟩ : ByteArray) x5_1 x6_1) else (lockgatelaw15_EntryPaths.j2 kj3 t178 x4_1 x5_1 x6_1)) = some r := by rw [if_neg (show ¬ (false = true) by decide)] at H; exact H
            clear H
            have H := H1
            clear H1
            have HC18 := Aside0.mk H
            clear H
            obtain ⟨Ao19, co19, eo19⟩ := Kd.R_slice HO_5.out
            subst eo19
            go_upto_if 46 with (fail)
            go_cut [4] (fun v4 wc => ∃ (kq : Nat) (x4_17 : ByteArray), v4 = .string x4_17 ∧ Aside0 (lockgatelaw15_EntryPaths.j2 kq t178 x4_17 x5_1 x6_1 = some r) ∧ Aside0 (kq ≤ kj3) ∧ Aside0 (Kd.R Kd.string 9 wc w.heap.size (fun _ => True) (.slice Ao19 x5_1.length co19) x5_1) ∧ Aside0 (Below w.heap.size w wc))
            case first =>
              have H := HC18.out
              clear HC18
              by_cases c20 : (x5_1.length : Int) = 0
              · rw [if_pos c20] at H
                have c20b0 : ((x5_1.length : Int) == 0) = true := beq_iff_eq.mpr c20
                have c20b1 : ((x5_1.length : Int) != 0) = false := bne_eq_false_iff_eq.mpr c20
                clear c20
                (first | rw [c20b0] | (simp only [i64_w, i32_w]; rw [c20b0]) | skip)
                have H' := Aside0.mk H
                clear H
                go_wp2
                go_meet
                case rel => exact ⟨_, ((⟨#[47]⟩ : ByteArray)), (by first | rfl | (simp; done) | (simp [*]; done)), H', ⟨by have := HK1.out; have := HJ3.out; first | omega | exact Nat.le_refl _⟩, ⟨by (with_reducible repeat (first | apply Kd.R_alloc | apply Kd.R_drewN | apply Kd.R_drew)); exact HO_5.out⟩, ⟨by repeat (first | (with_reducible first | exact HB.out | apply below_alloc | apply pw_below_drewN | apply below_drew1) | exact HB.out)⟩⟩
              · rw [if_neg c20] at H
                have c20b0 : ((x5_1.length : Int) == 0) = false := beq_eq_false_iff_ne.mpr c20
                have c20b1 : ((x5_1.length : Int) != 0) = true := bne_iff_ne.mpr c20
                have c20b2 : ¬ (x5_1 = []) := fun h_ => c20 (by rw [h_]; rfl)
                (first | rw [c20b0] | (simp only [i64_w, i32_w]; rw [c20b0]) | skip)
                have H' := Aside0.mk H
                clear H
                go_wp2
                go_meet
                case rel => exact ⟨_, (x4_1), (by first | rfl | (simp; done) | (simp [*]; done)), H', ⟨by have := HK1.out; have := HJ3.out; first | omega | exact Nat.le_refl _⟩, ⟨by (with_reducible repeat (first | apply Kd.R_alloc | apply Kd.R_drewN | apply Kd.R_drew)); exact HO_5.out⟩, ⟨by repeat (first | (with_reducible first | exact HB.out | apply below_alloc | apply pw_below_drewN | apply below_drew1) | exact HB.out)⟩⟩
            case rest =>
              clear HC18
              try clear c1
              try clear p1
              try clear q1
              try clear hx1
              try clear c2
              try clear p2
              try clear c4
              try clear c5
              try clear c5b0
              try clear c6
              try clear p6
              try clear c7
              try clear c7b0
              try clear c8
              try clear c8b0
              try clear c10
              try clear c10b0
              try clear c10b1
              try clear c10b2
              try clear c11
              try clear c11b0
              try clear c11b1
              try clear c11b2
              try clear c12
              try clear c13
              try clear p17
              try clear q17
              try clear hx17
              try clear c20
              try clear c20b0
              try clear c20b1
              try clear c20b2
              try clear hx179_0
              try clear p179
              try clear p2
              try clear q179
              obtain ⟨kq, x4_17, rfl, HA, HJ17, HO_5, HB⟩ := hcut
              cases kq with
              | zero => exact absurd HA.out (by simp [lockgatelaw15_EntryPaths.j2])
              | succ kj17 =>
                have H := HA.out
                clear HA
                simp only [lockgatelaw15_EntryPaths.j2] at H
                replace H := Option.bind_eq_some_iff.mp H
                obtain ⟨⟨t185, t186⟩, A210, H⟩ := H
                replace H : (if x6_1 = true then (lockgatelaw15_EntryPaths.j3 kj17 t178 x4_17 x5_1 t185 t186 (decide ((x5_1.length : Int) > 8))) else (lockgatelaw15_EntryPaths.j3 kj17 t178 x4_17 x5_1 t185 t186 true)) = some r := H
                have A21 := Aside0.mk A210
                clear A210
                have HC22 := Aside0.mk H
                clear H
                go_upto_region 15 with (first | ((with_reducible refine gate_callee (f := 12) rfl ?_); refine goesL_ (some 49) rfl rfl Tryd.func12 (by kernel_rfl) rfl #[.string x4_17] rfl (by (try simp only [List.map_toArray, List.map_cons, List.map_nil]); first | done | rfl | (simp only [List.length_drop, List.length_take]; rfl)) ?_; (with_reducible refine (entry_Split.calls kj17 x4_17 t185 t186 _ A21.out).mono ?_); rintro e w23 ⟨v187, rfl, ho0, hb⟩; refine ⟨_, rfl, ?_⟩; have n0_ := Aside0.mk (Kd.R_elder' (by (with_reducible repeat (first | apply Kd.R_alloc | apply Kd.R_drewN | apply Kd.R_drew)); exact HO_5.out) (Kd.R_base ho0) hb); have n1_ := Aside0.mk (Kd.R_lower (Kd.R_new' ho0 (Kd.R_lt (by (with_reducible repeat (first | apply Kd.R_alloc | apply Kd.R_drewN | apply Kd.R_drew)); exact HO_5.out))) (below_size (by repeat (first | (with_reducible first | exact HB.out | apply below_alloc | apply pw_below_drewN | apply below_drew1) | exact HB.out)))); have n2_ := Aside0.mk (below_step (by repeat (first | (with_reducible first | exact HB.out | apply below_alloc | apply pw_below_drewN | apply below_drew1) | exact HB.out)) hb); clear HO_5; clear HB; have HO_5 := n0_; have HO188 := n1_; have HB := n2_; clear n0_ n1_ n2_; (try clear hb); (try clear hb2); (try clear hk); (try clear hi); (try clear ho0)))
                (try simp only [Act.put, List.setIfInBounds_toArray, List.set_cons_zero, List.set_cons_succ])
                go_cut [58] (fun v58 wc => ∃ (kq : Nat) (x58_21 : Bool), v58 = .bool x58_21 ∧ Aside0 (lockgatelaw15_EntryPaths.j3 kq t178 x4_17 x5_1 t185 t186 x58_21 = some r) ∧ Aside0 (kq ≤ kj17) ∧ Aside0 (Kd.R Kd.string 9 wc w.heap.size (fun k_ => some k_ ≠ (v187 : Value).ownBlock) (.slice Ao19 x5_1.length co19) x5_1) ∧ Aside0 (Kd.R Kd.string 9 wc w.heap.size (fun k_ => some k_ ≠ ((.slice Ao19 x5_1.length co19) : Value).ownBlock) v187 t185) ∧ Aside0 (Below w.heap.size w wc))
                case first =>
                  have H := HC22.out
                  clear HC22
                  by_cases c24 : x6_1 = true
                  · subst c24
                    have H1 : (lockgatelaw15_EntryPaths.j3 kj17 t178 x4_17 x5_1 t185 t186 (decide ((x5_1.length : Int) > 8))) = some r := by rw [if_pos rfl] at H; exact H
                    clear H
                    have H := H1
                    clear H1
                    have H' := Aside0.mk H
                    clear H
                    go_wp2
                    go_meet
                    case rel => exact ⟨_, (decide ((x5_1.length : Int) > 8)), (by first | rfl | (simp; done) | (simp [*]; done)), H', ⟨by have := HK1.out; have := HJ3.out; have := HJ17.out; first | omega | exact Nat.le_refl _⟩, ⟨by (with_reducible repeat (first | apply Kd.R_alloc | apply Kd.R_drewN | apply Kd.R_drew)); exact Kd.R_mono HO_5.out (fun _ hk => hk.2)⟩, ⟨by (with_reducible repeat (first | apply Kd.R_alloc | apply Kd.R_drewN | apply Kd.R_drew)); exact Kd.R_mono HO188.out (fun _ hk => hk.2)⟩, ⟨by repeat (first | (with_reducible first | exact HB.out | apply below_alloc | apply pw_below_drewN | apply below_drew1) | exact HB.out)⟩⟩
                  · replace c24 := Bool.eq_false_iff.mpr c24
                    subst c24
                    have H1 : (lockgatelaw15_EntryPaths.j3 kj17 t178 x4_17 x5_1 t185 t186 true) = some r := by rw [if_neg (show ¬ (false = true) by decide)] at H; exact H
                    clear H
                    have H := H1
                    clear H1
                    have H' := Aside0.mk H
                    clear H
                    go_wp2
                    go_meet
                    case rel => exact ⟨_, (true), (by first | rfl | (simp; done) | (simp [*]; done)), H', ⟨by have := HK1.out; have := HJ3.out; have := HJ17.out; first | omega | exact Nat.le_refl _⟩, ⟨by (with_reducible repeat (first | apply Kd.R_alloc | apply Kd.R_drewN | apply Kd.R_drew)); exact Kd.R_mono HO_5.out (fun _ hk => hk.2)⟩, ⟨by (with_reducible repeat (first | apply Kd.R_alloc | apply Kd.R_drewN | apply Kd.R_drew)); exact Kd.R_mono HO188.out (fun _ hk => hk.2)⟩, ⟨by repeat (first | (with_reducible first | exact HB.out | apply below_alloc | apply pw_below_drewN | apply below_drew1) | exact HB.out)⟩⟩
                case rest =>
                  clear HC22
                  try clear c1
                  try clear p1
                  try clear q1
                  try clear hx1
                  try clear c2
                  try clear p2
                  try clear c4
                  try clear c5
                  try clear c5b0
                  try clear c6
                  try clear p6
                  try clear c7
                  try clear c7b0
                  try clear c8
                  try clear c8b0
                  try clear c10
                  try clear c10b0
                  try clear c10b1
                  try clear c10b2
                  try clear c11
                  try clear c11b0
                  try clear c11b1
                  try clear c11b2
                  try clear c12
                  try clear c13
                  try clear p17
                  try clear q17
                  try clear hx17
                  try clear c20
                  try clear c20b0
                  try clear c20b1
                  try clear c20b2
                  try clear c24
                  try clear hx179_0
                  try clear p1
                  try clear p17
                  try clear p179
                  try clear p2
                  try clear p6
                  try clear q1
                  try clear q17
                  try clear q179
                  obtain ⟨kq, x58_21, rfl, HA, HJ21, HO_5, HO_9, HB⟩ := hcut
                  cases kq with
                  | zero => exact absurd HA.out (by simp [lockgatelaw15_EntryPaths.j3])
                  | succ kj21 =>
                    have H := HA.out
                    clear HA
                    simp only [lockgatelaw15_EntryPaths.j3] at H
                    by_cases c25 : x58_21 = true
                    · subst c25
                      have H1 : (lockgatelaw15_EntryPaths.l1 kj21 t178 x4_17 x5_1 t186 false 0) = some r := by rw [if_pos rfl] at H; exact H
                      clear H
                      have H := H1
                      clear H1
                      have H' := Aside0.mk H
                      clear H
                      go_wp2
                      go_loopg [11, 12] kj21 (fun kq v11 v12 w' => ∃ (x11_5 : Bool) (x12_5 : Int), v11 = .bool x11_5 ∧ v12 = .int .i64 x12_5 ∧ Aside0 (lockgatelaw15_EntryPaths.l1 kq t178 x4_17 x5_1 t186 x11_5 x12_5 = some r) ∧ Aside0 (kq ≤ kj21) ∧ Aside0 (Kd.R Kd.string 9 w' w.heap.size (fun _ => True) (.slice Ao19 x5_1.length co19) x5_1) ∧ Aside0 (Below w.heap.size w w'))
                      case atStart => exact ⟨(false), (0), (by first | rfl | (simp; done) | (simp [*]; done)), (by first | rfl | (simp; done) | (simp [*]; done)), H', ⟨Nat.le_refl _⟩, ⟨by (with_reducible repeat (first | apply Kd.R_alloc | apply Kd.R_drewN | apply Kd.R_drew)); exact Kd.R_mono HO_5.out (fun _ hk => trivial)⟩, ⟨by repeat (first | (with_reducible first | exact HB.out | apply below_alloc | apply pw_below_drewN | apply below_drew1) | exact HB.out)⟩⟩
                      case round =>
                        clear H'
                        try clear c1
                        try clear p1
                        try clear q1
                        try clear hx1
                        try clear c2
                        try clear p2
                        try clear c4
                        try clear c5
                        try clear c5b0
                        try clear c6
                        try clear p6
                        try clear c7
                        try clear c7b0
                        try clear c8
                        try clear c8b0
                        try clear c10
                        try clear c10b0
                        try clear c10b1
                        try clear c10b2
                        try clear c11
                        try clear c11b0
                        try clear c11b1
                        try clear c11b2
                        try clear c12
                        try clear c13
                        try clear p17
                        try clear q17
                        try clear hx17
                        try clear c20
                        try clear c20b0
                        try clear c20b1
                        try clear c20b2
                        try clear c24
                        try clear c25
                        try clear hx179_0
                        try clear p1
                        try clear p17
                        try clear p179
                        try clear p2
                        try clear p6
                        try clear q1
                        try clear q17
                        try clear q179
                        obtain ⟨x11_5, x12_5, rfl, rfl, HA, HK5, HO_5, HB⟩ := hrel
                        cases gk with
                        | zero => exact absurd HA.out (by simp [lockgatelaw15_EntryPaths.l1])
                        | succ k5 =>
                          have H := HA.out
                          clear HA
                          simp only [lockgatelaw15_EntryPaths.l1] at H
                          by_cases c26 : x12_5 < (x5_1.length : Int)
                          · rw [if_pos c26] at H
                            have c26b0 : decide (x12_5 < (x5_1.length : Int)) = true := decide_eq_true c26
                            clear c26
                            have H' := Aside0.mk H
                            clear H
                            go_wp2
                            go_loopg [11, 13] k5 (fun kq v11 v13 w' => ∃ (x11_6 : Bool) (x13_6 : Int), v11 = .bool x11_6 ∧ v13 = .int .i64 x13_6 ∧ Aside0 (lockgatelaw15_EntryPaths.l2 kq t178 x4_17 x5_1 t186 x11_6 x12_5 x13_6 = some r) ∧ Aside0 (kq ≤ k5) ∧ Aside0 (Kd.R Kd.string 9 w' w.heap.size (fun _ => True) (.slice Ao19 x5_1.length co19) x5_1) ∧ Aside0 (Below w.heap.size w w'))
                            case atStart => exact ⟨(x11_5), (0), (by first | rfl | (simp; done) | (simp [*]; done)), (by first | rfl | (simp; done) | (simp [*]; done)), H', ⟨Nat.le_refl _⟩, ⟨by (with_reducible repeat (first | apply Kd.R_alloc | apply Kd.R_drewN | apply Kd.R_drew)); exact HO_5.out⟩, ⟨by repeat (first | (with_reducible first | exact HB.out | apply below_alloc | apply pw_below_drewN | apply below_drew1) | exact HB.out)⟩⟩
                            case round =>
                              clear H'
                              try clear c1
                              try clear p1
                              try clear q1
                              try clear hx1
                              try clear c2
                              try clear p2
                              try clear c4
                              try clear c5
                              try clear c5b0
                              try clear c6
                              try clear p6
                              try clear c7
                              try clear c7b0
                              try clear c8
                              try clear c8b0
                              try clear c10
                              try clear c10b0
                              try clear c10b1
                              try clear c10b2
                              try clear c11
                              try clear c11b0
                              try clear c11b1
                              try clear c11b2
                              try clear c12
                              try clear c13
                              try clear p17
                              try clear q17
                              try clear hx17
                              try clear c20
                              try clear c20b0
                              try clear c20b1
                              try clear c20b2
                              try clear c24
                              try clear c25
                              try clear c26
                              try clear c26b0
                              try clear hx179_0
                              try clear p1
                              try clear p17
                              try clear p179
                              try clear p2
                              try clear p6
                              try clear q1
                              try clear q17
                              try clear q179
                              obtain ⟨x11_6, x13_6, rfl, rfl, HA, HK6, HO_5, HB⟩ := hrel
                              cases gk with
                              | zero => exact absurd HA.out (by simp [lockgatelaw15_EntryPaths.l2])
                              | succ k6 =>
                                have H := HA.out
                                clear HA
                                simp only [lockgatelaw15_EntryPaths.l2] at H
                                by_cases c27 : 0 ≤ x12_5
                                · rw [if_pos c27] at H
                                  have c27b0 : decide (0 ≤ x12_5) = true := decide_eq_true c27
                                  clear c27
                                  by_cases c28 : x12_5 < (x5_1.length : Int)
                                  · rw [if_pos c28] at H
                                    have c28b0 : decide (x12_5 < (x5_1.length : Int)) = true := decide_eq_true c28
                                    clear c28
                                    by_cases c29 : x13_6 < ((rdOf ByteArray.empty x5_1 x12_5).size : Int)
                                    · rw [if_pos c29] at H
                                      have c29b0 : decide (x13_6 < ((rdOf ByteArray.empty x5_1 x12_5).size : Int)) = true := decide_eq_true c29
                                      clear c29
                                      by_cases c30 : x11_6 = true
                                      · subst c30
                                        have H1 : (lockgatelaw15_EntryPaths.l2 k6 t178 x4_17 x5_1 t186 true x12_5 (wrap64 (x13_6 + 1))) = some r := by rw [if_pos rfl] at H; exact H
                                        clear H
                                        have H := H1
                                        clear H1
                                        have H' := Aside0.mk H
                                        clear H
                                        have p189 : 0 ≤ (x12_5 : Int) := of_decide_eq_true (by first | (with_reducible assumption) | assumption)
                                        have q189 : x12_5 < (x5_1.length : Int) := of_decide_eq_true (by first | (with_reducible assumption) | assumption)
                                        obtain ⟨ad189, e189, hx189_0⟩ := Kd.at_string (Kd.R_reads' HO_5.out).2.2 x12_5 p189 q189
                                        cases e189
                                        replace p189 := eq_true p189
                                        replace q189 := eq_true q189
                                        go_wp2
                                        go_roundg k6
                                        case measure => have := HK1.out; have := HJ3.out; have := HJ17.out; have := HJ21.out; have := HK5.out; have := HK6.out; omega
                                        case rel => exact ⟨(true), (wrap64 (x13_6 + 1)), (by first | rfl | (simp; done) | (simp [*]; done)), (by first | rfl | (simp; done) | (simp [*]; done)), H', ⟨by have := HK1.out; have := HJ3.out; have := HJ17.out; have := HJ21.out; have := HK5.out; have := HK6.out; omega⟩, ⟨by (with_reducible repeat (first | apply Kd.R_alloc | apply Kd.R_drewN | apply Kd.R_drew)); exact HO_5.out⟩, ⟨by repeat (first | (with_reducible first | exact HB.out | apply below_alloc | apply pw_below_drewN | apply below_drew1) | exact HB.out)⟩⟩
                                      · replace c30 := Bool.eq_false_iff.mpr c30
                                        subst c30
                                        have H1 : (if 0 ≤ x13_6 then (lockgatelaw15_EntryPaths.l2 k6 t178 x4_17 x5_1 t186 ((bt (rdOf ByteArray.empty x5_1 x12_5) x13_6) == 47) x12_5 (wrap64 (x13_6 + 1))) else (none)) = some r := by rw [if_neg (show ¬ (false = true) by decide)] at H; exact H
                                        clear H
                                        have H := H1
                                        clear H1
                                        by_cases c31 : 0 ≤ x13_6
                                        · rw [if_pos c31] at H
                                          have c31b0 : decide (0 ≤ x13_6) = true := decide_eq_true c31
                                          clear c31
                                          have H' := Aside0.mk H
                                          clear H
                                          have p189 : 0 ≤ (x12_5 : Int) := of_decide_eq_true (by first | (with_reducible assumption) | assumption)
                                          have q189 : x12_5 < (x5_1.length : Int) := of_decide_eq_true (by first | (with_reducible assumption) | assumption)
                                          obtain ⟨ad189, e189, hx189_0⟩ := Kd.at_string (Kd.R_reads' HO_5.out).2.2 x12_5 p189 q189
                                          cases e189
                                          replace p189 := eq_true p189
                                          replace q189 := eq_true q189
                                          have p190 : 0 ≤ (x12_5 : Int) := of_decide_eq_true (by first | (with_reducible assumption) | assumption)
                                          have q190 : x12_5 < (x5_1.length : Int) := of_decide_eq_true (by first | (with_reducible assumption) | assumption)
                                          obtain ⟨ad190, e190, hx190_0⟩ := Kd.at_string (Kd.R_reads' HO_5.out).2.2 x12_5 p190 q190
                                          obtain rfl : ad189 = ad190 := (by injection e190)
                                          replace p190 := eq_true p190
                                          replace q190 := eq_true q190
                                          have p32 : 0 ≤ (x13_6 : Int) := of_decide_eq_true (by first | (with_reducible assumption) | assumption)
                                          have q32 : x13_6 < ((rdOf ByteArray.empty x5_1 x12_5).size : Int) := of_decide_eq_true (by first | (with_reducible assumption) | assumption)
                                          have hx32 := bt_at (rdOf ByteArray.empty x5_1 x12_5) x13_6
                                          replace p32 := eq_true p32
                                          replace q32 := eq_true q32
                                          go_wp2
                                          go_roundg k6
                                          case measure => have := HK1.out; have := HJ3.out; have := HJ17.out; have := HJ21.out; have := HK5.out; have := HK6.out; omega
                                          case rel => exact ⟨(((bt (rdOf ByteArray.empty x5_1 x12_5) x13_6) == 47)), (wrap64 (x13_6 + 1)), (by first | rfl | (simp; done) | (simp [*]; done)), (by first | rfl | (simp; done) | (simp [*]; done)), H', ⟨by have := HK1.out; have := HJ3.out; have := HJ17.out; have := HJ21.out; have := HK5.out; have := HK6.out; omega⟩, ⟨by (with_reducible repeat (first | apply Kd.R_alloc | apply Kd.R_drewN | apply Kd.R_drew)); exact HO_5.out⟩, ⟨by repeat (first | (with_reducible first | exact HB.out | apply below_alloc | apply pw_below_drewN | apply below_drew1) | exact HB.out)⟩⟩
                                        · rw [if_neg c31] at H
                                          exact absurd H (by simp)
                                    · rw [if_neg c29] at H
                                      have c29b0 : decide (x13_6 < ((rdOf ByteArray.empty x5_1 x12_5).size : Int)) = false := decide_eq_false c29
                                      clear c29
                                      have H' := Aside0.mk H
                                      clear H
                                      have p189 : 0 ≤ (x12_5 : Int) := of_decide_eq_true (by first | (with_reducible assumption) | assumption)
                                      have q189 : x12_5 < (x5_1.length : Int) := of_decide_eq_true (by first | (with_reducible assumption) | assumption)
                                      obtain ⟨ad189, e189, hx189_0⟩ := Kd.at_string (Kd.R_reads' HO_5.out).2.2 x12_5 p189 q189
                                      cases e189
                                      replace p189 := eq_true p189
                                      replace q189 := eq_true q189
                                      go_wp2
                                      go_roundg k6
                                      case measure => have := HK1.out; have := HJ3.out; have := HJ17.out; have := HJ21.out; have := HK5.out; have := HK6.out; omega
                                      case rel => exact ⟨(x11_6), (wrap64 (x12_5 + 1)), (by first | rfl | (simp; done) | (simp [*]; done)), (by first | rfl | (simp; done) | (simp [*]; done)), H', ⟨by have := HK1.out; have := HJ3.out; have := HJ17.out; have := HJ21.out; have := HK5.out; have := HK6.out; omega⟩, ⟨by (with_reducible repeat (first | apply Kd.R_alloc | apply Kd.R_drewN | apply Kd.R_drew)); exact HO_5.out⟩, ⟨by repeat (first | (with_reducible first | exact HB.out | apply below_alloc | apply pw_below_drewN | apply below_drew1) | exact HB.out)⟩⟩
                                  · rw [if_neg c28] at H
                                    exact absurd H (by simp)
                                · rw [if_neg c27] at H
                                  exact absurd H (by simp)
                          · rw [if_neg c26] at H
                            have c26b0 : decide (x12_5 < (x5_1.length : Int)) = false := decide_eq_false c26
                            clear c26
                            by_cases c33 : t178 = true
                            · subst c33
                              have H1 : (if t186 = true then (if x11_5 = true then (some true) else (some (x4_17.toList == ([47] : List UInt8)))) else (some true)) = some r := by rw [if_pos rfl] at H; exact H
                              clear H
                              have H := H1
                              clear H1
                              by_cases c34 : t186 = true
                              · subst c34
                                have H1 : (if x11_5 = true then (some true) else (some (x4_17.toList == ([47] : List UInt8)))) = some r := by rw [if_pos rfl] at H; exact H
                                clear H
                                have H := H1
                                clear H1
                                by_cases c35 : x11_5 = true
                                · subst c35
                                  have H1 : (some true) = some r := by rw [if_pos rfl] at H; exact H
                                  clear H
                                  have H := H1
                                  clear H1
                                  obtain rfl := Option.some.inj H
                                  go_wp2
                                  go_ret
                                  exact ⟨by first | rfl | (simp [errW_none, errW_some] <;> rfl) | (simp [*, errW_none, errW_some] <;> rfl), by repeat (first | (with_reducible first | exact HB.out | apply below_alloc | apply pw_below_drewN | apply below_drew1) | exact HB.out)⟩
                                · replace c35 := Bool.eq_false_iff.mpr c35
                                  subst c35
                                  have H1 : (some (x4_17.toList == ([47] : List UInt8))) = some r := by rw [if_neg (show ¬ (false = true) by decide)] at H; exact H
                                  clear H
                                  have H := H1
                                  clear H1
                                  obtain rfl := Option.some.inj H
                                  go_wp2
                                  go_ret
                                  exact ⟨by first | rfl | (simp [errW_none, errW_some] <;> rfl) | (simp [*, errW_none, errW_some] <;> rfl), by repeat (first | (with_reducible first | exact HB.out | apply below_alloc | apply pw_below_drewN | apply below_drew1) | exact HB.out)⟩
                              · replace c34 := Bool.eq_false_iff.mpr c34
                                subst c34
                                have H1 : (some true) = some r := by rw [if_neg (show ¬ (false = true) by decide)] at H; exact H
                                clear H
                                have H := H1
                                clear H1
                                obtain rfl := Option.some.inj H
                                go_wp2
                                go_ret
                                exact ⟨by first | rfl | (simp [errW_none, errW_some] <;> rfl) | (simp [*, errW_none, errW_some] <;> rfl), by repeat (first | (with_reducible first | exact HB.out | apply below_alloc | apply pw_below_drewN | apply below_drew1) | exact HB.out)⟩
                            · replace c33 := Bool.eq_false_iff.mpr c33
                              subst c33
                              have H1 : (some false) = some r := by rw [if_neg (show ¬ (false = true) by decide)] at H; exact H
                              clear H
                              have H := H1
                              clear H1
                              obtain rfl := Option.some.inj H
                              go_wp2
                              go_ret
                              exact ⟨by first | rfl | (simp [errW_none, errW_some] <;> rfl) | (simp [*, errW_none, errW_some] <;> rfl), by repeat (first | (with_reducible first | exact HB.out | apply below_alloc | apply pw_below_drewN | apply below_drew1) | exact HB.out)⟩
                    · replace c25 := Bool.eq_false_iff.mpr c25
                      subst c25
                      have H1 : ((lockgateref15_SameNames.f kj21 t185 x5_1).bind fun t191 => (if t178 = true then (if t186 = true then (some t191) else (some false)) else (some false))) = some r := by rw [if_neg (show ¬ (false = true) by decide)] at H; exact H
                      clear H
                      have H := H1
                      clear H1
                      replace H := Option.bind_eq_some_iff.mp H
                      obtain ⟨t191, A360, H⟩ := H
                      replace H : (if t178 = true then (if t186 = true then (some t191) else (some false)) else (some false)) = some r := H
                      have A36 := Aside0.mk A360
                      clear A360
                      by_cases c37 : t178 = true
                      · subst c37
                        have H1 : (if t186 = true then (some t191) else (some false)) = some r := by rw [if_pos rfl] at H; exact H
                        clear H
                        have H := H1
                        clear H1
                        by_cases c38 : t186 = true
                        · subst c38
                          have H1 : (some t191) = some r := by rw [if_pos rfl] at H; exact H
                          clear H
                          have H := H1
                          clear H1
                          obtain rfl := Option.some.inj H
                          obtain ⟨Ao39, co39, eo39⟩ := Kd.R_slice HO_9.out
                          subst eo39
                          go_wp2_with (first | ((with_reducible refine gate_callee (f := 14) rfl ?_); refine goesL_ (some 98) rfl rfl Tryd.func14 (by kernel_rfl) rfl #[.slice Ao39 t185.length co39, .slice Ao19 x5_1.length co19] rfl (by (try simp only [List.map_toArray, List.map_cons, List.map_nil]); first | done | rfl | (simp only [List.length_drop, List.length_take]; rfl)) ?_; (with_reducible refine (lockgateref15_SameNames.calls kj21 _ _ t185 _ _ x5_1 t191 _ ?side1 ?side2 ?side3 ?side4 A36.out).mono ?_); (case side1 => repeat (first | exact (Kd.R_reads' HO_9.out).2.2 | (with_reducible refine Kd.C_alloc ?_ _) | (with_reducible refine Kd.C_drewN ?_ _) | (with_reducible refine Kd.C_drew ?_))); (case side2 => exact (Kd.R_reads' HO_9.out).2.1); (case side3 => repeat (first | exact (Kd.R_reads' HO_5.out).2.2 | (with_reducible refine Kd.C_alloc ?_ _) | (with_reducible refine Kd.C_drewN ?_ _) | (with_reducible refine Kd.C_drew ?_))); (case side4 => exact (Kd.R_reads' HO_5.out).2.1); rintro e w' ⟨rfl, ⟨nd, rfl⟩⟩; refine ⟨_, rfl, ?_⟩))
                          go_ret
                          exact ⟨by first | rfl | (simp [errW_none, errW_some] <;> rfl) | (simp [*, errW_none, errW_some] <;> rfl), by repeat (first | (with_reducible first | exact HB.out | apply below_alloc | apply pw_below_drewN | apply below_drew1) | exact HB.out)⟩
                        · replace c38 := Bool.eq_false_iff.mpr c38
                          subst c38
                          have H1 : (some false) = some r := by rw [if_neg (show ¬ (false = true) by decide)] at H; exact H
                          clear H
                          have H := H1
                          clear H1
                          obtain rfl := Option.some.inj H
                          obtain ⟨Ao40, co40, eo40⟩ := Kd.R_slice HO_9.out
                          subst eo40
                          go_wp2_with (first | ((with_reducible refine gate_callee (f := 14) rfl ?_); refine goesL_ (some 98) rfl rfl Tryd.func14 (by kernel_rfl) rfl #[.slice Ao40 t185.length co40, .slice Ao19 x5_1.length co19] rfl (by (try simp only [List.map_toArray, List.map_cons, List.map_nil]); first | done | rfl | (simp only [List.length_drop, List.length_take]; rfl)) ?_; (with_reducible refine (lockgateref15_SameNames.calls kj21 _ _ t185 _ _ x5_1 t191 _ ?side1 ?side2 ?side3 ?side4 A36.out).mono ?_); (case side1 => repeat (first | exact (Kd.R_reads' HO_9.out).2.2 | (with_reducible refine Kd.C_alloc ?_ _) | (with_reducible refine Kd.C_drewN ?_ _) | (with_reducible refine Kd.C_drew ?_))); (case side2 => exact (Kd.R_reads' HO_9.out).2.1); (case side3 => repeat (first | exact (Kd.R_reads' HO_5.out).2.2 | (with_reducible refine Kd.C_alloc ?_ _) | (with_reducible refine Kd.C_drewN ?_ _) | (with_reducible refine Kd.C_drew ?_))); (case side4 => exact (Kd.R_reads' HO_5.out).2.1); rintro e w' ⟨rfl, ⟨nd, rfl⟩⟩; refine ⟨_, rfl, ?_⟩))
                          go_ret
                          exact ⟨by first | rfl | (simp [errW_none, errW_some] <;> rfl) | (simp [*, errW_none, errW_some] <;> rfl), by repeat (first | (with_reducible first | exact HB.out | apply below_alloc | apply pw_below_drewN | apply below_drew1) | exact HB.out)⟩
                      · replace c37 := Bool.eq_false_iff.mpr c37
                        subst c37
                        have H1 : (some false) = some r := by rw [if_neg (show ¬ (false = true) by decide)] at H; exact H
                        clear H
                        have H := H1
                        clear H1
                        obtain rfl := Option.some.inj H
                        obtain ⟨Ao41, co41, eo41⟩ := Kd.R_slice HO_9.out
                        subst eo41
                        go_wp2_with (first | ((with_reducible refine gate_callee (f := 14) rfl ?_); refine goesL_ (some 98) rfl rfl Tryd.func14 (by kernel_rfl) rfl #[.slice Ao41 t185.length co41, .slice Ao19 x5_1.length co19] rfl (by (try simp only [List.map_toArray, List.map_cons, List.map_nil]); first | done | rfl | (simp only [List.length_drop, List.length_take]; rfl)) ?_; (with_reducible refine (lockgateref15_SameNames.calls kj21 _ _ t185 _ _ x5_1 t191 _ ?side1 ?side2 ?side3 ?side4 A36.out).mono ?_); (case side1 => repeat (first | exact (Kd.R_reads' HO_9.out).2.2 | (with_reducible refine Kd.C_alloc ?_ _) | (with_reducible refine Kd.C_drewN ?_ _) | (with_reducible refine Kd.C_drew ?_))); (case side2 => exact (Kd.R_reads' HO_9.out).2.1); (case side3 => repeat (first | exact (Kd.R_reads' HO_5.out).2.2 | (with_reducible refine Kd.C_alloc ?_ _) | (with_reducible refine Kd.C_drewN ?_ _) | (with_reducible refine Kd.C_drew ?_))); (case side4 => exact (Kd.R_reads' HO_5.out).2.1); rintro e w' ⟨rfl, ⟨nd, rfl⟩⟩; refine ⟨_, rfl, ?_⟩))
                        go_ret
                        exact ⟨by first | rfl | (simp [errW_none, errW_some] <;> rfl) | (simp [*, errW_none, errW_some] <;> rfl), by repeat (first | (with_reducible first | exact HB.out | apply below_alloc | apply pw_below_drewN | apply below_drew1) | exact HB.out)⟩

end Go.Proofs.YtgmbmkjdfmoanaaDoor.Q
