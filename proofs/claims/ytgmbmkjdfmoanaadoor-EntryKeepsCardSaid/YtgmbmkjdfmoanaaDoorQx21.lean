-- Written by mp.py (a program of this repo, over the print) for this seat: functions, contracts, walks.
import Derived.Test.YtgmbmkjdfmoanaaDoorQx0
import Derived.Test.YtgmbmkjdfmoanaaDoorQx2
import Derived.Test.YtgmbmkjdfmoanaaDoorQx5
import Derived.Test.YtgmbmkjdfmoanaaDoorQx17
import Derived.Test.YtgmbmkjdfmoanaaDoorQx18
import Derived.Test.YtgmbmkjdfmoanaaDoorQx20
namespace Go.Proofs.YtgmbmkjdfmoanaaDoor.Q
open Go.RowKit Go.Proofs.YtgmbmkjdfmoanaaDoorW.PrintWords Go.Proofs.YtgmbmkjdfmoanaaDoorW.PrintLast Go.Proofs.YtgmbmkjdfmoanaaDoorW.PrintMore
attribute [local go_sem] max2_int min2_int max_two min_two max_three min_three max_four min_four   -- for this text's walks alone
set_option linter.unusedVariables false
set_option linter.unusedSimpArgs false

/-! ### lockgatelaw15_EntryKeeps: function 9 -/
mutual
def lockgatelaw15_EntryKeeps.l0 : Nat → List (S43) → Bool → List (S43) → List ByteArray → List Int → Int → Option (Bool)
  | 0, _, _, _, _, _, _ => none
  | k + 1, x0, x3, x4, x5, x6, x7 => if x7 < (x0.length : Int) then (lockgatelaw15_EntryKeeps.j1 k x0 x3 x4 x5 x6 x7 (decide (x7 < 40))) else (lockgatelaw15_EntryKeeps.j1 k x0 x3 x4 x5 x6 x7 false)
def lockgatelaw15_EntryKeeps.j1 : Nat → List (S43) → Bool → List (S43) → List ByteArray → List Int → Int → Bool → Option (Bool)
  | 0, _, _, _, _, _, _, _ => none
  | k + 1, x0, x3, x4, x5, x6, x7, x27 => if x27 = true then (if 0 ≤ x7 then (if x7 < (x0.length : Int) then ((lockgatelaw15_short.f ((rd_T43 x0 x7).f0) 60).bind fun t359 => ((entry_Name.f t359).bind fun t362 => (if t362 = true then (lockgatelaw15_EntryKeeps.l1 k x0 x3 x4 x5 x6 x7 (-1) 0 t359 (Go.bits .and .i64 ((rd_T43 x0 x7).f1) 65535)) else (lockgatelaw15_EntryKeeps.l0 k x0 x3 x4 x5 x6 (wrap64 (x7 + 1)))))) else (none)) else (none)) else ((entry_Bytes.f k x4).bind fun bt380 => (lockgatelaw15_EntryKeeps.l2 k x3 x4 x5 x6 bt380.2 0 0))
def lockgatelaw15_EntryKeeps.l1 : Nat → List (S43) → Bool → List (S43) → List ByteArray → List Int → Int → Int → Int → ByteArray → Int → Option (Bool)
  | 0, _, _, _, _, _, _, _, _, _, _ => none
  | k + 1, x0, x3, x4, x5, x6, x7, x9, x10, x362000, x362001 => if x10 < (x5.length : Int) then (if 0 ≤ x10 then (if (rdOf ByteArray.empty x5 x10).toList = x362000.toList then (lockgatelaw15_EntryKeeps.l1 k x0 x3 x4 x5 x6 x7 x10 (wrap64 (x10 + 1)) x362000 x362001) else (lockgatelaw15_EntryKeeps.l1 k x0 x3 x4 x5 x6 x7 x9 (wrap64 (x10 + 1)) x362000 x362001)) else (none)) else (if x9 < 0 then (if x5.length < 8796093022208 then ((some (x5 ++ [x362000] : List ByteArray)).bind fun y364 => (if x6.length < 17592186044416 then (lockgatelaw15_EntryKeeps.j3 k x0 x3 x4 y364 (x6 ++ [(-1)]) x7 (wrap64 ((y364.length : Int) - 1)) x362000 x362001) else (none))) else (none)) else (lockgatelaw15_EntryKeeps.j3 k x0 x3 x4 x5 x6 x7 x9 x362000 x362001))
def lockgatelaw15_EntryKeeps.j3 : Nat → List (S43) → Bool → List (S43) → List ByteArray → List Int → Int → Int → ByteArray → Int → Option (Bool)
  | 0, _, _, _, _, _, _, _, _, _ => none
  | k + 1, x0, x3, x4, x5, x6, x7, x9, x362000, x362001 => if (Int.tmod x362001 2) = 1 then ((entry_Drop.f x4 x362000).bind fun bt370 => (if 0 ≤ x9 then (if x9 < (x6.length : Int) then (if (bt370.2 != (decide ((rd x6 x9) ≥ 0))) = true then (some false) else (lockgatelaw15_EntryKeeps.l0 k x0 x3 bt370.1 x5 (x6.set (x9 : Int).toNat (-1)) (wrap64 (x7 + 1)))) else (none)) else (none))) else ((entry_Put.f x4 x362000 x362001).bind fun t376 => (if 0 ≤ x9 then (if x9 < (x6.length : Int) then (lockgatelaw15_EntryKeeps.l0 k x0 x3 t376 x5 (x6.set (x9 : Int).toNat x362001) (wrap64 (x7 + 1))) else (none)) else (none)))
def lockgatelaw15_EntryKeeps.l2 : Nat → Bool → List (S43) → List ByteArray → List Int → Int → Int → Int → Option (Bool)
  | 0, _, _, _, _, _, _, _ => none
  | k + 1, x3, x4, x5, x6, x14, x15, x16 => if x16 < (x5.length : Int) then (if 0 ≤ x16 then ((entry_Find.f x4 (rdOf ByteArray.empty x5 x16)).bind fun bt383 => (if x16 < (x6.length : Int) then (if (bt383.2 != (decide ((rd x6 x16) ≥ 0))) = true then (lockgatelaw15_EntryKeeps.j5 k x3 x4 x5 x6 x14 x15 x16 bt383.2 true) else (if bt383.2 = true then (lockgatelaw15_EntryKeeps.j5 k x3 x4 x5 x6 x14 x15 x16 bt383.2 (bt383.1 != (rd x6 x16))) else (lockgatelaw15_EntryKeeps.j5 k x3 x4 x5 x6 x14 x15 x16 bt383.2 false))) else (none))) else (none)) else (if x3 = true then (if x14 = 0 then (some ((x4.length : Int) == x15)) else (some false)) else (some false))
def lockgatelaw15_EntryKeeps.j5 : Nat → Bool → List (S43) → List ByteArray → List Int → Int → Int → Int → Bool → Bool → Option (Bool)
  | 0, _, _, _, _, _, _, _, _, _ => none
  | k + 1, x3, x4, x5, x6, x14, x15, x16, x18, x141 => if x141 = true then (some false) else (if x18 = true then (lockgatelaw15_EntryKeeps.l2 k x3 x4 x5 x6 x14 (wrap64 (x15 + 1)) (wrap64 (x16 + 1))) else (lockgatelaw15_EntryKeeps.l2 k x3 x4 x5 x6 x14 x15 (wrap64 (x16 + 1))))
end
def lockgatelaw15_EntryKeeps.f (k : Nat) (l0 : List (S43)) : Option (Bool) := (lockgatelaw15_awake.f k).bind fun t357 => (lockgatelaw15_EntryKeeps.l0 k l0 t357 ([] : List (S43)) ([] : List ByteArray) ([] : List Int) 0)
theorem lockgatelaw15_EntryKeeps.mono_l : ∀ k, (∀ y0 y1 y2 y3 y4 y5, LeO (lockgatelaw15_EntryKeeps.l0 k y0 y1 y2 y3 y4 y5) (lockgatelaw15_EntryKeeps.l0 (k + 1) y0 y1 y2 y3 y4 y5)) ∧ (∀ y0 y1 y2 y3 y4 y5 y6, LeO (lockgatelaw15_EntryKeeps.j1 k y0 y1 y2 y3 y4 y5 y6) (lockgatelaw15_EntryKeeps.j1 (k + 1) y0 y1 y2 y3 y4 y5 y6)) ∧ (∀ y0 y1 y2 y3 y4 y5 y6 y7 y8 y9, LeO (lockgatelaw15_EntryKeeps.l1 k y0 y1 y2 y3 y4 y5 y6 y7 y8 y9) (lockgatelaw15_EntryKeeps.l1 (k + 1) y0 y1 y2 y3 y4 y5 y6 y7 y8 y9)) ∧ (∀ y0 y1 y2 y3 y4 y5 y6 y7 y8, LeO (lockgatelaw15_EntryKeeps.j3 k y0 y1 y2 y3 y4 y5 y6 y7 y8) (lockgatelaw15_EntryKeeps.j3 (k + 1) y0 y1 y2 y3 y4 y5 y6 y7 y8)) ∧ (∀ y0 y1 y2 y3 y4 y5 y6, LeO (lockgatelaw15_EntryKeeps.l2 k y0 y1 y2 y3 y4 y5 y6) (lockgatelaw15_EntryKeeps.l2 (k + 1) y0 y1 y2 y3 y4 y5 y6)) ∧ (∀ y0 y1 y2 y3 y4 y5 y6 y7 y8, LeO (lockgatelaw15_EntryKeeps.j5 k y0 y1 y2 y3 y4 y5 y6 y7 y8) (lockgatelaw15_EntryKeeps.j5 (k + 1) y0 y1 y2 y3 y4 y5 y6 y7 y8))
  | 0 => ⟨fun _ _ _ _ _ _ r h => by simp [lockgatelaw15_EntryKeeps.l0] at h, fun _ _ _ _ _ _ _ r h => by simp [lockgatelaw15_EntryKeeps.j1] at h, fun _ _ _ _ _ _ _ _ _ _ r h => by simp [lockgatelaw15_EntryKeeps.l1] at h, fun _ _ _ _ _ _ _ _ _ r h => by simp [lockgatelaw15_EntryKeeps.j3] at h, fun _ _ _ _ _ _ _ r h => by simp [lockgatelaw15_EntryKeeps.l2] at h, fun _ _ _ _ _ _ _ _ _ r h => by simp [lockgatelaw15_EntryKeeps.j5] at h⟩
  | k + 1 => by
    obtain ⟨ih0, ih1, ih2, ih3, ih4, ih5⟩ := lockgatelaw15_EntryKeeps.mono_l k
    refine ⟨?_, ?_, ?_, ?_, ?_, ?_⟩
    · intro y0 y1 y2 y3 y4 y5
      unfold lockgatelaw15_EntryKeeps.l0
      repeat' first
      | (with_reducible exact ih0 _ _ _ _ _ _)
      | (with_reducible exact ih1 _ _ _ _ _ _ _)
      | (with_reducible exact ih2 _ _ _ _ _ _ _ _ _ _)
      | (with_reducible exact ih3 _ _ _ _ _ _ _ _ _)
      | (with_reducible exact ih4 _ _ _ _ _ _ _)
      | (with_reducible exact ih5 _ _ _ _ _ _ _ _ _)
      | (with_reducible exact entry_Bytes.mono _ _)
      | (with_reducible exact lockgatelaw15_awake.mono _)
      | (with_reducible exact LeO.refl _)
      | (with_reducible exact LeO.none _)
      | (with_reducible refine LeO.ite ?_ ?_)
      | (with_reducible refine LeO.bind ?_ (fun _ => ?_))
      | exact ih0 _ _ _ _ _ _
      | exact ih1 _ _ _ _ _ _ _
      | exact ih2 _ _ _ _ _ _ _ _ _ _
      | exact ih3 _ _ _ _ _ _ _ _ _
      | exact ih4 _ _ _ _ _ _ _
      | exact ih5 _ _ _ _ _ _ _ _ _
      | exact entry_Bytes.mono _ _
      | exact lockgatelaw15_awake.mono _
      | exact LeO.none _
      | refine LeO.ite ?_ ?_
      | refine LeO.bind ?_ (fun _ => ?_)
    · intro y0 y1 y2 y3 y4 y5 y6
      unfold lockgatelaw15_EntryKeeps.j1
      repeat' first
      | (with_reducible exact ih0 _ _ _ _ _ _)
      | (with_reducible exact ih1 _ _ _ _ _ _ _)
      | (with_reducible exact ih2 _ _ _ _ _ _ _ _ _ _)
      | (with_reducible exact ih3 _ _ _ _ _ _ _ _ _)
      | (with_reducible exact ih4 _ _ _ _ _ _ _)
      | (with_reducible exact ih5 _ _ _ _ _ _ _ _ _)
      | (with_reducible exact entry_Bytes.mono _ _)
      | (with_reducible exact lockgatelaw15_awake.mono _)
      | (with_reducible exact LeO.refl _)
      | (with_reducible exact LeO.none _)
      | (with_reducible refine LeO.ite ?_ ?_)
      | (with_reducible refine LeO.bind ?_ (fun _ => ?_))
      | exact ih0 _ _ _ _ _ _
      | exact ih1 _ _ _ _ _ _ _
      | exact ih2 _ _ _ _ _ _ _ _ _ _
      | exact ih3 _ _ _ _ _ _ _ _ _
      | exact ih4 _ _ _ _ _ _ _
      | exact ih5 _ _ _ _ _ _ _ _ _
      | exact entry_Bytes.mono _ _
      | exact lockgatelaw15_awake.mono _
      | exact LeO.none _
      | refine LeO.ite ?_ ?_
      | refine LeO.bind ?_ (fun _ => ?_)
    · intro y0 y1 y2 y3 y4 y5 y6 y7 y8 y9
      unfold lockgatelaw15_EntryKeeps.l1
      repeat' first
      | (with_reducible exact ih0 _ _ _ _ _ _)
      | (with_reducible exact ih1 _ _ _ _ _ _ _)
      | (with_reducible exact ih2 _ _ _ _ _ _ _ _ _ _)
      | (with_reducible exact ih3 _ _ _ _ _ _ _ _ _)
      | (with_reducible exact ih4 _ _ _ _ _ _ _)
      | (with_reducible exact ih5 _ _ _ _ _ _ _ _ _)
      | (with_reducible exact entry_Bytes.mono _ _)
      | (with_reducible exact lockgatelaw15_awake.mono _)
      | (with_reducible exact LeO.refl _)
      | (with_reducible exact LeO.none _)
      | (with_reducible refine LeO.ite ?_ ?_)
      | (with_reducible refine LeO.bind ?_ (fun _ => ?_))
      | exact ih0 _ _ _ _ _ _
      | exact ih1 _ _ _ _ _ _ _
      | exact ih2 _ _ _ _ _ _ _ _ _ _
      | exact ih3 _ _ _ _ _ _ _ _ _
      | exact ih4 _ _ _ _ _ _ _
      | exact ih5 _ _ _ _ _ _ _ _ _
      | exact entry_Bytes.mono _ _
      | exact lockgatelaw15_awake.mono _
      | exact LeO.none _
      | refine LeO.ite ?_ ?_
      | refine LeO.bind ?_ (fun _ => ?_)
    · intro y0 y1 y2 y3 y4 y5 y6 y7 y8
      unfold lockgatelaw15_EntryKeeps.j3
      repeat' first
      | (with_reducible exact ih0 _ _ _ _ _ _)
      | (with_reducible exact ih1 _ _ _ _ _ _ _)
      | (with_reducible exact ih2 _ _ _ _ _ _ _ _ _ _)
      | (with_reducible exact ih3 _ _ _ _ _ _ _ _ _)
      | (with_reducible exact ih4 _ _ _ _ _ _ _)
      | (with_reducible exact ih5 _ _ _ _ _ _ _ _ _)
      | (with_reducible exact entry_Bytes.mono _ _)
      | (with_reducible exact lockgatelaw15_awake.mono _)
      | (with_reducible exact LeO.refl _)
      | (with_reducible exact LeO.none _)
      | (with_reducible refine LeO.ite ?_ ?_)
      | (with_reducible refine LeO.bind ?_ (fun _ => ?_))
      | exact ih0 _ _ _ _ _ _
      | exact ih1 _ _ _ _ _ _ _
      | exact ih2 _ _ _ _ _ _ _ _ _ _
      | exact ih3 _ _ _ _ _ _ _ _ _
      | exact ih4 _ _ _ _ _ _ _
      | exact ih5 _ _ _ _ _ _ _ _ _
      | exact entry_Bytes.mono _ _
      | exact lockgatelaw15_awake.mono _
      | exact LeO.none _
      | refine LeO.ite ?_ ?_
      | refine LeO.bind ?_ (fun _ => ?_)
    · intro y0 y1 y2 y3 y4 y5 y6
      unfold lockgatelaw15_EntryKeeps.l2
      repeat' first
      | (with_reducible exact ih0 _ _ _ _ _ _)
      | (with_reducible exact ih1 _ _ _ _ _ _ _)
      | (with_reducible exact ih2 _ _ _ _ _ _ _ _ _ _)
      | (with_reducible exact ih3 _ _ _ _ _ _ _ _ _)
      | (with_reducible exact ih4 _ _ _ _ _ _ _)
      | (with_reducible exact ih5 _ _ _ _ _ _ _ _ _)
      | (with_reducible exact entry_Bytes.mono _ _)
      | (with_reducible exact lockgatelaw15_awake.mono _)
      | (with_reducible exact LeO.refl _)
      | (with_reducible exact LeO.none _)
      | (with_reducible refine LeO.ite ?_ ?_)
      | (with_reducible refine LeO.bind ?_ (fun _ => ?_))
      | exact ih0 _ _ _ _ _ _
      | exact ih1 _ _ _ _ _ _ _
      | exact ih2 _ _ _ _ _ _ _ _ _ _
      | exact ih3 _ _ _ _ _ _ _ _ _
      | exact ih4 _ _ _ _ _ _ _
      | exact ih5 _ _ _ _ _ _ _ _ _
      | exact entry_Bytes.mono _ _
      | exact lockgatelaw15_awake.mono _
      | exact LeO.none _
      | refine LeO.ite ?_ ?_
      | refine LeO.bind ?_ (fun _ => ?_)
    · intro y0 y1 y2 y3 y4 y5 y6 y7 y8
      unfold lockgatelaw15_EntryKeeps.j5
      repeat' first
      | (with_reducible exact ih0 _ _ _ _ _ _)
      | (with_reducible exact ih1 _ _ _ _ _ _ _)
      | (with_reducible exact ih2 _ _ _ _ _ _ _ _ _ _)
      | (with_reducible exact ih3 _ _ _ _ _ _ _ _ _)
      | (with_reducible exact ih4 _ _ _ _ _ _ _)
      | (with_reducible exact ih5 _ _ _ _ _ _ _ _ _)
      | (with_reducible exact entry_Bytes.mono _ _)
      | (with_reducible exact lockgatelaw15_awake.mono _)
      | (with_reducible exact LeO.refl _)
      | (with_reducible exact LeO.none _)
      | (with_reducible refine LeO.ite ?_ ?_)
      | (with_reducible refine LeO.bind ?_ (fun _ => ?_))
      | exact ih0 _ _ _ _ _ _
      | exact ih1 _ _ _ _ _ _ _
      | exact ih2 _ _ _ _ _ _ _ _ _ _
      | exact ih3 _ _ _ _ _ _ _ _ _
      | exact ih4 _ _ _ _ _ _ _
      | exact ih5 _ _ _ _ _ _ _ _ _
      | exact entry_Bytes.mono _ _
      | exact lockgatelaw15_awake.mono _
      | exact LeO.none _
      | refine LeO.ite ?_ ?_
      | refine LeO.bind ?_ (fun _ => ?_)
theorem lockgatelaw15_EntryKeeps.mono : ∀ a0 k, LeO (lockgatelaw15_EntryKeeps.f k a0) (lockgatelaw15_EntryKeeps.f (k + 1) a0) := by
  intro a0 k
  obtain ⟨ih0, ih1, ih2, ih3, ih4, ih5⟩ := lockgatelaw15_EntryKeeps.mono_l k
  unfold lockgatelaw15_EntryKeeps.f
  repeat' first
      | (with_reducible exact ih0 _ _ _ _ _ _)
      | (with_reducible exact ih1 _ _ _ _ _ _ _)
      | (with_reducible exact ih2 _ _ _ _ _ _ _ _ _ _)
      | (with_reducible exact ih3 _ _ _ _ _ _ _ _ _)
      | (with_reducible exact ih4 _ _ _ _ _ _ _)
      | (with_reducible exact ih5 _ _ _ _ _ _ _ _ _)
      | (with_reducible exact entry_Bytes.mono _ _)
      | (with_reducible exact lockgatelaw15_awake.mono _)
      | (with_reducible exact LeO.refl _)
      | (with_reducible exact LeO.none _)
      | (with_reducible refine LeO.ite ?_ ?_)
      | (with_reducible refine LeO.bind ?_ (fun _ => ?_))
      | exact ih0 _ _ _ _ _ _
      | exact ih1 _ _ _ _ _ _ _
      | exact ih2 _ _ _ _ _ _ _ _ _ _
      | exact ih3 _ _ _ _ _ _ _ _ _
      | exact ih4 _ _ _ _ _ _ _
      | exact ih5 _ _ _ _ _ _ _ _ _
      | exact entry_Bytes.mono _ _
      | exact lockgatelaw15_awake.mono _
      | exact LeO.none _
      | refine LeO.ite ?_ ?_
      | refine LeO.bind ?_ (fun _ => ?_)
def lockgatelaw15_EntryKeeps.T8 : Bool × List (List Nat × List Nat) := (true, [([], []), ([], []), ([0, 1], [0, 1]), ([2], [2]), ([3], [3]), ([4], [4]), ([], []), ([], []), ([6, 7], [6, 7]), ([8], [8]), ([9], [9]), ([10], [10]), ([5, 11], [5, 11]), ([], []), ([13, 12, 5, 0, 1, 2, 3, 4, 5, 6, 7, 8, 9, 10, 11, 12, 13], [12, 13])])
def lockgatelaw15_EntryKeeps.B8 : List Nat := [0, 0, 3, 7, 15, 31, 0, 0, 192, 448, 960, 1984, 4095, 0, 16383]
theorem lockgatelaw15_EntryKeeps.tab8 : rtab .any (opsOf Tryd.f9 8) = lockgatelaw15_EntryKeeps.T8 := by kernel_rfl
theorem lockgatelaw15_EntryKeeps.bits8 : waitsOk lockgatelaw15_EntryKeeps.T8.2 lockgatelaw15_EntryKeeps.B8 = true := by kernel_rfl
set_option maxHeartbeats 8000000 in
set_option maxRecDepth 100000 in
theorem lockgatelaw15_EntryKeeps.calls (k : Nat) (A0 : Option Addr) (c0 : Nat) (l0 : List (S43)) (r : Bool) (w : World) (hr0 : Kd.C k43 w A0 l0.length l0) (hc0 : l0.length ≤ c0) (h : lockgatelaw15_EntryKeeps.f k l0 = some r) :
    Calls Tryd.prog 9 #[.slice A0 l0.length c0] w fun e w' => e = .returned (.bool r) ∧ Below w.heap.size w w' := by
  have hu43 := Tryd.underlying43
  have HR0 := Aside0.mk hr0
  have HC0 := Aside0.mk hc0
  clear hr0 hc0
  have HB := Aside0.mk (Below.refl w.heap.size w)
  have H : ((lockgatelaw15_awake.f k).bind fun t357 => (lockgatelaw15_EntryKeeps.l0 k l0 t357 ([] : List (S43)) ([] : List ByteArray) ([] : List Int) 0)) = some r := h
  clear h
  replace H := Option.bind_eq_some_iff.mp H
  obtain ⟨t357, A20, H⟩ := H
  replace H : (lockgatelaw15_EntryKeeps.l0 k l0 t357 ([] : List (S43)) ([] : List ByteArray) ([] : List Int) 0) = some r := H
  have A2 := Aside0.mk A20
  clear A20
  have H' := Aside0.mk H
  clear H
  go_enter Tryd.func9, Tryd.ntmps9
  go_wp2_with (first | ((with_reducible refine gate_callee (f := 10) rfl ?_); refine goesL_ (some 19) rfl rfl Tryd.func10 (by kernel_rfl) rfl #[] rfl (by (try simp only [List.map_toArray, List.map_cons, List.map_nil]); first | done | rfl | (simp only [List.length_drop, List.length_take]; rfl)) ?_; (with_reducible refine (lockgatelaw15_awake.calls k  t357 _ A2.out).mono ?_); rintro e w3 ⟨rfl, hb⟩; refine ⟨_, rfl, ?_⟩; have n0_ := Aside0.mk (below_step (by repeat (first | (with_reducible first | exact HB.out | apply below_alloc | apply pw_below_drewN | apply below_drew1) | exact HB.out)) hb); clear HB; have HB := n0_; clear n0_; (try clear hb); (try clear hb2); (try clear hk); (try clear hi)))
  go_loopg [4, 5, 6, 7] k (fun kq v4 v5 v6 v7 w' => ∃ (x4_1 : List (S43)) (x5_1 : List ByteArray) (x6_1 : List Int) (x7_1 : Int), v7 = .int .i64 x7_1 ∧ Aside0 (lockgatelaw15_EntryKeeps.l0 kq l0 t357 x4_1 x5_1 x6_1 x7_1 = some r) ∧ Aside0 (kq ≤ k) ∧ Aside0 (Kd.V k43 43 w' w.heap.size (fun k_ => some k_ ≠ (v5 : Value).ownBlock ∧ some k_ ≠ (v6 : Value).ownBlock) v4 x4_1) ∧ Aside0 (Kd.R Kd.string 9 w' w.heap.size (fun _ => True) v5 x5_1) ∧ Aside0 (Kd.R (Kd.int .i64) 3 w' w.heap.size (fun _ => True) v6 x6_1) ∧ Aside0 (Below w.heap.size w w'))
  case atStart => exact ⟨(([] : List (S43))), (([] : List ByteArray)), (([] : List Int)), (0), (by first | rfl | (simp; done) | (simp [*]; done)), H', ⟨Nat.le_refl _⟩, ⟨Kd.R_V (base := 0) (by first | exact Kd.R_nil _ _ _ _ _ | exact Kd.N_nil _ _ _ _ _ | exact Kd.V_nil _ _ _ _ _ | exact Kd.Q_nil _ _ _ _ _ | exact Kd.S_nil _ _ _ _ _)⟩, ⟨by first | exact Kd.R_nil _ _ _ _ _ | exact Kd.N_nil _ _ _ _ _ | exact Kd.V_nil _ _ _ _ _ | exact Kd.Q_nil _ _ _ _ _ | exact Kd.S_nil _ _ _ _ _⟩, ⟨by first | exact Kd.R_nil _ _ _ _ _ | exact Kd.N_nil _ _ _ _ _ | exact Kd.V_nil _ _ _ _ _ | exact Kd.Q_nil _ _ _ _ _ | exact Kd.S_nil _ _ _ _ _⟩, ⟨by repeat (first | (with_reducible first | exact HB.out | apply below_alloc | apply pw_below_drewN | apply below_drew1) | exact HB.out)⟩⟩
  case round =>
    clear H'
    try clear c1
    try clear p2
    obtain ⟨x4_1, x5_1, x6_1, x7_1, rfl, HA, HK1, HO_4, HO_5, HO_6, HB⟩ := hrel
    cases gk with
    | zero => exact absurd HA.out (by simp [lockgatelaw15_EntryKeeps.l0])
    | succ k1 =>
      have H := HA.out
      clear HA
      simp only [lockgatelaw15_EntryKeeps.l0] at H
      have HC4 := Aside0.mk H
      clear H
      go_upto_region 6 with (fail)
      go_cut [27] (fun v27 wc => ∃ (kq : Nat) (x27_3 : Bool), v27 = .bool x27_3 ∧ Aside0 (lockgatelaw15_EntryKeeps.j1 kq l0 t357 x4_1 x5_1 x6_1 x7_1 x27_3 = some r) ∧ Aside0 (kq ≤ k1) ∧ Aside0 (Kd.V k43 43 wc w.heap.size (fun k_ => some k_ ≠ (u5 : Value).ownBlock ∧ some k_ ≠ (u6 : Value).ownBlock) u4 x4_1) ∧ Aside0 (Kd.R Kd.string 9 wc w.heap.size (fun _ => True) u5 x5_1) ∧ Aside0 (Kd.R (Kd.int .i64) 3 wc w.heap.size (fun _ => True) u6 x6_1) ∧ Aside0 (Below w.heap.size w wc))
      case first =>
        have H := HC4.out
        clear HC4
        by_cases c5 : x7_1 < (l0.length : Int)
        · rw [if_pos c5] at H
          have c5b0 : decide (x7_1 < (l0.length : Int)) = true := decide_eq_true c5
          clear c5
          (first | rw [c5b0] | (simp only [i64_w, i32_w]; rw [c5b0]) | skip)
          have H' := Aside0.mk H
          clear H
          go_wp2
          go_meet
          case rel => exact ⟨_, (decide (x7_1 < 40)), (by first | rfl | (simp; done) | (simp [*]; done)), H', ⟨by have := HK1.out; first | omega | exact Nat.le_refl _⟩, ⟨by (with_reducible repeat (first | apply Kd.V_alloc | apply Kd.V_drewN | apply Kd.V_drew)); exact HO_4.out⟩, ⟨by (with_reducible repeat (first | apply Kd.R_alloc | apply Kd.R_drewN | apply Kd.R_drew)); exact HO_5.out⟩, ⟨by (with_reducible repeat (first | apply Kd.R_alloc | apply Kd.R_drewN | apply Kd.R_drew)); exact HO_6.out⟩, ⟨by repeat (first | (with_reducible first | exact HB.out | apply below_alloc | apply pw_below_drewN | apply below_drew1) | exact HB.out)⟩⟩
        · rw [if_neg c5] at H
          have c5b0 : decide (x7_1 < (l0.length : Int)) = false := decide_eq_false c5
          clear c5
          (first | rw [c5b0] | (simp only [i64_w, i32_w]; rw [c5b0]) | skip)
          have H' := Aside0.mk H
          clear H
          go_wp2
          go_meet
          case rel => exact ⟨_, (false), (by first | rfl | (simp; done) | (simp [*]; done)), H', ⟨by have := HK1.out; first | omega | exact Nat.le_refl _⟩, ⟨by (with_reducible repeat (first | apply Kd.V_alloc | apply Kd.V_drewN | apply Kd.V_drew)); exact HO_4.out⟩, ⟨by (with_reducible repeat (first | apply Kd.R_alloc | apply Kd.R_drewN | apply Kd.R_drew)); exact HO_5.out⟩, ⟨by (with_reducible repeat (first | apply Kd.R_alloc | apply Kd.R_drewN | apply Kd.R_drew)); exact HO_6.out⟩, ⟨by repeat (first | (with_reducible first | exact HB.out | apply below_alloc | apply pw_below_drewN | apply below_drew1) | exact HB.out)⟩⟩
      case rest =>
        clear HC4
        try clear c1
        try clear p2
        try clear c5
        try clear c5b0
        try clear p2
        obtain ⟨kq, x27_3, rfl, HA, HJ3, HO_4, HO_5, HO_6, HB⟩ := hcut
        cases kq with
        | zero => exact absurd HA.out (by simp [lockgatelaw15_EntryKeeps.j1])
        | succ kj3 =>
          have H := HA.out
          clear HA
          simp only [lockgatelaw15_EntryKeeps.j1] at H
          by_cases c6 : x27_3 = true
          · subst c6
            have H1 : (if 0 ≤ x7_1 then (if x7_1 < (l0.length : Int) then ((lockgatelaw15_short.f ((rd_T43 l0 x7_1).f0) 60).bind fun t359 => ((entry_Name.f t359).bind fun t362 => (if t362 = true then (lockgatelaw15_EntryKeeps.l1 kj3 l0 t357 x4_1 x5_1 x6_1 x7_1 (-1) 0 t359 (Go.bits .and .i64 ((rd_T43 l0 x7_1).f1) 65535)) else (lockgatelaw15_EntryKeeps.l0 kj3 l0 t357 x4_1 x5_1 x6_1 (wrap64 (x7_1 + 1)))))) else (none)) else (none)) = some r := by rw [if_pos rfl] at H; exact H
            clear H
            have H := H1
            clear H1
            by_cases c7 : 0 ≤ x7_1
            · rw [if_pos c7] at H
              have c7b0 : decide (0 ≤ x7_1) = true := decide_eq_true c7
              clear c7
              by_cases c8 : x7_1 < (l0.length : Int)
              · rw [if_pos c8] at H
                have c8b0 : decide (x7_1 < (l0.length : Int)) = true := decide_eq_true c8
                clear c8
                replace H := Option.bind_eq_some_iff.mp H
                obtain ⟨t359, A90, H⟩ := H
                replace H : ((entry_Name.f t359).bind fun t362 => (if t362 = true then (lockgatelaw15_EntryKeeps.l1 kj3 l0 t357 x4_1 x5_1 x6_1 x7_1 (-1) 0 t359 (Go.bits .and .i64 ((rd_T43 l0 x7_1).f1) 65535)) else (lockgatelaw15_EntryKeeps.l0 kj3 l0 t357 x4_1 x5_1 x6_1 (wrap64 (x7_1 + 1))))) = some r := H
                have A9 := Aside0.mk A90
                clear A90
                replace H := Option.bind_eq_some_iff.mp H
                obtain ⟨t362, A100, H⟩ := H
                replace H : (if t362 = true then (lockgatelaw15_EntryKeeps.l1 kj3 l0 t357 x4_1 x5_1 x6_1 x7_1 (-1) 0 t359 (Go.bits .and .i64 ((rd_T43 l0 x7_1).f1) 65535)) else (lockgatelaw15_EntryKeeps.l0 kj3 l0 t357 x4_1 x5_1 x6_1 (wrap64 (x7_1 + 1)))) = some r := H
                have A10 := Aside0.mk A100
                clear A100
                by_cases c11 : t362 = true
                · subst c11
                  have H1 : (lockgatelaw15_EntryKeeps.l1 kj3 l0 t357 x4_1 x5_1 x6_1 x7_1 (-1) 0 t359 (Go.bits .and .i64 ((rd_T43 l0 x7_1).f1) 65535)) = some r := by rw [if_pos rfl] at H; exact H
                  clear H
                  have H := H1
                  clear H1
                  have H' := Aside0.mk H
                  clear H
                  try go_wp2
                  have n0_ := Aside0.mk (Kd.V_drew HO_4.out)
                  have n1_ := Aside0.mk (Kd.R_drew HO_5.out)
                  have n2_ := Aside0.mk (Kd.R_drew HO_6.out)
                  have n3_ := Aside0.mk (below_drew1 HB.out)
                  clear HO_4
                  clear HO_5
                  clear HO_6
                  clear HB
                  have HO_4 := n0_
                  have HO_5 := n1_
                  have HO_6 := n2_
                  have HB := n3_
                  clear n0_ n1_ n2_ n3_
                  have p358 : 0 ≤ (x7_1 : Int) := of_decide_eq_true (by first | (with_reducible assumption) | assumption)
                  have q358 : x7_1 < (l0.length : Int) := of_decide_eq_true (by first | (with_reducible assumption) | assumption)
                  obtain ⟨ad358, e358, hx358_0, hx358_1⟩ := at_T43 HR0.out x7_1 p358 q358
                  have hw358_1 := hx358_1
                  have hw358_0 := hx358_0
                  cases e358
                  replace hx358_0 := (HB.out.cell (World.block_lt_of_cell? w _ hx358_0)).trans hx358_0
                  replace hx358_1 := (HB.out.cell (World.block_lt_of_cell? w _ hx358_1)).trans hx358_1
                  replace p358 := eq_true p358
                  replace q358 := eq_true q358
                  have p360 : 0 ≤ (x7_1 : Int) := of_decide_eq_true (by first | (with_reducible assumption) | assumption)
                  have q360 : x7_1 < (l0.length : Int) := of_decide_eq_true (by first | (with_reducible assumption) | assumption)
                  obtain ⟨ad360, e360, hx360_0, hx360_1⟩ := at_T43 HR0.out x7_1 p360 q360
                  have hw360_1 := hx360_1
                  have hw360_0 := hx360_0
                  obtain rfl : ad358 = ad360 := (by injection e360)
                  replace hx360_0 := (HB.out.cell (World.block_lt_of_cell? w _ hx360_0)).trans hx360_0
                  replace hx360_1 := (HB.out.cell (World.block_lt_of_cell? w _ hx360_1)).trans hx360_1
                  replace p360 := eq_true p360
                  replace q360 := eq_true q360
                  refine start_ (n := 15) (S := fun w' => w'.cell? (ad358.add ((x7_1).toNat * 2)) = some (.string ((rd_T43 l0 x7_1).f0)) ∧ w'.cell? ⟨(ad358.add ((x7_1).toNat * 2)).block, (ad358.add ((x7_1).toNat * 2)).off + 1, none⟩ = some (.int .i64 ((rd_T43 l0 x7_1).f1)) ∧ w'.cell? (ad358.add ((x7_1).toNat * 2)) = some (.string ((rd_T43 l0 x7_1).f0)) ∧ w'.cell? ⟨(ad358.add ((x7_1).toNat * 2)).block, (ad358.add ((x7_1).toNat * 2)).off + 1, none⟩ = some (.int .i64 ((rd_T43 l0 x7_1).f1))) (ds := []) #[false, false, false, false, false, false, false, false, false, false, false, false, false, false, false] (by kernel_rfl) rfl rfl ⟨((HB.out.cell (World.block_lt_of_cell? w _ hw358_0)).trans hw358_0), ((HB.out.cell (World.block_lt_of_cell? w _ hw358_1)).trans hw358_1), ((HB.out.cell (World.block_lt_of_cell? w _ hw360_0)).trans hw360_0), ((HB.out.cell (World.block_lt_of_cell? w _ hw360_1)).trans hw360_1)⟩ (fun hHeld => ?_); refine with_tabW lockgatelaw15_EntryKeeps.tab8 lockgatelaw15_EntryKeeps.bits8 (fun HT_ HW_ => ?_)
                  generalize wc.drew = w12 at HO_4 HO_5 HO_6 HB hx358_0 hx358_1 hx360_0 hx360_1 hHeld ⊢
                  refine pure_ (i := 0) (N := some 30) (v := ?_) (a' := ?_) #[true, false, false, false, false, false, false, false, false, false, false, false, false, false, false] rfl rfl (any_of HT_.out (by kernel_rfl)) (fun _ _ _ h => h) (Or.inl ⟨by rfl, ?_⟩) ?_ ?_
                  rotate_left
                  · intro w'
                    go_simp
                    first | with_reducible rfl | (rw [if_neg (by first | omega | (simp only [eq_iff_iff, iff_true, iff_false, decide_eq_true_eq, ByteArray.size_append, ByteArray.size_extract] at *; omega))])
                  rotate_left
                  · simp only [Act.put, List.setIfInBounds_toArray, List.set_cons_zero, List.set_cons_succ, i64_w, i32_w]
                    rfl
                  refine pure_ (i := 1) (N := some 31) (v := ?_) (a' := ?_) #[true, true, false, false, false, false, false, false, false, false, false, false, false, false, false] rfl rfl (any_of HT_.out (by kernel_rfl)) (fun _ _ _ h => h) (Or.inl ⟨by rfl, ?_⟩) ?_ ?_
                  rotate_left
                  · intro w'
                    go_simp
                    first | with_reducible rfl | (rw [if_neg (by first | omega | (simp only [eq_iff_iff, iff_true, iff_false, decide_eq_true_eq, ByteArray.size_append, ByteArray.size_extract] at *; omega))])
                  rotate_left
                  · simp only [Act.put, List.setIfInBounds_toArray, List.set_cons_zero, List.set_cons_succ, i64_w, i32_w]
                    rfl
                  refine pure_ (i := 2) (N := some 32) (v := ?_) (a' := ?_) #[true, true, true, false, false, false, false, false, false, false, false, false, false, false, false] rfl rfl (any_of HT_.out (by kernel_rfl)) (fun _ _ _ h => h) (Or.inl ⟨by rfl, ?_⟩) ?_ ?_
                  rotate_left
                  · intro w'
                    go_simp
                    first | with_reducible rfl | (rw [if_neg (by first | omega | (simp only [eq_iff_iff, iff_true, iff_false, decide_eq_true_eq, ByteArray.size_append, ByteArray.size_extract] at *; omega))])
                  rotate_left
                  · simp only [Act.put, List.setIfInBounds_toArray, List.set_cons_zero, List.set_cons_succ, i64_w, i32_w]
                    rfl
                  refine pure_ (i := 3) (N := some 33) (v := ?_) (a' := ?_) #[true, true, true, true, false, false, false, false, false, false, false, false, false, false, false] rfl rfl (any_of HT_.out (by kernel_rfl)) (fun _ _ _ h => h) (Or.inl ⟨by rfl, ?_⟩) ?_ ?_
                  rotate_left
                  · intro w'
                    go_simp
                    first | with_reducible rfl | (rw [if_neg (by first | omega | (simp only [eq_iff_iff, iff_true, iff_false, decide_eq_true_eq, ByteArray.size_append, ByteArray.size_extract] at *; omega))])
                  rotate_left
                  · simp only [Act.put, List.setIfInBounds_toArray, List.set_cons_zero, List.set_cons_succ, i64_w, i32_w]
                    rfl
                  refine pure_ (i := 6) (N := some 36) (v := ?_) (a' := ?_) #[true, true, true, true, false, false, true, false, false, false, false, false, false, false, false] rfl rfl (any_of HT_.out (by kernel_rfl)) (fun _ _ _ h => h) (Or.inl ⟨by rfl, ?_⟩) ?_ ?_
                  rotate_left
                  · intro w'
                    go_simp
                    first | with_reducible rfl | (rw [if_neg (by first | omega | (simp only [eq_iff_iff, iff_true, iff_false, decide_eq_true_eq, ByteArray.size_append, ByteArray.size_extract] at *; omega))])
                  rotate_left
                  · simp only [Act.put, List.setIfInBounds_toArray, List.set_cons_zero, List.set_cons_succ, i64_w, i32_w]
                    rfl
                  refine pure_ (i := 7) (N := some 37) (v := ?_) (a' := ?_) #[true, true, true, true, false, false, true, true, false, false, false, false, false, false, false] rfl rfl (any_of HT_.out (by kernel_rfl)) (fun _ _ _ h => h) (Or.inl ⟨by rfl, ?_⟩) ?_ ?_
                  rotate_left
                  · intro w'
                    go_simp
                    first | with_reducible rfl | (rw [if_neg (by first | omega | (simp only [eq_iff_iff, iff_true, iff_false, decide_eq_true_eq, ByteArray.size_append, ByteArray.size_extract] at *; omega))])
                  rotate_left
                  · simp only [Act.put, List.setIfInBounds_toArray, List.set_cons_zero, List.set_cons_succ, i64_w, i32_w]
                    rfl
                  refine pure_ (i := 8) (N := some 38) (v := ?_) (a' := ?_) #[true, true, true, true, false, false, true, true, true, false, false, false, false, false, false] rfl rfl (any_of HT_.out (by kernel_rfl)) (fun _ _ _ h => h) (Or.inl ⟨by rfl, ?_⟩) ?_ ?_
                  rotate_left
                  · intro w'
                    go_simp
                    first | with_reducible rfl | (rw [if_neg (by first | omega | (simp only [eq_iff_iff, iff_true, iff_false, decide_eq_true_eq, ByteArray.size_append, ByteArray.size_extract] at *; omega))])
                  rotate_left
                  · simp only [Act.put, List.setIfInBounds_toArray, List.set_cons_zero, List.set_cons_succ, i64_w, i32_w]
                    rfl
                  refine pure_ (i := 9) (N := some 39) (v := ?_) (a' := ?_) #[true, true, true, true, false, false, true, true, true, true, false, false, false, false, false] rfl rfl (any_of HT_.out (by kernel_rfl)) (fun _ _ _ h => h) (Or.inl ⟨by rfl, ?_⟩) ?_ ?_
                  rotate_left
                  · intro w'
                    go_simp
                    first | with_reducible rfl | (rw [if_neg (by first | omega | (simp only [eq_iff_iff, iff_true, iff_false, decide_eq_true_eq, ByteArray.size_append, ByteArray.size_extract] at *; omega))])
                  rotate_left
                  · simp only [Act.put, List.setIfInBounds_toArray, List.set_cons_zero, List.set_cons_succ, i64_w, i32_w]
                    rfl
                  refine take_ (i := 4) (N := some 34) (v := ?_) (a' := ?_) #[true, true, true, true, true, false, true, true, true, true, false, false, false, false, false] rfl rfl (take_ofW HT_.out HW_.out (by kernel_rfl)) (fun _ _ _ h => h) (Or.inl ⟨by rfl, ?_⟩) hHeld ?_ ?_
                  rotate_left
                  · rintro w' ⟨s0, s1, s2, s3⟩
                    go_simp
                    first | with_reducible rfl | (rw [if_neg (by first | omega | (simp only [eq_iff_iff, iff_true, iff_false, decide_eq_true_eq, ByteArray.size_append, ByteArray.size_extract] at *; omega))])
                  rotate_left
                  · simp only [Act.put, List.setIfInBounds_toArray, List.set_cons_zero, List.set_cons_succ, i64_w, i32_w]
                    rfl
                  refine take_ (i := 10) (N := some 40) (v := ?_) (a' := ?_) #[true, true, true, true, true, false, true, true, true, true, true, false, false, false, false] rfl rfl (take_ofW HT_.out HW_.out (by kernel_rfl)) (fun _ _ _ h => h) (Or.inl ⟨by rfl, ?_⟩) hHeld ?_ ?_
                  rotate_left
                  · rintro w' ⟨s0, s1, s2, s3⟩
                    go_simp
                    first | with_reducible rfl | (rw [if_neg (by first | omega | (simp only [eq_iff_iff, iff_true, iff_false, decide_eq_true_eq, ByteArray.size_append, ByteArray.size_extract] at *; omega))])
                  rotate_left
                  · simp only [Act.put, List.setIfInBounds_toArray, List.set_cons_zero, List.set_cons_succ, i64_w, i32_w]
                    rfl
                  refine pure_ (i := 11) (N := some 41) (v := ?_) (a' := ?_) #[true, true, true, true, true, false, true, true, true, true, true, true, false, false, false] rfl rfl (any_of HT_.out (by kernel_rfl)) (fun _ _ _ h => h) (Or.inl ⟨by rfl, ?_⟩) ?_ ?_
                  rotate_left
                  · intro w'
                    go_simp
                    first | with_reducible rfl | (rw [if_neg (by first | omega | (simp only [eq_iff_iff, iff_true, iff_false, decide_eq_true_eq, ByteArray.size_append, ByteArray.size_extract] at *; omega))])
                  rotate_left
                  · simp only [Act.put, List.setIfInBounds_toArray, List.set_cons_zero, List.set_cons_succ, i64_w, i32_w]
                    rfl
                  refine join_ (σ := Nat) 1 #[true, true, true, true, true, true, true, true, true, true, true, true, true, true, false] (fun s_ => [(35, .string t359), (8, .pointer (some ⟨s_, 0, none⟩)), (42, .agg #[.string t359, .int .i64 (Go.bits .and .i64 ((rd_T43 l0 x7_1).f1) 65535)])]) (fun s_ w' => (w'.cell? (ad358.add ((x7_1).toNat * 2)) = some (.string ((rd_T43 l0 x7_1).f0)) ∧ w'.cell? ⟨(ad358.add ((x7_1).toNat * 2)).block, (ad358.add ((x7_1).toNat * 2)).off + 1, none⟩ = some (.int .i64 ((rd_T43 l0 x7_1).f1)) ∧ w'.cell? (ad358.add ((x7_1).toNat * 2)) = some (.string ((rd_T43 l0 x7_1).f0)) ∧ w'.cell? ⟨(ad358.add ((x7_1).toNat * 2)).block, (ad358.add ((x7_1).toNat * 2)).off + 1, none⟩ = some (.int .i64 ((rd_T43 l0 x7_1).f1))) ∧ (Kd.V k43 43 w' w.heap.size (fun k_ => some k_ ≠ (u5 : Value).ownBlock ∧ some k_ ≠ (u6 : Value).ownBlock ∧ k_ ≠ s_) u4 x4_1) ∧ (Kd.R Kd.string 9 w' w.heap.size (fun _ => True) u5 x5_1) ∧ (Kd.R (Kd.int .i64) 3 w' w.heap.size (fun _ => True) u6 x6_1) ∧ (w'.heap[s_]? = some (.cells #[.string (⟨#[]⟩ : ByteArray), .int .i64 0] 43 (0, 0))) ∧ (w.heap.size ≤ s_) ∧ (w.heap.size ≤ s_) ∧ (Below w.heap.size w w')) ?_ ?_
                  rotate_left
                  · intro hCont
                    refine two_ (i := 5) (j := 13) (Ni := some 35) (Nj := some 8) #[true, true, true, true, true, true, true, true, true, true, true, true, false, false, false] #[true, true, true, true, true, false, true, true, true, true, true, true, false, true, false] rfl rfl rfl rfl (two_of HT_.out (by kernel_rfl)) (by decide) (by decide) (fun K hK => ?_) (fun K hK => ?_)
                    · skip
                      refine goes_ Tryd.func11 (by kernel_rfl) rfl #[.string ((rd_T43 l0 x7_1).f0), .int .i64 60] (by rfl) rfl rfl (by (try simp only [List.map_toArray, List.map_cons, List.map_nil]); first | done | rfl | (simp only [List.length_drop, List.length_take]; rfl)) ?_
                      with_reducible refine (lockgatelaw15_short.calls ((rd_T43 l0 x7_1).f0) 60 t359 _ A9.out).mono ?_
                      rintro e w' ⟨rfl, ⟨nd, rfl⟩⟩
                      refine ⟨_, rfl, ?_⟩
                      refine hK.out _ _ ⟨((HB.out.cell (World.block_lt_of_cell? w _ hw358_0)).trans hw358_0), ((HB.out.cell (World.block_lt_of_cell? w _ hw358_1)).trans hw358_1), ((HB.out.cell (World.block_lt_of_cell? w _ hw360_0)).trans hw360_0), ((HB.out.cell (World.block_lt_of_cell? w _ hw360_1)).trans hw360_1)⟩ (fun hHeld => ?_)
                      clear hK K
                      refine norm_ (a' := ?_) ?_ ?_
                      rotate_left
                      · show Act.put _ (some 35) _ = _
                        simp only [Act.put, List.setIfInBounds_toArray, List.set_cons_zero, List.set_cons_succ, i64_w, i32_w]
                        rfl
                      refine pure_ (i := 12) (N := some 42) (v := ?_) (a' := ?_) #[true, true, true, true, true, true, true, true, true, true, true, true, true, false, false] rfl rfl (any_of HT_.out (by kernel_rfl)) (fun _ _ _ h => h) (Or.inl ⟨by rfl, ?_⟩) ?_ ?_
                      rotate_left
                      · intro w'
                        go_simp
                        first | with_reducible rfl | (rw [if_neg (by first | omega | (simp only [eq_iff_iff, iff_true, iff_false, decide_eq_true_eq, ByteArray.size_append, ByteArray.size_extract] at *; omega))])
                      rotate_left
                      · simp only [Act.put, List.setIfInBounds_toArray, List.set_cons_zero, List.set_cons_succ, i64_w, i32_w]
                        rfl
                      refine one_ (i := 13) (N := some 8) #[true, true, true, true, true, true, true, true, true, true, true, true, true, true, false] rfl rfl (one_of HT_.out (by kernel_rfl)) (by decide) (fun K hK => ?_)
                      refine box_step ?hg (N := 8) ?hd (cs := #[.string (⟨#[]⟩ : ByteArray), .int .i64 0]) (t := 43) ?hr ?_; (case hd => rfl); (case hg => rfl); (case hr => first | (go_simp; done) | (go_simp; rfl))
                      intro gb361 hg w13 hbox hb
                      have n0_ := Aside0.mk (Kd.V_below (Kd.V_elderB (by (with_reducible repeat (first | apply Kd.V_alloc | apply Kd.V_drewN | apply Kd.V_drew)); exact HO_4.out) gb361 (Nat.le_of_eq hg.symm)) hb)
                      have n1_ := Aside0.mk (Kd.R_below (by (with_reducible repeat (first | apply Kd.R_alloc | apply Kd.R_drewN | apply Kd.R_drew)); exact HO_5.out) hb)
                      have n2_ := Aside0.mk (Kd.R_below (by (with_reducible repeat (first | apply Kd.R_alloc | apply Kd.R_drewN | apply Kd.R_drew)); exact HO_6.out) hb)
                      have n3_ := Aside0.mk (below_step (by repeat (first | (with_reducible first | exact HB.out | apply below_alloc | apply pw_below_drewN | apply below_drew1) | exact HB.out)) hb)
                      have n4_ := Aside0.mk (hbox)
                      have n5_ := Aside0.mk ((by rw [hg]; exact (below_size (by repeat (first | (with_reducible first | exact HB.out | apply below_alloc | apply pw_below_drewN | apply below_drew1) | exact HB.out))) : w.heap.size ≤ gb361))
                      have n6_ := Aside0.mk ((by rw [hg]; exact (below_size (by repeat (first | (with_reducible first | exact HB.out | apply below_alloc | apply pw_below_drewN | apply below_drew1) | exact HB.out))) : w.heap.size ≤ gb361))
                      clear HO_4
                      clear HO_5
                      clear HO_6
                      clear HB
                      have HO_4 := n0_
                      have HO_5 := n1_
                      have HO_6 := n2_
                      have HB := n3_
                      have BK361 := n4_
                      have GW361 := n5_
                      have GE361 := n6_
                      clear n0_ n1_ n2_ n3_ n4_ n5_ n6_
                      clear hb hbox hg
                      refine hK.out _ _ ⟨((HB.out.cell (World.block_lt_of_cell? w _ hw358_0)).trans hw358_0), ((HB.out.cell (World.block_lt_of_cell? w _ hw358_1)).trans hw358_1), ((HB.out.cell (World.block_lt_of_cell? w _ hw360_0)).trans hw360_0), ((HB.out.cell (World.block_lt_of_cell? w _ hw360_1)).trans hw360_1)⟩ (fun hHeld => ?_)
                      clear hK K
                      refine norm_ (a' := ?_) ?_ ?_
                      rotate_left
                      · show Act.put _ (some 8) _ = _
                        simp only [Act.put, List.setIfInBounds_toArray, List.set_cons_zero, List.set_cons_succ, i64_w, i32_w]
                        rfl
                      exact norm_ (by simp only [putAll, Act.put, List.setIfInBounds_toArray, List.set_cons_zero, List.set_cons_succ]) (hCont (gb361) _ ⟨hHeld, (by (with_reducible repeat (first | apply Kd.V_alloc | apply Kd.V_drewN | apply Kd.V_drew)); exact Kd.V_mono HO_4.out (fun _ hk => ⟨hk.1.1, ⟨hk.1.2, hk.2⟩⟩)), (by (with_reducible repeat (first | apply Kd.R_alloc | apply Kd.R_drewN | apply Kd.R_drew)); exact HO_5.out), (by (with_reducible repeat (first | apply Kd.R_alloc | apply Kd.R_drewN | apply Kd.R_drew)); exact HO_6.out), (by (with_reducible repeat (first | refine blk_drewN ?_ _ | refine blk_drew ?_ | refine blk_alloc ?_ _)); exact BK361.out), GW361.out, GE361.out, (by repeat (first | (with_reducible first | exact HB.out | apply below_alloc | apply pw_below_drewN | apply below_drew1 | refine below_set ?_ GE361.out) | exact HB.out))⟩)
                    · skip
                      refine box_step ?hg (N := 8) ?hd (cs := #[.string (⟨#[]⟩ : ByteArray), .int .i64 0]) (t := 43) ?hr ?_; (case hd => rfl); (case hg => rfl); (case hr => first | (go_simp; done) | (go_simp; rfl))
                      intro gb361 hg w13 hbox hb
                      have n0_ := Aside0.mk (Kd.V_below (Kd.V_elderB (by (with_reducible repeat (first | apply Kd.V_alloc | apply Kd.V_drewN | apply Kd.V_drew)); exact HO_4.out) gb361 (Nat.le_of_eq hg.symm)) hb)
                      have n1_ := Aside0.mk (Kd.R_below (by (with_reducible repeat (first | apply Kd.R_alloc | apply Kd.R_drewN | apply Kd.R_drew)); exact HO_5.out) hb)
                      have n2_ := Aside0.mk (Kd.R_below (by (with_reducible repeat (first | apply Kd.R_alloc | apply Kd.R_drewN | apply Kd.R_drew)); exact HO_6.out) hb)
                      have n3_ := Aside0.mk (below_step (by repeat (first | (with_reducible first | exact HB.out | apply below_alloc | apply pw_below_drewN | apply below_drew1) | exact HB.out)) hb)
                      have n4_ := Aside0.mk (hbox)
                      have n5_ := Aside0.mk ((by rw [hg]; exact (below_size (by repeat (first | (with_reducible first | exact HB.out | apply below_alloc | apply pw_below_drewN | apply below_drew1) | exact HB.out))) : w.heap.size ≤ gb361))
                      have n6_ := Aside0.mk ((by rw [hg]; exact (below_size (by repeat (first | (with_reducible first | exact HB.out | apply below_alloc | apply pw_below_drewN | apply below_drew1) | exact HB.out))) : w.heap.size ≤ gb361))
                      clear HO_4
                      clear HO_5
                      clear HO_6
                      clear HB
                      have HO_4 := n0_
                      have HO_5 := n1_
                      have HO_6 := n2_
                      have HB := n3_
                      have BK361 := n4_
                      have GW361 := n5_
                      have GE361 := n6_
                      clear n0_ n1_ n2_ n3_ n4_ n5_ n6_
                      clear hb hbox hg
                      refine hK.out _ _ ⟨((HB.out.cell (World.block_lt_of_cell? w _ hw358_0)).trans hw358_0), ((HB.out.cell (World.block_lt_of_cell? w _ hw358_1)).trans hw358_1), ((HB.out.cell (World.block_lt_of_cell? w _ hw360_0)).trans hw360_0), ((HB.out.cell (World.block_lt_of_cell? w _ hw360_1)).trans hw360_1)⟩ (fun hHeld => ?_)
                      clear hK K
                      refine norm_ (a' := ?_) ?_ ?_
                      rotate_left
                      · show Act.put _ (some 8) _ = _
                        simp only [Act.put, List.setIfInBounds_toArray, List.set_cons_zero, List.set_cons_succ, i64_w, i32_w]
                        rfl
                      refine one_ (i := 5) (N := some 35) #[true, true, true, true, true, true, true, true, true, true, true, true, false, true, false] rfl rfl (one_of HT_.out (by kernel_rfl)) (by decide) (fun K hK => ?_)
                      refine goes_ Tryd.func11 (by kernel_rfl) rfl #[.string ((rd_T43 l0 x7_1).f0), .int .i64 60] (by rfl) rfl rfl (by (try simp only [List.map_toArray, List.map_cons, List.map_nil]); first | done | rfl | (simp only [List.length_drop, List.length_take]; rfl)) ?_
                      with_reducible refine (lockgatelaw15_short.calls ((rd_T43 l0 x7_1).f0) 60 t359 _ A9.out).mono ?_
                      rintro e w' ⟨rfl, ⟨nd, rfl⟩⟩
                      refine ⟨_, rfl, ?_⟩
                      refine hK.out _ _ ⟨((HB.out.cell (World.block_lt_of_cell? w _ hw358_0)).trans hw358_0), ((HB.out.cell (World.block_lt_of_cell? w _ hw358_1)).trans hw358_1), ((HB.out.cell (World.block_lt_of_cell? w _ hw360_0)).trans hw360_0), ((HB.out.cell (World.block_lt_of_cell? w _ hw360_1)).trans hw360_1)⟩ (fun hHeld => ?_)
                      clear hK K
                      refine norm_ (a' := ?_) ?_ ?_
                      rotate_left
                      · show Act.put _ (some 35) _ = _
                        simp only [Act.put, List.setIfInBounds_toArray, List.set_cons_zero, List.set_cons_succ, i64_w, i32_w]
                        rfl
                      refine pure_ (i := 12) (N := some 42) (v := ?_) (a' := ?_) #[true, true, true, true, true, true, true, true, true, true, true, true, true, true, false] rfl rfl (any_of HT_.out (by kernel_rfl)) (fun _ _ _ h => h) (Or.inl ⟨by rfl, ?_⟩) ?_ ?_
                      rotate_left
                      · intro w'
                        go_simp
                        first | with_reducible rfl | (rw [if_neg (by first | omega | (simp only [eq_iff_iff, iff_true, iff_false, decide_eq_true_eq, ByteArray.size_append, ByteArray.size_extract] at *; omega))])
                      rotate_left
                      · simp only [Act.put, List.setIfInBounds_toArray, List.set_cons_zero, List.set_cons_succ, i64_w, i32_w]
                        rfl
                      exact norm_ (by simp only [putAll, Act.put, List.setIfInBounds_toArray, List.set_cons_zero, List.set_cons_succ]) (hCont (gb361) _ ⟨hHeld, (by (with_reducible repeat (first | apply Kd.V_alloc | apply Kd.V_drewN | apply Kd.V_drew)); exact Kd.V_mono HO_4.out (fun _ hk => ⟨hk.1.1, ⟨hk.1.2, hk.2⟩⟩)), (by (with_reducible repeat (first | apply Kd.R_alloc | apply Kd.R_drewN | apply Kd.R_drew)); exact HO_5.out), (by (with_reducible repeat (first | apply Kd.R_alloc | apply Kd.R_drewN | apply Kd.R_drew)); exact HO_6.out), (by (with_reducible repeat (first | refine blk_drewN ?_ _ | refine blk_drew ?_ | refine blk_alloc ?_ _)); exact BK361.out), GW361.out, GE361.out, (by repeat (first | (with_reducible first | exact HB.out | apply below_alloc | apply pw_below_drewN | apply below_drew1 | refine below_set ?_ GE361.out) | exact HB.out))⟩)
                  rintro gb361 w14 ⟨hS_, h0_, h1_, h2_, h3_, h4_, h5_, h6_⟩
                  have n0_ : Aside0 (Kd.V k43 43 w14 w.heap.size (fun k_ => some k_ ≠ (u5 : Value).ownBlock ∧ some k_ ≠ (u6 : Value).ownBlock ∧ k_ ≠ gb361) u4 x4_1) := ⟨h0_⟩
                  have n1_ : Aside0 (Kd.R Kd.string 9 w14 w.heap.size (fun _ => True) u5 x5_1) := ⟨h1_⟩
                  have n2_ : Aside0 (Kd.R (Kd.int .i64) 3 w14 w.heap.size (fun _ => True) u6 x6_1) := ⟨h2_⟩
                  have n3_ : Aside0 (w14.heap[gb361]? = some (.cells #[.string (⟨#[]⟩ : ByteArray), .int .i64 0] 43 (0, 0))) := ⟨h3_⟩
                  have n4_ : Aside0 (w.heap.size ≤ gb361) := ⟨h4_⟩
                  have n5_ : Aside0 (w.heap.size ≤ gb361) := ⟨h5_⟩
                  have n6_ : Aside0 (Below w.heap.size w w14) := ⟨h6_⟩
                  clear HO_4
                  clear HO_5
                  clear HO_6
                  clear HB
                  clear h0_ h1_ h2_ h3_ h4_ h5_ h6_
                  have HO_4 := n0_
                  have HO_5 := n1_
                  have HO_6 := n2_
                  have BK361 := n3_
                  have GW361 := n4_
                  have GE361 := n5_
                  have HB := n6_
                  clear n0_ n1_ n2_ n3_ n4_ n5_ n6_
                  have hHeld : w14.cell? (ad358.add ((x7_1).toNat * 2)) = some (.string ((rd_T43 l0 x7_1).f0)) ∧ w14.cell? ⟨(ad358.add ((x7_1).toNat * 2)).block, (ad358.add ((x7_1).toNat * 2)).off + 1, none⟩ = some (.int .i64 ((rd_T43 l0 x7_1).f1)) ∧ w14.cell? (ad358.add ((x7_1).toNat * 2)) = some (.string ((rd_T43 l0 x7_1).f0)) ∧ w14.cell? ⟨(ad358.add ((x7_1).toNat * 2)).block, (ad358.add ((x7_1).toNat * 2)).off + 1, none⟩ = some (.int .i64 ((rd_T43 l0 x7_1).f1)) := hS_
                  refine norm_ (a' := ?_) ?_ ?_
                  rotate_left
                  · simp only [putAll, Act.put, List.setIfInBounds_toArray, List.set_cons_zero, List.set_cons_succ]
                    rfl
                  refine one_ (i := 14) (N := none) #[true, true, true, true, true, true, true, true, true, true, true, true, true, true, true] rfl rfl (one_of HT_.out (by kernel_rfl)) (by decide) (fun K hK => ?_)
                  have hs15 : w14.cell? ⟨gb361, 0, none⟩ = some (.string (⟨#[]⟩ : ByteArray)) := (blk_cell BK361.out 0).trans rfl
                  have hfs15 := blk_frozen BK361.out 0
                  have hs16 : w14.cell? ⟨gb361, 1, none⟩ = some (.int .i64 0) := (blk_cell BK361.out 1).trans rfl
                  have hfs16 := blk_frozen BK361.out 1
                  refine skip_ (w1 := ?_) (by rfl) rfl ?_ ?_
                  rotate_left
                  · go_simp
                    rfl
                  refine hK.out _ _ ⟨((cell_far (p := ⟨gb361, _, none⟩) (by first | exact Nat.ne_of_lt (Nat.lt_of_lt_of_le (by have := World.block_lt_of_cell? _ _ hw358_0; first | rwa [add_block] at this | exact this) GW361.out) | (rw [add_block]; exact Nat.ne_of_lt (Nat.lt_of_lt_of_le (by have := World.block_lt_of_cell? _ _ hw358_0; first | rwa [add_block] at this | exact this) GW361.out)) | (show (Addr.add _ _).block ≠ _; rw [add_block]; exact Nat.ne_of_lt (Nat.lt_of_lt_of_le (by have := World.block_lt_of_cell? _ _ hw358_0; first | rwa [add_block] at this | exact this) GW361.out)) | (dsimp only; exact Nat.ne_of_lt (Nat.lt_of_lt_of_le (by have := World.block_lt_of_cell? _ _ hw358_0; first | rwa [add_block] at this | exact this) GW361.out))) _).trans (((cell_far (p := ⟨gb361, _, none⟩) (by first | exact Nat.ne_of_lt (Nat.lt_of_lt_of_le (by have := World.block_lt_of_cell? _ _ hw358_0; first | rwa [add_block] at this | exact this) GW361.out) | (rw [add_block]; exact Nat.ne_of_lt (Nat.lt_of_lt_of_le (by have := World.block_lt_of_cell? _ _ hw358_0; first | rwa [add_block] at this | exact this) GW361.out)) | (show (Addr.add _ _).block ≠ _; rw [add_block]; exact Nat.ne_of_lt (Nat.lt_of_lt_of_le (by have := World.block_lt_of_cell? _ _ hw358_0; first | rwa [add_block] at this | exact this) GW361.out)) | (dsimp only; exact Nat.ne_of_lt (Nat.lt_of_lt_of_le (by have := World.block_lt_of_cell? _ _ hw358_0; first | rwa [add_block] at this | exact this) GW361.out))) _).trans (hHeld.1)))), ((cell_far (p := ⟨gb361, _, none⟩) (by first | exact Nat.ne_of_lt (Nat.lt_of_lt_of_le (by have := World.block_lt_of_cell? _ _ hw358_1; first | rwa [add_block] at this | exact this) GW361.out) | (rw [add_block]; exact Nat.ne_of_lt (Nat.lt_of_lt_of_le (by have := World.block_lt_of_cell? _ _ hw358_1; first | rwa [add_block] at this | exact this) GW361.out)) | (show (Addr.add _ _).block ≠ _; rw [add_block]; exact Nat.ne_of_lt (Nat.lt_of_lt_of_le (by have := World.block_lt_of_cell? _ _ hw358_1; first | rwa [add_block] at this | exact this) GW361.out)) | (dsimp only; exact Nat.ne_of_lt (Nat.lt_of_lt_of_le (by have := World.block_lt_of_cell? _ _ hw358_1; first | rwa [add_block] at this | exact this) GW361.out))) _).trans (((cell_far (p := ⟨gb361, _, none⟩) (by first | exact Nat.ne_of_lt (Nat.lt_of_lt_of_le (by have := World.block_lt_of_cell? _ _ hw358_1; first | rwa [add_block] at this | exact this) GW361.out) | (rw [add_block]; exact Nat.ne_of_lt (Nat.lt_of_lt_of_le (by have := World.block_lt_of_cell? _ _ hw358_1; first | rwa [add_block] at this | exact this) GW361.out)) | (show (Addr.add _ _).block ≠ _; rw [add_block]; exact Nat.ne_of_lt (Nat.lt_of_lt_of_le (by have := World.block_lt_of_cell? _ _ hw358_1; first | rwa [add_block] at this | exact this) GW361.out)) | (dsimp only; exact Nat.ne_of_lt (Nat.lt_of_lt_of_le (by have := World.block_lt_of_cell? _ _ hw358_1; first | rwa [add_block] at this | exact this) GW361.out))) _).trans (hHeld.2.1)))), ((cell_far (p := ⟨gb361, _, none⟩) (by first | exact Nat.ne_of_lt (Nat.lt_of_lt_of_le (by have := World.block_lt_of_cell? _ _ hw360_0; first | rwa [add_block] at this | exact this) GW361.out) | (rw [add_block]; exact Nat.ne_of_lt (Nat.lt_of_lt_of_le (by have := World.block_lt_of_cell? _ _ hw360_0; first | rwa [add_block] at this | exact this) GW361.out)) | (show (Addr.add _ _).block ≠ _; rw [add_block]; exact Nat.ne_of_lt (Nat.lt_of_lt_of_le (by have := World.block_lt_of_cell? _ _ hw360_0; first | rwa [add_block] at this | exact this) GW361.out)) | (dsimp only; exact Nat.ne_of_lt (Nat.lt_of_lt_of_le (by have := World.block_lt_of_cell? _ _ hw360_0; first | rwa [add_block] at this | exact this) GW361.out))) _).trans (((cell_far (p := ⟨gb361, _, none⟩) (by first | exact Nat.ne_of_lt (Nat.lt_of_lt_of_le (by have := World.block_lt_of_cell? _ _ hw360_0; first | rwa [add_block] at this | exact this) GW361.out) | (rw [add_block]; exact Nat.ne_of_lt (Nat.lt_of_lt_of_le (by have := World.block_lt_of_cell? _ _ hw360_0; first | rwa [add_block] at this | exact this) GW361.out)) | (show (Addr.add _ _).block ≠ _; rw [add_block]; exact Nat.ne_of_lt (Nat.lt_of_lt_of_le (by have := World.block_lt_of_cell? _ _ hw360_0; first | rwa [add_block] at this | exact this) GW361.out)) | (dsimp only; exact Nat.ne_of_lt (Nat.lt_of_lt_of_le (by have := World.block_lt_of_cell? _ _ hw360_0; first | rwa [add_block] at this | exact this) GW361.out))) _).trans (hHeld.2.2.1)))), ((cell_far (p := ⟨gb361, _, none⟩) (by first | exact Nat.ne_of_lt (Nat.lt_of_lt_of_le (by have := World.block_lt_of_cell? _ _ hw360_1; first | rwa [add_block] at this | exact this) GW361.out) | (rw [add_block]; exact Nat.ne_of_lt (Nat.lt_of_lt_of_le (by have := World.block_lt_of_cell? _ _ hw360_1; first | rwa [add_block] at this | exact this) GW361.out)) | (show (Addr.add _ _).block ≠ _; rw [add_block]; exact Nat.ne_of_lt (Nat.lt_of_lt_of_le (by have := World.block_lt_of_cell? _ _ hw360_1; first | rwa [add_block] at this | exact this) GW361.out)) | (dsimp only; exact Nat.ne_of_lt (Nat.lt_of_lt_of_le (by have := World.block_lt_of_cell? _ _ hw360_1; first | rwa [add_block] at this | exact this) GW361.out))) _).trans (((cell_far (p := ⟨gb361, _, none⟩) (by first | exact Nat.ne_of_lt (Nat.lt_of_lt_of_le (by have := World.block_lt_of_cell? _ _ hw360_1; first | rwa [add_block] at this | exact this) GW361.out) | (rw [add_block]; exact Nat.ne_of_lt (Nat.lt_of_lt_of_le (by have := World.block_lt_of_cell? _ _ hw360_1; first | rwa [add_block] at this | exact this) GW361.out)) | (show (Addr.add _ _).block ≠ _; rw [add_block]; exact Nat.ne_of_lt (Nat.lt_of_lt_of_le (by have := World.block_lt_of_cell? _ _ hw360_1; first | rwa [add_block] at this | exact this) GW361.out)) | (dsimp only; exact Nat.ne_of_lt (Nat.lt_of_lt_of_le (by have := World.block_lt_of_cell? _ _ hw360_1; first | rwa [add_block] at this | exact this) GW361.out))) _).trans (hHeld.2.2.2))))⟩ (fun hHeld => ?_)
                  clear hK K
                  refine done_ (done_of HT_.out (by kernel_rfl)) ?_
                  have hcz17_0 : w14.cell? ⟨gb361, 0, none⟩ = some (.string (⟨#[]⟩ : ByteArray)) := (blk_cell BK361.out 0).trans rfl
                  have hcz17_1 : w14.cell? ⟨gb361, 1, none⟩ = some (.int .i64 0) := (blk_cell BK361.out 1).trans rfl
                  have hfz17_0 := blk_frozen BK361.out 0
                  have hfz17_1 := blk_frozen BK361.out 1
                  try go_wp2_with (first | ((with_reducible refine gate_callee (f := 15) rfl ?_); refine goesL_ (some 45) rfl rfl Tryd.func15 (by kernel_rfl) rfl #[.string t359] rfl (by (try simp only [List.map_toArray, List.map_cons, List.map_nil]); first | done | rfl | (simp only [List.length_drop, List.length_take]; rfl)) ?_; (with_reducible refine (entry_Name.calls t359 true _ A10.out).mono ?_); rintro e w18 ⟨rfl, hb⟩; refine ⟨_, rfl, ?_⟩; have n0_ := Aside0.mk (Kd.V_below (by (with_reducible repeat (first | apply Kd.V_alloc | apply Kd.V_drewN | apply Kd.V_drew)); exact (Kd.V_mono (Kd.V_far (p := ⟨gb361, 1, none⟩) (Kd.V_far (p := ⟨gb361, 0, none⟩) (Kd.V_mono HO_4.out (fun k_ hk => (⟨hk, hk.2.2⟩ : _ ∧ k_ ≠ gb361))) (fun _ hk => hk.2) (.string t359)) (fun _ hk => hk.2) (.int .i64 (Go.bits .and .i64 ((rd_T43 l0 x7_1).f1) 65535))) (fun _ h_ => h_.1))) hb); have n1_ := Aside0.mk (Kd.R_below (by (with_reducible repeat (first | apply Kd.R_alloc | apply Kd.R_drewN | apply Kd.R_drew)); exact (Kd.R_mono (Kd.R_far (p := ⟨gb361, 1, none⟩) (Kd.R_far (p := ⟨gb361, 0, none⟩) (Kd.R_types HO_5.out BK361.out (by decide)) (fun _ hk => hk.2) (.string t359)) (fun _ hk => hk.2) (.int .i64 (Go.bits .and .i64 ((rd_T43 l0 x7_1).f1) 65535))) (fun _ h_ => h_.1))) hb); have n2_ := Aside0.mk (Kd.R_below (by (with_reducible repeat (first | apply Kd.R_alloc | apply Kd.R_drewN | apply Kd.R_drew)); exact (Kd.R_mono (Kd.R_far (p := ⟨gb361, 1, none⟩) (Kd.R_far (p := ⟨gb361, 0, none⟩) (Kd.R_types HO_6.out BK361.out (by decide)) (fun _ hk => hk.2) (.string t359)) (fun _ hk => hk.2) (.int .i64 (Go.bits .and .i64 ((rd_T43 l0 x7_1).f1) 65535))) (fun _ h_ => h_.1))) hb); have n3_ := Aside0.mk (blk_below (g := gb361) (o := .cells #[.string t359, .int .i64 (Go.bits .and .i64 ((rd_T43 l0 x7_1).f1) 65535)] 43 (0, 0)) (by (with_reducible repeat (first | refine blk_drewN ?_ _ | refine blk_drew ?_ | refine blk_alloc ?_ _)); refine blk_put (cs := #[.string t359, .int .i64 0]) ?_ 1 _ rfl; (with_reducible repeat (first | refine blk_drewN ?_ _ | refine blk_drew ?_ | refine blk_alloc ?_ _)); refine blk_put (cs := #[.string (⟨#[]⟩ : ByteArray), .int .i64 0]) ?_ 0 _ rfl; (with_reducible repeat (first | refine blk_drewN ?_ _ | refine blk_drew ?_ | refine blk_alloc ?_ _)); exact BK361.out) hb); have n4_ := Aside0.mk (below_step (by repeat (first | (with_reducible first | exact HB.out | apply below_alloc | apply pw_below_drewN | apply below_drew1 | refine below_set ?_ GE361.out) | exact HB.out)) hb); clear HO_4; clear HO_5; clear HO_6; clear BK361; clear HB; have HO_4 := n0_; have HO_5 := n1_; have HO_6 := n2_; have BK361 := n3_; have HB := n4_; clear n0_ n1_ n2_ n3_ n4_; (try clear hb); (try clear hb2); (try clear hk); (try clear hi)))
                  go_loopg [9, 10] kj3 (fun kq v9 v10 w' => ∃ (x9_3 : Int) (x10_3 : Int), v9 = .int .i64 x9_3 ∧ v10 = .int .i64 x10_3 ∧ Aside0 (lockgatelaw15_EntryKeeps.l1 kq l0 t357 x4_1 x5_1 x6_1 x7_1 x9_3 x10_3 t359 (Go.bits .and .i64 ((rd_T43 l0 x7_1).f1) 65535) = some r) ∧ Aside0 (kq ≤ kj3) ∧ Aside0 (Kd.V k43 43 w' w.heap.size (fun k_ => some k_ ≠ (u5 : Value).ownBlock ∧ some k_ ≠ (u6 : Value).ownBlock ∧ k_ ≠ gb361) u4 x4_1) ∧ Aside0 (Kd.R Kd.string 9 w' w.heap.size (fun _ => True) u5 x5_1) ∧ Aside0 (Kd.R (Kd.int .i64) 3 w' w.heap.size (fun _ => True) u6 x6_1) ∧ Aside0 (w'.heap[gb361]? = some (.cells #[.string t359, .int .i64 (Go.bits .and .i64 ((rd_T43 l0 x7_1).f1) 65535)] 43 (0, 0))) ∧ Aside0 (Below w.heap.size w w'))
                  case atStart => exact ⟨((-1)), (0), (by first | rfl | (simp; done) | (simp [*]; done)), (by first | rfl | (simp; done) | (simp [*]; done)), H', ⟨Nat.le_refl _⟩, ⟨by (with_reducible repeat (first | apply Kd.V_alloc | apply Kd.V_drewN | apply Kd.V_drew)); exact HO_4.out⟩, ⟨by (with_reducible repeat (first | apply Kd.R_alloc | apply Kd.R_drewN | apply Kd.R_drew)); exact HO_5.out⟩, ⟨by (with_reducible repeat (first | apply Kd.R_alloc | apply Kd.R_drewN | apply Kd.R_drew)); exact HO_6.out⟩, ⟨by (with_reducible repeat (first | refine blk_drewN ?_ _ | refine blk_drew ?_ | refine blk_alloc ?_ _)); exact BK361.out⟩, ⟨by repeat (first | (with_reducible first | exact HB.out | apply below_alloc | apply pw_below_drewN | apply below_drew1 | refine below_set ?_ GE361.out) | exact HB.out)⟩⟩
                  case round =>
                    clear H'
                    try clear c1
                    try clear p2
                    try clear p3
                    try clear q3
                    try clear hx3
                    try clear c5
                    try clear c5b0
                    try clear c6
                    try clear p6
                    try clear c7
                    try clear c7b0
                    try clear c8
                    try clear c8b0
                    try clear c9
                    try clear c10
                    try clear c11
                    try clear c15
                    try clear hcz17_0
                    try clear hcz17_1
                    try clear hfz17_0
                    try clear hfz17_1
                    try clear hx358_0
                    try clear hx358_1
                    try clear hx360_0
                    try clear hx360_1
                    try clear p2
                    try clear p358
                    try clear p360
                    try clear q358
                    try clear q360
                    obtain ⟨x9_3, x10_3, rfl, rfl, HA, HK3, HO_4, HO_5, HO_6, BK361, HB⟩ := hrel
                    cases gk with
                    | zero => exact absurd HA.out (by simp [lockgatelaw15_EntryKeeps.l1])
                    | succ k3 =>
                      have H := HA.out
                      clear HA
                      simp only [lockgatelaw15_EntryKeeps.l1] at H
                      by_cases c19 : x10_3 < (x5_1.length : Int)
                      · rw [if_pos c19] at H
                        have c19b0 : decide (x10_3 < (x5_1.length : Int)) = true := decide_eq_true c19
                        clear c19
                        by_cases c20 : 0 ≤ x10_3
                        · rw [if_pos c20] at H
                          have c20b0 : decide (0 ≤ x10_3) = true := decide_eq_true c20
                          clear c20
                          by_cases c21 : (rdOf ByteArray.empty x5_1 x10_3).toList = t359.toList
                          · rw [if_pos c21] at H
                            have c21b0 : ((rdOf ByteArray.empty x5_1 x10_3).toList == t359.toList) = true := beq_iff_eq.mpr c21
                            have c21b1 : ((rdOf ByteArray.empty x5_1 x10_3).toList != t359.toList) = false := bne_eq_false_iff_eq.mpr c21
                            clear c21
                            have H' := Aside0.mk H
                            clear H
                            obtain ⟨Ao22, co22, eo22⟩ := Kd.R_slice HO_5.out
                            subst eo22
                            try go_wp2
                            have n0_ := Aside0.mk (Kd.V_drew HO_4.out)
                            have n1_ := Aside0.mk (Kd.R_drew HO_5.out)
                            have n2_ := Aside0.mk (Kd.R_drew HO_6.out)
                            have n3_ := Aside0.mk (blk_drew BK361.out)
                            have n4_ := Aside0.mk (below_drew1 HB.out)
                            clear HO_4
                            clear HO_5
                            clear HO_6
                            clear BK361
                            clear HB
                            have HO_4 := n0_
                            have HO_5 := n1_
                            have HO_6 := n2_
                            have BK361 := n3_
                            have HB := n4_
                            clear n0_ n1_ n2_ n3_ n4_
                            have p363 : 0 ≤ (x10_3 : Int) := of_decide_eq_true (by first | (with_reducible assumption) | assumption)
                            have q363 : x10_3 < (x5_1.length : Int) := of_decide_eq_true (by first | (with_reducible assumption) | assumption)
                            obtain ⟨ad363, e363, hx363_0⟩ := Kd.at_string (Kd.R_reads' HO_5.out).2.2 x10_3 p363 q363
                            cases e363
                            replace p363 := eq_true p363
                            replace q363 := eq_true q363
                            refine start_ (n := 7) (S := fun w' => w'.cell? ⟨gb361, 0, none⟩ = some (.string t359) ∧ w'.cell? ⟨gb361, 1, none⟩ = some (.int .i64 (Go.bits .and .i64 ((rd_T43 l0 x7_1).f1) 65535)) ∧ w'.cell? (ad363.add (x10_3).toNat) = some (.string (rdOf ByteArray.empty x5_1 x10_3))) (ds := []) #[false, false, false, false, false, false, false] (by kernel_rfl) rfl rfl ⟨(blk_cell BK361.out 0).trans rfl, (blk_cell BK361.out 1).trans rfl, hx363_0⟩ (fun hHeld => ?_)
                            generalize wr.drew = w23 at HO_4 HO_5 HO_6 BK361 HB hx363_0 hHeld ⊢
                            refine pure_ (i := 0) (N := some 53) (v := ?_) (a' := ?_) #[true, false, false, false, false, false, false] rfl rfl (by kernel_rfl) (fun _ _ _ h => h) (Or.inl ⟨by rfl, ?_⟩) ?_ ?_
                            rotate_left
                            · intro w'
                              go_simp
                              first | with_reducible rfl | (rw [if_neg (by first | omega | (simp only [eq_iff_iff, iff_true, iff_false, decide_eq_true_eq, ByteArray.size_append, ByteArray.size_extract] at *; omega))])
                            rotate_left
                            · simp only [Act.put, List.setIfInBounds_toArray, List.set_cons_zero, List.set_cons_succ, i64_w, i32_w]
                              rfl
                            refine pure_ (i := 1) (N := some 54) (v := ?_) (a' := ?_) #[true, true, false, false, false, false, false] rfl rfl (by kernel_rfl) (fun _ _ _ h => h) (Or.inl ⟨by rfl, ?_⟩) ?_ ?_
                            rotate_left
                            · intro w'
                              go_simp
                              first | with_reducible rfl | (rw [if_neg (by first | omega | (simp only [eq_iff_iff, iff_true, iff_false, decide_eq_true_eq, ByteArray.size_append, ByteArray.size_extract] at *; omega))])
                            rotate_left
                            · simp only [Act.put, List.setIfInBounds_toArray, List.set_cons_zero, List.set_cons_succ, i64_w, i32_w]
                              rfl
                            refine pure_ (i := 2) (N := some 55) (v := ?_) (a' := ?_) #[true, true, true, false, false, false, false] rfl rfl (by kernel_rfl) (fun _ _ _ h => h) (Or.inl ⟨by rfl, ?_⟩) ?_ ?_
                            rotate_left
                            · intro w'
                              go_simp
                              first | with_reducible rfl | (rw [if_neg (by first | omega | (simp only [eq_iff_iff, iff_true, iff_false, decide_eq_true_eq, ByteArray.size_append, ByteArray.size_extract] at *; omega))])
                            rotate_left
                            · simp only [Act.put, List.setIfInBounds_toArray, List.set_cons_zero, List.set_cons_succ, i64_w, i32_w]
                              rfl
                            refine pure_ (i := 4) (N := some 57) (v := ?_) (a' := ?_) #[true, true, true, false, true, false, false] rfl rfl (by kernel_rfl) (fun _ _ _ h => h) (Or.inl ⟨by rfl, ?_⟩) ?_ ?_
                            rotate_left
                            · intro w'
                              go_simp
                              first | with_reducible rfl | (rw [if_neg (by first | omega | (simp only [eq_iff_iff, iff_true, iff_false, decide_eq_true_eq, ByteArray.size_append, ByteArray.size_extract] at *; omega))])
                            rotate_left
                            · simp only [Act.put, List.setIfInBounds_toArray, List.set_cons_zero, List.set_cons_succ, i64_w, i32_w]
                              rfl
                            refine take_ (i := 3) (N := some 56) (v := ?_) (a' := ?_) #[true, true, true, true, true, false, false] rfl rfl (by kernel_rfl) (fun _ _ _ h => h) (Or.inl ⟨by rfl, ?_⟩) hHeld ?_ ?_
                            rotate_left
                            · rintro w' ⟨s0, s1, s2⟩
                              go_simp
                              first | with_reducible rfl | (rw [if_neg (by first | omega | (simp only [eq_iff_iff, iff_true, iff_false, decide_eq_true_eq, ByteArray.size_append, ByteArray.size_extract] at *; omega))])
                            rotate_left
                            · simp only [Act.put, List.setIfInBounds_toArray, List.set_cons_zero, List.set_cons_succ, i64_w, i32_w]
                              rfl
                            refine take_ (i := 5) (N := some 58) (v := ?_) (a' := ?_) #[true, true, true, true, true, true, false] rfl rfl (by kernel_rfl) (fun _ _ _ h => h) (Or.inl ⟨by rfl, ?_⟩) hHeld ?_ ?_
                            rotate_left
                            · rintro w' ⟨s0, s1, s2⟩
                              go_simp
                              first | with_reducible rfl | (rw [if_neg (by first | omega | (simp only [eq_iff_iff, iff_true, iff_false, decide_eq_true_eq, ByteArray.size_append, ByteArray.size_extract] at *; omega))])
                            rotate_left
                            · simp only [Act.put, List.setIfInBounds_toArray, List.set_cons_zero, List.set_cons_succ, i64_w, i32_w]
                              rfl
                            refine pure_ (i := 6) (N := some 59) (v := ?_) (a' := ?_) #[true, true, true, true, true, true, true] rfl rfl (by kernel_rfl) (fun _ _ _ h => h) (Or.inl ⟨by rfl, ?_⟩) ?_ ?_
                            rotate_left
                            · intro w'
                              go_simp
                              first | with_reducible rfl | (rw [if_neg (by first | omega | (simp only [eq_iff_iff, iff_true, iff_false, decide_eq_true_eq, ByteArray.size_append, ByteArray.size_extract] at *; omega))])
                            rotate_left
                            · simp only [Act.put, List.setIfInBounds_toArray, List.set_cons_zero, List.set_cons_succ, i64_w, i32_w]
                              rfl
                            refine done_ (by kernel_rfl) ?_
                            try go_wp2
                            go_roundg k3
                            case measure => have := HK1.out; have := HJ3.out; have := HK3.out; omega
                            case rel => exact ⟨(x10_3), (wrap64 (x10_3 + 1)), (by first | rfl | (simp; done) | (simp [*]; done)), (by first | rfl | (simp; done) | (simp [*]; done)), H', ⟨by have := HK1.out; have := HJ3.out; have := HK3.out; omega⟩, ⟨by (with_reducible repeat (first | apply Kd.V_alloc | apply Kd.V_drewN | apply Kd.V_drew)); exact HO_4.out⟩, ⟨by (with_reducible repeat (first | apply Kd.R_alloc | apply Kd.R_drewN | apply Kd.R_drew)); exact HO_5.out⟩, ⟨by (with_reducible repeat (first | apply Kd.R_alloc | apply Kd.R_drewN | apply Kd.R_drew)); exact HO_6.out⟩, ⟨by (with_reducible repeat (first | refine blk_drewN ?_ _ | refine blk_drew ?_ | refine blk_alloc ?_ _)); exact BK361.out⟩, ⟨by repeat (first | (with_reducible first | exact HB.out | apply below_alloc | apply pw_below_drewN | apply below_drew1 | refine below_set ?_ GE361.out) | exact HB.out)⟩⟩
                          · rw [if_neg c21] at H
                            have c21b0 : ((rdOf ByteArray.empty x5_1 x10_3).toList == t359.toList) = false := beq_eq_false_iff_ne.mpr c21
                            have c21b1 : ((rdOf ByteArray.empty x5_1 x10_3).toList != t359.toList) = true := bne_iff_ne.mpr c21
                            have H' := Aside0.mk H
                            clear H
                            obtain ⟨Ao24, co24, eo24⟩ := Kd.R_slice HO_5.out
                            subst eo24
                            try go_wp2
                            have n0_ := Aside0.mk (Kd.V_drew HO_4.out)
                            have n1_ := Aside0.mk (Kd.R_drew HO_5.out)
                            have n2_ := Aside0.mk (Kd.R_drew HO_6.out)
                            have n3_ := Aside0.mk (blk_drew BK361.out)
                            have n4_ := Aside0.mk (below_drew1 HB.out)
                            clear HO_4
                            clear HO_5
                            clear HO_6
                            clear BK361
                            clear HB
                            have HO_4 := n0_
                            have HO_5 := n1_
                            have HO_6 := n2_
                            have BK361 := n3_
                            have HB := n4_
                            clear n0_ n1_ n2_ n3_ n4_
                            have p363 : 0 ≤ (x10_3 : Int) := of_decide_eq_true (by first | (with_reducible assumption) | assumption)
                            have q363 : x10_3 < (x5_1.length : Int) := of_decide_eq_true (by first | (with_reducible assumption) | assumption)
                            obtain ⟨ad363, e363, hx363_0⟩ := Kd.at_string (Kd.R_reads' HO_5.out).2.2 x10_3 p363 q363
                            cases e363
                            replace p363 := eq_true p363
                            replace q363 := eq_true q363
                            refine start_ (n := 7) (S := fun w' => w'.cell? ⟨gb361, 0, none⟩ = some (.string t359) ∧ w'.cell? ⟨gb361, 1, none⟩ = some (.int .i64 (Go.bits .and .i64 ((rd_T43 l0 x7_1).f1) 65535)) ∧ w'.cell? (ad363.add (x10_3).toNat) = some (.string (rdOf ByteArray.empty x5_1 x10_3))) (ds := []) #[false, false, false, false, false, false, false] (by kernel_rfl) rfl rfl ⟨(blk_cell BK361.out 0).trans rfl, (blk_cell BK361.out 1).trans rfl, hx363_0⟩ (fun hHeld => ?_)
                            generalize wr.drew = w25 at HO_4 HO_5 HO_6 BK361 HB hx363_0 hHeld ⊢
                            refine pure_ (i := 0) (N := some 53) (v := ?_) (a' := ?_) #[true, false, false, false, false, false, false] rfl rfl (by kernel_rfl) (fun _ _ _ h => h) (Or.inl ⟨by rfl, ?_⟩) ?_ ?_
                            rotate_left
                            · intro w'
                              go_simp
                              first | with_reducible rfl | (rw [if_neg (by first | omega | (simp only [eq_iff_iff, iff_true, iff_false, decide_eq_true_eq, ByteArray.size_append, ByteArray.size_extract] at *; omega))])
                            rotate_left
                            · simp only [Act.put, List.setIfInBounds_toArray, List.set_cons_zero, List.set_cons_succ, i64_w, i32_w]
                              rfl
                            refine pure_ (i := 1) (N := some 54) (v := ?_) (a' := ?_) #[true, true, false, false, false, false, false] rfl rfl (by kernel_rfl) (fun _ _ _ h => h) (Or.inl ⟨by rfl, ?_⟩) ?_ ?_
                            rotate_left
                            · intro w'
                              go_simp
                              first | with_reducible rfl | (rw [if_neg (by first | omega | (simp only [eq_iff_iff, iff_true, iff_false, decide_eq_true_eq, ByteArray.size_append, ByteArray.size_extract] at *; omega))])
                            rotate_left
                            · simp only [Act.put, List.setIfInBounds_toArray, List.set_cons_zero, List.set_cons_succ, i64_w, i32_w]
                              rfl
                            refine pure_ (i := 2) (N := some 55) (v := ?_) (a' := ?_) #[true, true, true, false, false, false, false] rfl rfl (by kernel_rfl) (fun _ _ _ h => h) (Or.inl ⟨by rfl, ?_⟩) ?_ ?_
                            rotate_left
                            · intro w'
                              go_simp
                              first | with_reducible rfl | (rw [if_neg (by first | omega | (simp only [eq_iff_iff, iff_true, iff_false, decide_eq_true_eq, ByteArray.size_append, ByteArray.size_extract] at *; omega))])
                            rotate_left
                            · simp only [Act.put, List.setIfInBounds_toArray, List.set_cons_zero, List.set_cons_succ, i64_w, i32_w]
                              rfl
                            refine pure_ (i := 4) (N := some 57) (v := ?_) (a' := ?_) #[true, true, true, false, true, false, false] rfl rfl (by kernel_rfl) (fun _ _ _ h => h) (Or.inl ⟨by rfl, ?_⟩) ?_ ?_
                            rotate_left
                            · intro w'
                              go_simp
                              first | with_reducible rfl | (rw [if_neg (by first | omega | (simp only [eq_iff_iff, iff_true, iff_false, decide_eq_true_eq, ByteArray.size_append, ByteArray.size_extract] at *; omega))])
                            rotate_left
                            · simp only [Act.put, List.setIfInBounds_toArray, List.set_cons_zero, List.set_cons_succ, i64_w, i32_w]
                              rfl
                            refine take_ (i := 3) (N := some 56) (v := ?_) (a' := ?_) #[true, true, true, true, true, false, false] rfl rfl (by kernel_rfl) (fun _ _ _ h => h) (Or.inl ⟨by rfl, ?_⟩) hHeld ?_ ?_
                            rotate_left
                            · rintro w' ⟨s0, s1, s2⟩
                              go_simp
                              first | with_reducible rfl | (rw [if_neg (by first | omega | (simp only [eq_iff_iff, iff_true, iff_false, decide_eq_true_eq, ByteArray.size_append, ByteArray.size_extract] at *; omega))])
                            rotate_left
                            · simp only [Act.put, List.setIfInBounds_toArray, List.set_cons_zero, List.set_cons_succ, i64_w, i32_w]
                              rfl
                            refine take_ (i := 5) (N := some 58) (v := ?_) (a' := ?_) #[true, true, true, true, true, true, false] rfl rfl (by kernel_rfl) (fun _ _ _ h => h) (Or.inl ⟨by rfl, ?_⟩) hHeld ?_ ?_
                            rotate_left
                            · rintro w' ⟨s0, s1, s2⟩
                              go_simp
                              first | with_reducible rfl | (rw [if_neg (by first | omega | (simp only [eq_iff_iff, iff_true, iff_false, decide_eq_true_eq, ByteArray.size_append, ByteArray.size_extract] at *; omega))])
                            rotate_left
                            · simp only [Act.put, List.setIfInBounds_toArray, List.set_cons_zero, List.set_cons_succ, i64_w, i32_w]
                              rfl
                            refine pure_ (i := 6) (N := some 59) (v := ?_) (a' := ?_) #[true, true, true, true, true, true, true] rfl rfl (by kernel_rfl) (fun _ _ _ h => h) (Or.inl ⟨by rfl, ?_⟩) ?_ ?_
                            rotate_left
                            · intro w'
                              go_simp
                              first | with_reducible rfl | (rw [if_neg (by first | omega | (simp only [eq_iff_iff, iff_true, iff_false, decide_eq_true_eq, ByteArray.size_append, ByteArray.size_extract] at *; omega))])
                            rotate_left
                            · simp only [Act.put, List.setIfInBounds_toArray, List.set_cons_zero, List.set_cons_succ, i64_w, i32_w]
                              rfl
                            refine done_ (by kernel_rfl) ?_
                            try go_wp2
                            go_roundg k3
                            case measure => have := HK1.out; have := HJ3.out; have := HK3.out; omega
                            case rel => exact ⟨(x9_3), (wrap64 (x10_3 + 1)), (by first | rfl | (simp; done) | (simp [*]; done)), (by first | rfl | (simp; done) | (simp [*]; done)), H', ⟨by have := HK1.out; have := HJ3.out; have := HK3.out; omega⟩, ⟨by (with_reducible repeat (first | apply Kd.V_alloc | apply Kd.V_drewN | apply Kd.V_drew)); exact HO_4.out⟩, ⟨by (with_reducible repeat (first | apply Kd.R_alloc | apply Kd.R_drewN | apply Kd.R_drew)); exact HO_5.out⟩, ⟨by (with_reducible repeat (first | apply Kd.R_alloc | apply Kd.R_drewN | apply Kd.R_drew)); exact HO_6.out⟩, ⟨by (with_reducible repeat (first | refine blk_drewN ?_ _ | refine blk_drew ?_ | refine blk_alloc ?_ _)); exact BK361.out⟩, ⟨by repeat (first | (with_reducible first | exact HB.out | apply below_alloc | apply pw_below_drewN | apply below_drew1 | refine below_set ?_ GE361.out) | exact HB.out)⟩⟩
                        · rw [if_neg c20] at H
                          exact absurd H (by simp)
                      · rw [if_neg c19] at H
                        have c19b0 : decide (x10_3 < (x5_1.length : Int)) = false := decide_eq_false c19
                        clear c19
                        have HC26 := Aside0.mk H
                        clear H
                        obtain ⟨Ao27, co27, eo27⟩ := Kd.R_slice HO_5.out
                        subst eo27
                        go_upto_if 62 with (fail)
                        go_cut [5, 6, 9] (fun v5 v6 v9 wc => ∃ (kq : Nat) (x5_25 : List ByteArray) (x6_25 : List Int) (x9_25 : Int), v9 = .int .i64 x9_25 ∧ Aside0 (lockgatelaw15_EntryKeeps.j3 kq l0 t357 x4_1 x5_25 x6_25 x7_1 x9_25 t359 (Go.bits .and .i64 ((rd_T43 l0 x7_1).f1) 65535) = some r) ∧ Aside0 (kq ≤ k3) ∧ Aside0 (Kd.V k43 43 wc w.heap.size (fun k_ => some k_ ≠ (v5 : Value).ownBlock ∧ some k_ ≠ (v6 : Value).ownBlock ∧ k_ ≠ gb361) u4 x4_1) ∧ Aside0 (Kd.R Kd.string 9 wc w.heap.size (fun _ => True) v5 x5_25) ∧ Aside0 (Kd.R (Kd.int .i64) 3 wc w.heap.size (fun _ => True) v6 x6_25) ∧ Aside0 (wc.heap[gb361]? = some (.cells #[.string t359, .int .i64 (Go.bits .and .i64 ((rd_T43 l0 x7_1).f1) 65535)] 43 (0, 0))) ∧ Aside0 (Below w.heap.size w wc))
                        case first =>
                          have H := HC26.out
                          clear HC26
                          by_cases c28 : x9_3 < 0
                          · rw [if_pos c28] at H
                            have c28b0 : decide (x9_3 < 0) = true := decide_eq_true c28
                            clear c28
                            (first | rw [c28b0] | (simp only [i64_w, i32_w]; rw [c28b0]) | skip)
                            by_cases c29 : x5_1.length < 8796093022208
                            · rw [if_pos c29] at H
                              have LMc29 := Aside0.mk c29
                              clear c29
                              obtain ⟨y364, hy364⟩ : ∃ y_ : List ByteArray, y_ = (x5_1 ++ [t359]) := ⟨_, rfl⟩
                              replace H : (if x6_1.length < 17592186044416 then (lockgatelaw15_EntryKeeps.j3 k3 l0 t357 x4_1 y364 (x6_1 ++ [(-1)]) x7_1 (wrap64 ((y364.length : Int) - 1)) t359 (Go.bits .and .i64 ((rd_T43 l0 x7_1).f1) 65535)) else (none)) = some r := by first | (rw [hy364]; with_reducible exact H) | (have H2_ := (Option.bind_some _ _).symm.trans H; rw [hy364]; with_reducible exact H2_) | (have H2_ := (Option.bind_some _ _).symm.trans H; with_reducible exact H2_) | with_reducible exact H | (rw [hy364]; exact H) | exact H
                              have Ny364 := Aside0.mk hy364
                              clear hy364
                              by_cases c30 : x6_1.length < 17592186044416
                              · rw [if_pos c30] at H
                                have LMc30 := Aside0.mk c30
                                clear c30
                                obtain ⟨y367, hy367⟩ : ∃ y_ : List Int, y_ = (x6_1 ++ [(-1)]) := ⟨_, rfl⟩
                                replace H : (lockgatelaw15_EntryKeeps.j3 k3 l0 t357 x4_1 y364 y367 x7_1 (wrap64 ((y364.length : Int) - 1)) t359 (Go.bits .and .i64 ((rd_T43 l0 x7_1).f1) 65535)) = some r := by first | (rw [hy367]; with_reducible exact H) | (have H2_ := (Option.bind_some _ _).symm.trans H; rw [hy367]; with_reducible exact H2_) | (have H2_ := (Option.bind_some _ _).symm.trans H; with_reducible exact H2_) | with_reducible exact H | (rw [hy367]; exact H) | exact H
                                have Ny367 := Aside0.mk hy367
                                clear hy367
                                have H' := Aside0.mk H
                                clear H
                                have hcz31_0 : wr.cell? ⟨gb361, 0, none⟩ = some (.string t359) := (blk_cell BK361.out 0).trans rfl
                                have hcz31_1 : wr.cell? ⟨gb361, 1, none⟩ = some (.int .i64 (Go.bits .and .i64 ((rd_T43 l0 x7_1).f1) 65535)) := (blk_cell BK361.out 1).trans rfl
                                have hfz31_0 := blk_frozen BK361.out 0
                                have hfz31_1 := blk_frozen BK361.out 1
                                go_wp2_with (first | ((with_reducible refine gate_builtin (b := .append) (xs := #[.tmp 63, .tmp 66]) rfl ?_); (try (refine gate_guard (by rfl) ?_; dsimp only)); at_builtin; refine Kd.R_append Kd.string (w0 := w) w.heap.size rfl (.tmp 63) (.tmp 66) 24 9 (.string ⟨#[]⟩) 16 rfl Tryd.underlying24 info9 rfl (by decide) (by omega) (.slice Ao27 x5_1.length co27) x5_1 t359 [.string t359] (fun _ => True) (fun _ => False) rfl rfl ?aP (fun _ hk => hk.elim) ?aF ?aO ?aB ?aS ?aL ?_; (case aP => exact rfl); (case aB => exact (by repeat (first | (with_reducible first | exact HB.out | apply below_alloc | apply pw_below_drewN | apply below_drew1 | refine below_set ?_ GE361.out) | exact HB.out))); (case aF => exact (fun _ _ => trivial)); (case aO => exact (by (with_reducible repeat (first | apply Kd.R_alloc | apply Kd.R_drewN | apply Kd.R_drew)); exact HO_5.out)); (case aS => exact (below_size (by repeat (first | (with_reducible first | exact HB.out | apply below_alloc | apply pw_below_drewN | apply below_drew1 | refine below_set ?_ GE361.out) | exact HB.out)))); (case aL => have := LMc29.out; omega); intro v365 w32 ho hb hg hat; rw [← Ny364.out] at ho; have n0_ := Aside0.mk (Kd.V_afterv (ok := (fun k_ => some k_ ≠ (u6 : Value).ownBlock ∧ k_ ≠ gb361)) (by (with_reducible repeat (first | apply Kd.V_alloc | apply Kd.V_drewN | apply Kd.V_drew)); exact Kd.V_mono HO_4.out (fun _ hk => ⟨⟨hk.2.1, hk.2.2⟩, hk.1⟩)) hg hat); have n1_ := Aside0.mk (Kd.R_over' (by (with_reducible repeat (first | apply Kd.R_alloc | apply Kd.R_drewN | apply Kd.R_drew)); exact HO_6.out) (Kd.R_typed (by (with_reducible repeat (first | apply Kd.R_alloc | apply Kd.R_drewN | apply Kd.R_drew)); exact HO_5.out)) (by decide) hg); have n2_ := Aside0.mk (blk_grown (g := gb361) (o := .cells #[.string t359, .int .i64 (Go.bits .and .i64 ((rd_T43 l0 x7_1).f1) 65535)] 43 (0, 0)) (by (with_reducible repeat (first | refine blk_drewN ?_ _ | refine blk_drew ?_ | refine blk_alloc ?_ _)); exact BK361.out) hg (Kd.R_ne HO_5.out BK361.out (by decide))); have n3_ := Aside0.mk (hb); have n4_ := Aside0.mk (ho); clear HO_4; clear HO_6; clear BK361; clear HB; clear HO_5; have HO_4 := n0_; have HO_6 := n1_; have BK361 := n2_; have HB := n3_; have HO366 := n4_; clear n0_ n1_ n2_ n3_ n4_; clear ho hb hg hat) | ((with_reducible refine gate_builtin (b := .append) (xs := #[.tmp 68, .tmp 69]) rfl ?_); (try (refine gate_guard (by rfl) ?_; dsimp only)); at_builtin; refine Kd.R_append (Kd.int .i64) (w0 := w) w.heap.size rfl (.tmp 68) (.tmp 69) 48 3 (.int .i64 0) 8 rfl Tryd.underlying48 info3 rfl (by decide) (by omega) u6 x6_1 (-1) [.int .i64 (-1)] (fun _ => True) (fun _ => False) rfl rfl ?aP (fun _ hk => hk.elim) ?aF ?aO ?aB ?aS ?aL ?_; (case aP => exact rfl); (case aB => exact (by repeat (first | (with_reducible first | exact HB.out | apply below_alloc | apply pw_below_drewN | apply below_drew1 | refine below_set ?_ GE361.out) | exact HB.out))); (case aF => exact (fun _ _ => trivial)); (case aO => exact (by (with_reducible repeat (first | apply Kd.R_alloc | apply Kd.R_drewN | apply Kd.R_drew)); exact HO_6.out)); (case aS => exact (below_size (by repeat (first | (with_reducible first | exact HB.out | apply below_alloc | apply pw_below_drewN | apply below_drew1 | refine below_set ?_ GE361.out) | exact HB.out)))); (case aL => have := LMc30.out; omega); intro v368 w33 ho hb hg hat; rw [← Ny367.out] at ho; have n0_ := Aside0.mk (Kd.V_afterv (ok := (fun k_ => some k_ ≠ (v365 : Value).ownBlock ∧ k_ ≠ gb361)) (by (with_reducible repeat (first | apply Kd.V_alloc | apply Kd.V_drewN | apply Kd.V_drew)); exact Kd.V_mono HO_4.out (fun _ hk => ⟨⟨hk.2, hk.1.2⟩, hk.1.1⟩)) hg hat); have n1_ := Aside0.mk (blk_grown (g := gb361) (o := .cells #[.string t359, .int .i64 (Go.bits .and .i64 ((rd_T43 l0 x7_1).f1) 65535)] 43 (0, 0)) (by (with_reducible repeat (first | refine blk_drewN ?_ _ | refine blk_drew ?_ | refine blk_alloc ?_ _)); exact BK361.out) hg (Kd.R_ne HO_6.out BK361.out (by decide))); have n2_ := Aside0.mk (Kd.R_over' (by (with_reducible repeat (first | apply Kd.R_alloc | apply Kd.R_drewN | apply Kd.R_drew)); exact HO366.out) (Kd.R_typed (by (with_reducible repeat (first | apply Kd.R_alloc | apply Kd.R_drewN | apply Kd.R_drew)); exact HO_6.out)) (by decide) hg); have n3_ := Aside0.mk (hb); have n4_ := Aside0.mk (ho); clear HO_4; clear BK361; clear HO366; clear HB; clear HO_6; have HO_4 := n0_; have BK361 := n1_; have HO366 := n2_; have HB := n3_; have HO369 := n4_; clear n0_ n1_ n2_ n3_ n4_; clear ho hb hg hat; obtain ⟨Ao34, co34, eo34⟩ := Kd.R_slice HO366.out; subst eo34))
                                go_meet
                                case rel => exact ⟨_, (y364), (y367), (wrap64 ((y364.length : Int) - 1)), (by first | rfl | (simp; done) | (simp [*]; done)), H', ⟨by have := HK1.out; have := HJ3.out; have := HK3.out; first | omega | exact Nat.le_refl _⟩, ⟨by (with_reducible repeat (first | apply Kd.V_alloc | apply Kd.V_drewN | apply Kd.V_drew)); exact Kd.V_mono HO_4.out (fun _ hk => ⟨hk.1.1, ⟨hk.2, hk.1.2⟩⟩)⟩, ⟨by (with_reducible repeat (first | apply Kd.R_alloc | apply Kd.R_drewN | apply Kd.R_drew)); exact HO366.out⟩, ⟨by (with_reducible repeat (first | apply Kd.R_alloc | apply Kd.R_drewN | apply Kd.R_drew)); exact HO369.out⟩, ⟨by (with_reducible repeat (first | refine blk_drewN ?_ _ | refine blk_drew ?_ | refine blk_alloc ?_ _)); exact BK361.out⟩, ⟨by repeat (first | (with_reducible first | exact HB.out | apply below_alloc | apply pw_below_drewN | apply below_drew1 | refine below_set ?_ GE361.out) | exact HB.out)⟩⟩
                              · rw [if_neg c30] at H
                                exact absurd H (by simp)
                            · rw [if_neg c29] at H
                              exact absurd H (by simp)
                          · rw [if_neg c28] at H
                            have c28b0 : decide (x9_3 < 0) = false := decide_eq_false c28
                            clear c28
                            (first | rw [c28b0] | (simp only [i64_w, i32_w]; rw [c28b0]) | skip)
                            have H' := Aside0.mk H
                            clear H
                            go_wp2
                            go_meet
                            case rel => exact ⟨_, (x5_1), (x6_1), (x9_3), (by first | rfl | (simp; done) | (simp [*]; done)), H', ⟨by have := HK1.out; have := HJ3.out; have := HK3.out; first | omega | exact Nat.le_refl _⟩, ⟨by (with_reducible repeat (first | apply Kd.V_alloc | apply Kd.V_drewN | apply Kd.V_drew)); exact HO_4.out⟩, ⟨by (with_reducible repeat (first | apply Kd.R_alloc | apply Kd.R_drewN | apply Kd.R_drew)); exact HO_5.out⟩, ⟨by (with_reducible repeat (first | apply Kd.R_alloc | apply Kd.R_drewN | apply Kd.R_drew)); exact HO_6.out⟩, ⟨by (with_reducible repeat (first | refine blk_drewN ?_ _ | refine blk_drew ?_ | refine blk_alloc ?_ _)); exact BK361.out⟩, ⟨by repeat (first | (with_reducible first | exact HB.out | apply below_alloc | apply pw_below_drewN | apply below_drew1 | refine below_set ?_ GE361.out) | exact HB.out)⟩⟩
                        case rest =>
                          clear HC26
                          try clear c1
                          try clear c2
                          try clear p2
                          try clear c3
                          try clear p3
                          try clear q3
                          try clear hx3
                          try clear c5
                          try clear c5b0
                          try clear c6
                          try clear p6
                          try clear c7
                          try clear c7b0
                          try clear c8
                          try clear c8b0
                          try clear c9
                          try clear c10
                          try clear c11
                          try clear c15
                          try clear c19
                          try clear c19b0
                          try clear c20
                          try clear c20b0
                          try clear c21
                          try clear c21b0
                          try clear c21b1
                          try clear c28
                          try clear c28b0
                          try clear c29
                          try clear c30
                          try clear hcz17_0
                          try clear hcz17_1
                          try clear hcz31_0
                          try clear hcz31_1
                          try clear hfz17_0
                          try clear hfz17_1
                          try clear hfz31_0
                          try clear hfz31_1
                          try clear hx358_0
                          try clear hx358_1
                          try clear hx360_0
                          try clear hx360_1
                          try clear hx363_0
                          try clear p2
                          try clear p3
                          try clear p358
                          try clear p360
                          try clear p363
                          try clear p6
                          try clear q3
                          try clear q358
                          try clear q360
                          try clear q363
                          obtain ⟨kq, x5_25, x6_25, x9_25, rfl, HA, HJ25, HO_4, HO_5, HO_6, BK361, HB⟩ := hcut
                          cases kq with
                          | zero => exact absurd HA.out (by simp [lockgatelaw15_EntryKeeps.j3])
                          | succ kj25 =>
                            have H := HA.out
                            clear HA
                            simp only [lockgatelaw15_EntryKeeps.j3] at H
                            by_cases c35 : (Int.tmod (Go.bits .and .i64 ((rd_T43 l0 x7_1).f1) 65535) 2) = 1
                            · rw [if_pos c35] at H
                              have c35b0 : ((Int.tmod (Go.bits .and .i64 ((rd_T43 l0 x7_1).f1) 65535) 2) == 1) = true := beq_iff_eq.mpr c35
                              have c35b1 : ((Int.tmod (Go.bits .and .i64 ((rd_T43 l0 x7_1).f1) 65535) 2) != 1) = false := bne_eq_false_iff_eq.mpr c35
                              clear c35
                              replace H := Option.bind_eq_some_iff.mp H
                              obtain ⟨⟨t370, t373⟩, A360, H⟩ := H
                              replace H : (if 0 ≤ x9_25 then (if x9_25 < (x6_25.length : Int) then (if (t373 != (decide ((rd x6_25 x9_25) ≥ 0))) = true then (some false) else (lockgatelaw15_EntryKeeps.l0 kj25 l0 t357 t370 x5_25 (x6_25.set (x9_25 : Int).toNat (-1)) (wrap64 (x7_1 + 1)))) else (none)) else (none)) = some r := H
                              have A36 := Aside0.mk A360
                              clear A360
                              by_cases c37 : 0 ≤ x9_25
                              · rw [if_pos c37] at H
                                have c37b0 : decide (0 ≤ x9_25) = true := decide_eq_true c37
                                clear c37
                                by_cases c38 : x9_25 < (x6_25.length : Int)
                                · rw [if_pos c38] at H
                                  have c38b0 : decide (x9_25 < (x6_25.length : Int)) = true := decide_eq_true c38
                                  clear c38
                                  by_cases c39 : (t373 != (decide ((rd x6_25 x9_25) ≥ 0))) = true
                                  · rw [if_pos c39] at H
                                    have c39b0 : (t373 != (decide ((rd x6_25 x9_25) ≥ 0))) = true := c39
                                    (try (have c39b1 : decide (t373 = (decide ((rd x6_25 x9_25) ≥ 0))) = false := by simpa using c39))
                                    (try (have c39b2 : (t373 == (decide ((rd x6_25 x9_25) ≥ 0))) = false := by simpa using c39))
                                    (try (have c39b3 : ¬ (t373 = (decide ((rd x6_25 x9_25) ≥ 0))) := by simpa using c39))
                                    clear c39
                                    obtain rfl := Option.some.inj H
                                    have hcz40_0 : wc.cell? ⟨gb361, 0, none⟩ = some (.string t359) := (blk_cell BK361.out 0).trans rfl
                                    have hcz40_1 : wc.cell? ⟨gb361, 1, none⟩ = some (.int .i64 (Go.bits .and .i64 ((rd_T43 l0 x7_1).f1) 65535)) := (blk_cell BK361.out 1).trans rfl
                                    have hfz40_0 := blk_frozen BK361.out 0
                                    have hfz40_1 := blk_frozen BK361.out 1
                                    obtain ⟨Ao41, co41, eo41⟩ := Kd.V_slice HO_4.out
                                    subst eo41
                                    go_wp2_with (first | ((with_reducible refine gate_callee (f := 29) rfl ?_); refine goesL_ (some 82) rfl rfl Tryd.func29 (by kernel_rfl) rfl #[.slice Ao41 x4_1.length co41, .string t359] rfl (by (try simp only [List.map_toArray, List.map_cons, List.map_nil]); first | done | rfl | (simp only [List.length_drop, List.length_take]; rfl)) ?_; (with_reducible refine (entry_Drop.calls (fun k_ => (some k_ ≠ (u5 : Value).ownBlock ∧ (some k_ ≠ (u6 : Value).ownBlock ∧ k_ ≠ gb361))) _ _ x4_1 t359 t370 t373 _ ?side1 A36.out).mono ?_); (case side1 => exact HO_4.out); rintro e w42 ⟨v371, rfl, ho0, hb⟩; refine ⟨_, rfl, ?_⟩; have n0_ := Aside0.mk (Kd.V_below (by (with_reducible repeat (first | apply Kd.V_alloc | apply Kd.V_drewN | apply Kd.V_drew)); exact HO_4.out) hb); have n1_ := Aside0.mk (Kd.R_below (by (with_reducible repeat (first | apply Kd.R_alloc | apply Kd.R_drewN | apply Kd.R_drew)); exact HO_5.out) hb); have n2_ := Aside0.mk (Kd.R_below (by (with_reducible repeat (first | apply Kd.R_alloc | apply Kd.R_drewN | apply Kd.R_drew)); exact HO_6.out) hb); have n3_ := Aside0.mk (Kd.V_lower (Kd.V_mono (ok' := fun k_ => some k_ ≠ (u5 : Value).ownBlock ∧ some k_ ≠ (u6 : Value).ownBlock ∧ k_ ≠ gb361) ho0 (fun k_ hk_ => ⟨Or.elim hk_ (fun hs_ => hs_.1) (fun hn_ => (Kd.fresh' (Kd.R_lt (by (with_reducible repeat (first | apply Kd.R_alloc | apply Kd.R_drewN | apply Kd.R_drew)); exact HO_5.out)) k_ hn_)), Or.elim hk_ (fun hs_ => hs_.2.1) (fun hn_ => (Kd.fresh' (Kd.R_lt (by (with_reducible repeat (first | apply Kd.R_alloc | apply Kd.R_drewN | apply Kd.R_drew)); exact HO_6.out)) k_ hn_)), Or.elim hk_ (fun hs_ => hs_.2.2) (fun hn_ => (Kd.freshB (g := gb361) (o := .cells #[.string t359, .int .i64 (Go.bits .and .i64 ((rd_T43 l0 x7_1).f1) 65535)] 43 (0, 0)) (by (with_reducible repeat (first | refine blk_drewN ?_ _ | refine blk_drew ?_ | refine blk_alloc ?_ _)); exact BK361.out) k_ hn_))⟩)) (below_size (by repeat (first | (with_reducible first | exact HB.out | apply below_alloc | apply pw_below_drewN | apply below_drew1 | refine below_set ?_ GE361.out) | exact HB.out)))); have n4_ := Aside0.mk (blk_below (g := gb361) (o := .cells #[.string t359, .int .i64 (Go.bits .and .i64 ((rd_T43 l0 x7_1).f1) 65535)] 43 (0, 0)) (by (with_reducible repeat (first | refine blk_drewN ?_ _ | refine blk_drew ?_ | refine blk_alloc ?_ _)); exact BK361.out) hb); have n5_ := Aside0.mk (below_step (by repeat (first | (with_reducible first | exact HB.out | apply below_alloc | apply pw_below_drewN | apply below_drew1 | refine below_set ?_ GE361.out) | exact HB.out)) hb); clear HO_4; clear HO_5; clear HO_6; clear BK361; clear HB; have HO_4 := n0_; have HO_5 := n1_; have HO_6 := n2_; have HO372 := n3_; have BK361 := n4_; have HB := n5_; clear n0_ n1_ n2_ n3_ n4_ n5_; (try clear hb); (try clear hb2); (try clear hk); (try clear hi); (try clear ho0); obtain ⟨Ao43, co43, eo43⟩ := Kd.R_slice HO_6.out; subst eo43; have p374 : 0 ≤ (x9_25 : Int) := of_decide_eq_true (by first | (with_reducible assumption) | assumption); have q374 : x9_25 < (x6_25.length : Int) := of_decide_eq_true (by first | (with_reducible assumption) | assumption); obtain ⟨ad374, e374, hx374_0⟩ := Kd.at_int (Kd.R_reads' HO_6.out).2.2 x9_25 p374 q374; cases e374; replace p374 := eq_true p374; replace q374 := eq_true q374))
                                    go_ret
                                    exact ⟨by first | rfl | (simp [errW_none, errW_some] <;> rfl) | (simp [*, errW_none, errW_some] <;> rfl), by repeat (first | (with_reducible first | exact HB.out | apply below_alloc | apply pw_below_drewN | apply below_drew1 | refine below_set ?_ GE361.out) | exact HB.out)⟩
                                  · rw [if_neg c39] at H
                                    have c39b0 : (t373 != (decide ((rd x6_25 x9_25) ≥ 0))) = false := by simpa using c39
                                    (try (have c39b1 : decide (t373 = (decide ((rd x6_25 x9_25) ≥ 0))) = true := by simpa using c39))
                                    (try (have c39b2 : (t373 == (decide ((rd x6_25 x9_25) ≥ 0))) = true := by simpa using c39))
                                    clear c39
                                    obtain ⟨y375, hy375⟩ : ∃ y_ : List Int, y_ = (x6_25.set (x9_25 : Int).toNat (-1)) := ⟨_, rfl⟩
                                    replace H : (lockgatelaw15_EntryKeeps.l0 kj25 l0 t357 t370 x5_25 y375 (wrap64 (x7_1 + 1))) = some r := by first | (rw [hy375]; with_reducible exact H) | (have H2_ := (Option.bind_some _ _).symm.trans H; rw [hy375]; with_reducible exact H2_) | (have H2_ := (Option.bind_some _ _).symm.trans H; with_reducible exact H2_) | with_reducible exact H | (rw [hy375]; exact H) | exact H
                                    have Ny375 := Aside0.mk hy375
                                    clear hy375
                                    have H' := Aside0.mk H
                                    clear H
                                    have hcz45_0 : wc.cell? ⟨gb361, 0, none⟩ = some (.string t359) := (blk_cell BK361.out 0).trans rfl
                                    have hcz45_1 : wc.cell? ⟨gb361, 1, none⟩ = some (.int .i64 (Go.bits .and .i64 ((rd_T43 l0 x7_1).f1) 65535)) := (blk_cell BK361.out 1).trans rfl
                                    have hfz45_0 := blk_frozen BK361.out 0
                                    have hfz45_1 := blk_frozen BK361.out 1
                                    obtain ⟨Ao46, co46, eo46⟩ := Kd.V_slice HO_4.out
                                    subst eo46
                                    go_wp2_with (first | ((with_reducible refine gate_callee (f := 29) rfl ?_); refine goesL_ (some 82) rfl rfl Tryd.func29 (by kernel_rfl) rfl #[.slice Ao46 x4_1.length co46, .string t359] rfl (by (try simp only [List.map_toArray, List.map_cons, List.map_nil]); first | done | rfl | (simp only [List.length_drop, List.length_take]; rfl)) ?_; (with_reducible refine (entry_Drop.calls (fun k_ => (some k_ ≠ (u5 : Value).ownBlock ∧ (some k_ ≠ (u6 : Value).ownBlock ∧ k_ ≠ gb361))) _ _ x4_1 t359 t370 t373 _ ?side1 A36.out).mono ?_); (case side1 => exact HO_4.out); rintro e w47 ⟨v371, rfl, ho0, hb⟩; refine ⟨_, rfl, ?_⟩; have n0_ := Aside0.mk (Kd.V_below (by (with_reducible repeat (first | apply Kd.V_alloc | apply Kd.V_drewN | apply Kd.V_drew)); exact HO_4.out) hb); have n1_ := Aside0.mk (Kd.R_below (by (with_reducible repeat (first | apply Kd.R_alloc | apply Kd.R_drewN | apply Kd.R_drew)); exact HO_5.out) hb); have n2_ := Aside0.mk (Kd.R_below (by (with_reducible repeat (first | apply Kd.R_alloc | apply Kd.R_drewN | apply Kd.R_drew)); exact HO_6.out) hb); have n3_ := Aside0.mk (Kd.V_lower (Kd.V_mono (ok' := fun k_ => some k_ ≠ (u5 : Value).ownBlock ∧ some k_ ≠ (u6 : Value).ownBlock ∧ k_ ≠ gb361) ho0 (fun k_ hk_ => ⟨Or.elim hk_ (fun hs_ => hs_.1) (fun hn_ => (Kd.fresh' (Kd.R_lt (by (with_reducible repeat (first | apply Kd.R_alloc | apply Kd.R_drewN | apply Kd.R_drew)); exact HO_5.out)) k_ hn_)), Or.elim hk_ (fun hs_ => hs_.2.1) (fun hn_ => (Kd.fresh' (Kd.R_lt (by (with_reducible repeat (first | apply Kd.R_alloc | apply Kd.R_drewN | apply Kd.R_drew)); exact HO_6.out)) k_ hn_)), Or.elim hk_ (fun hs_ => hs_.2.2) (fun hn_ => (Kd.freshB (g := gb361) (o := .cells #[.string t359, .int .i64 (Go.bits .and .i64 ((rd_T43 l0 x7_1).f1) 65535)] 43 (0, 0)) (by (with_reducible repeat (first | refine blk_drewN ?_ _ | refine blk_drew ?_ | refine blk_alloc ?_ _)); exact BK361.out) k_ hn_))⟩)) (below_size (by repeat (first | (with_reducible first | exact HB.out | apply below_alloc | apply pw_below_drewN | apply below_drew1 | refine below_set ?_ GE361.out) | exact HB.out)))); have n4_ := Aside0.mk (blk_below (g := gb361) (o := .cells #[.string t359, .int .i64 (Go.bits .and .i64 ((rd_T43 l0 x7_1).f1) 65535)] 43 (0, 0)) (by (with_reducible repeat (first | refine blk_drewN ?_ _ | refine blk_drew ?_ | refine blk_alloc ?_ _)); exact BK361.out) hb); have n5_ := Aside0.mk (below_step (by repeat (first | (with_reducible first | exact HB.out | apply below_alloc | apply pw_below_drewN | apply below_drew1 | refine below_set ?_ GE361.out) | exact HB.out)) hb); clear HO_4; clear HO_5; clear HO_6; clear BK361; clear HB; have HO_4 := n0_; have HO_5 := n1_; have HO_6 := n2_; have HO372 := n3_; have BK361 := n4_; have HB := n5_; clear n0_ n1_ n2_ n3_ n4_ n5_; (try clear hb); (try clear hb2); (try clear hk); (try clear hi); (try clear ho0); obtain ⟨Ao48, co48, eo48⟩ := Kd.R_slice HO_6.out; subst eo48; have p374 : 0 ≤ (x9_25 : Int) := of_decide_eq_true (by first | (with_reducible assumption) | assumption); have q374 : x9_25 < (x6_25.length : Int) := of_decide_eq_true (by first | (with_reducible assumption) | assumption); obtain ⟨ad374, e374, hx374_0⟩ := Kd.at_int (Kd.R_reads' HO_6.out).2.2 x9_25 p374 q374; cases e374; replace p374 := eq_true p374; replace q374 := eq_true q374; have p44 : 0 ≤ (x9_25 : Int) := of_decide_eq_true (by first | (with_reducible assumption) | assumption); have q44 : (x9_25 : Int) < ((x6_25.length : Int) : Int) := of_decide_eq_true (by first | (with_reducible assumption) | assumption); obtain ⟨go44, co44, eo44, gb44, gl44, cl44, HG44⟩ := Kd.R_form HO_6.out (by omega); (first | cases eo44 | (injection eo44 with ea_ en_ ec_; (first | subst ea_ | (injection ea_ with ea_; subst ea_)); subst ec_; clear en_)); have GB44 := Aside0.mk gb44; have GG44 := Aside0.mk HG44; clear gb44 gl44 HG44; (first | simp only [add_plain] at hx374_0 | skip); obtain ⟨hx44_0, hf44_0⟩ := Kd.R_celln 0 HO_6.out (x9_25 : Int) p44 q44; replace p44 := eq_true p44; replace q44 := eq_true q44; obtain ⟨hy49_, hz49_⟩ := Kd.R_celln 0 HO_6.out (x9_25 : Int) (of_decide_eq_true (by first | (with_reducible assumption) | assumption)) (of_decide_eq_true (by first | (with_reducible assumption) | assumption)); have HP49 := Kd.R_putg HO_6.out (x9_25 : Int) (-1)) | ((with_reducible refine gate_store (t := 3) (p := 95) rfl ?_); refine store_event (t := 3) (p := 95) (v := ?vo_w50) (w1 := (w47.setCell ⟨go44, (x9_25 : Int).toNat, none⟩ (.int .i64 (-1)))) ?hg ?ho ?hn ?hr ?_; (case ho => rfl); (case hg => rfl); (case hn => rfl); (case hr => first | (go_simp; done) | (go_simp; rfl)); intro w50 hw; have hg : w47.grownBy w50 (some go44) := (by rw [hw]; exact HP49.2); have hp_ : Kd.R (Kd.int .i64) 3 w50 w.heap.size (fun _ => True) (.slice (some ⟨go44, 0, none⟩) x6_25.length co48) y375 := (by rw [hw, Ny375.out]; exact HP49.1); clear HP49; have n0_ := Aside0.mk (Kd.V_afterv (v := (.slice (some ⟨go44, 0, none⟩) x6_25.length co48)) (v1 := (.slice (some ⟨go44, 0, none⟩) x6_25.length co48)) (ok := (fun k_ => some k_ ≠ (u5 : Value).ownBlock ∧ k_ ≠ gb361)) (by (with_reducible repeat (first | apply Kd.V_alloc | apply Kd.V_drewN | apply Kd.V_drew)); exact Kd.V_mono HO_4.out (fun _ hk => ⟨⟨hk.1, hk.2.2⟩, hk.2.1⟩)) hg (.inl rfl)); have n1_ := Aside0.mk (Kd.R_over' (v := (.slice (some ⟨go44, 0, none⟩) x6_25.length co48)) (by (with_reducible repeat (first | apply Kd.R_alloc | apply Kd.R_drewN | apply Kd.R_drew)); exact HO_5.out) (Kd.R_typed HO_6.out) (by decide) hg); have n2_ := Aside0.mk (hp_); have n3_ := Aside0.mk (blk_grown (g := gb361) (o := .cells #[.string t359, .int .i64 (Go.bits .and .i64 ((rd_T43 l0 x7_1).f1) 65535)] 43 (0, 0)) (by (with_reducible repeat (first | refine blk_drewN ?_ _ | refine blk_drew ?_ | refine blk_alloc ?_ _)); exact BK361.out) hg (Kd.R_ne HO_6.out BK361.out (by decide))); have n4_ := Aside0.mk (Kd.V_afterv (v := (.slice (some ⟨go44, 0, none⟩) x6_25.length co48)) (v1 := (.slice (some ⟨go44, 0, none⟩) x6_25.length co48)) (ok := (fun k_ => some k_ ≠ (u5 : Value).ownBlock ∧ k_ ≠ gb361)) (by (with_reducible repeat (first | apply Kd.V_alloc | apply Kd.V_drewN | apply Kd.V_drew)); exact Kd.V_mono HO372.out (fun _ hk => ⟨⟨hk.1, hk.2.2⟩, hk.2.1⟩)) hg (.inl rfl)); have n5_ := Aside0.mk ((by rw [hw]; exact below_set (HB.out) GB44.out : Below w.heap.size w w50)); clear HO_4; clear HO_5; clear HO_6; clear BK361; clear HO372; clear HB; have HO_4 := n0_; have HO_5 := n1_; have HO_6 := n2_; have BK361 := n3_; have HO372 := n4_; have HB := n5_; clear n0_ n1_ n2_ n3_ n4_ n5_; clear hg hw hp_))
                                    go_roundg kj25
                                    case measure => have := HK1.out; have := HJ3.out; have := HK3.out; have := HJ25.out; omega
                                    case rel => exact ⟨(t370), (x5_25), (y375), (wrap64 (x7_1 + 1)), (by first | rfl | (simp; done) | (simp [*]; done)), H', ⟨by have := HK1.out; have := HJ3.out; have := HK3.out; have := HJ25.out; omega⟩, ⟨by (with_reducible repeat (first | apply Kd.V_alloc | apply Kd.V_drewN | apply Kd.V_drew)); exact Kd.V_mono HO372.out (fun _ hk => ⟨hk.1.1, hk.2⟩)⟩, ⟨by (with_reducible repeat (first | apply Kd.R_alloc | apply Kd.R_drewN | apply Kd.R_drew)); exact HO_5.out⟩, ⟨by (with_reducible repeat (first | apply Kd.R_alloc | apply Kd.R_drewN | apply Kd.R_drew)); exact HO_6.out⟩, ⟨by repeat (first | (with_reducible first | exact HB.out | apply below_alloc | apply pw_below_drewN | apply below_drew1 | refine below_set ?_ GE361.out) | exact HB.out)⟩⟩
                                · rw [if_neg c38] at H
                                  exact absurd H (by simp)
                              · rw [if_neg c37] at H
                                exact absurd H (by simp)
                            · rw [if_neg c35] at H
                              have c35b0 : ((Int.tmod (Go.bits .and .i64 ((rd_T43 l0 x7_1).f1) 65535) 2) == 1) = false := beq_eq_false_iff_ne.mpr c35
                              have c35b1 : ((Int.tmod (Go.bits .and .i64 ((rd_T43 l0 x7_1).f1) 65535) 2) != 1) = true := bne_iff_ne.mpr c35
                              replace H := Option.bind_eq_some_iff.mp H
                              obtain ⟨t376, A510, H⟩ := H
                              replace H : (if 0 ≤ x9_25 then (if x9_25 < (x6_25.length : Int) then (lockgatelaw15_EntryKeeps.l0 kj25 l0 t357 t376 x5_25 (x6_25.set (x9_25 : Int).toNat (Go.bits .and .i64 ((rd_T43 l0 x7_1).f1) 65535)) (wrap64 (x7_1 + 1))) else (none)) else (none)) = some r := H
                              have A51 := Aside0.mk A510
                              clear A510
                              by_cases c52 : 0 ≤ x9_25
                              · rw [if_pos c52] at H
                                have c52b0 : decide (0 ≤ x9_25) = true := decide_eq_true c52
                                clear c52
                                by_cases c53 : x9_25 < (x6_25.length : Int)
                                · rw [if_pos c53] at H
                                  have c53b0 : decide (x9_25 < (x6_25.length : Int)) = true := decide_eq_true c53
                                  clear c53
                                  obtain ⟨y379, hy379⟩ : ∃ y_ : List Int, y_ = (x6_25.set (x9_25 : Int).toNat (Go.bits .and .i64 ((rd_T43 l0 x7_1).f1) 65535)) := ⟨_, rfl⟩
                                  replace H : (lockgatelaw15_EntryKeeps.l0 kj25 l0 t357 t376 x5_25 y379 (wrap64 (x7_1 + 1))) = some r := by first | (rw [hy379]; with_reducible exact H) | (have H2_ := (Option.bind_some _ _).symm.trans H; rw [hy379]; with_reducible exact H2_) | (have H2_ := (Option.bind_some _ _).symm.trans H; with_reducible exact H2_) | with_reducible exact H | (rw [hy379]; exact H) | exact H
                                  have Ny379 := Aside0.mk hy379
                                  clear hy379
                                  have H' := Aside0.mk H
                                  clear H
                                  have hcz55_0 : wc.cell? ⟨gb361, 0, none⟩ = some (.string t359) := (blk_cell BK361.out 0).trans rfl
                                  have hcz55_1 : wc.cell? ⟨gb361, 1, none⟩ = some (.int .i64 (Go.bits .and .i64 ((rd_T43 l0 x7_1).f1) 65535)) := (blk_cell BK361.out 1).trans rfl
                                  have hfz55_0 := blk_frozen BK361.out 0
                                  have hfz55_1 := blk_frozen BK361.out 1
                                  obtain ⟨Ao56, co56, eo56⟩ := Kd.V_slice HO_4.out
                                  subst eo56
                                  go_wp2_with (first | ((with_reducible refine gate_callee (f := 28) rfl ?_); refine goesL_ (some 98) rfl rfl Tryd.func28 (by kernel_rfl) rfl #[.slice Ao56 x4_1.length co56, .agg #[.string t359, .int .i64 (Go.bits .and .i64 ((rd_T43 l0 x7_1).f1) 65535)]] rfl (by (try simp only [List.map_toArray, List.map_cons, List.map_nil]); first | done | rfl | (simp only [List.length_drop, List.length_take]; rfl)) ?_; (with_reducible refine (entry_Put.calls _ _ x4_1 t359 (Go.bits .and .i64 ((rd_T43 l0 x7_1).f1) 65535) t376 _ ?side1 ?side2 A51.out).mono ?_); (case side1 => repeat (first | exact (Kd.V_reads' HO_4.out).2.2 | (with_reducible refine Kd.C_alloc ?_ _) | (with_reducible refine Kd.C_drewN ?_ _) | (with_reducible refine Kd.C_drew ?_))); (case side2 => exact (Kd.V_reads' HO_4.out).2.1); rintro e w57 ⟨v377, rfl, ho0, hb⟩; refine ⟨_, rfl, ?_⟩; have n0_ := Aside0.mk (Kd.V_elder' (by (with_reducible repeat (first | apply Kd.V_alloc | apply Kd.V_drewN | apply Kd.V_drew)); exact HO_4.out) (Kd.R_base ho0) hb); have n1_ := Aside0.mk (Kd.R_below (by (with_reducible repeat (first | apply Kd.R_alloc | apply Kd.R_drewN | apply Kd.R_drew)); exact HO_5.out) hb); have n2_ := Aside0.mk (Kd.R_below (by (with_reducible repeat (first | apply Kd.R_alloc | apply Kd.R_drewN | apply Kd.R_drew)); exact HO_6.out) hb); have n3_ := Aside0.mk (Kd.R_lower (Kd.R_newB ho0 (g := gb361) (o := .cells #[.string t359, .int .i64 (Go.bits .and .i64 ((rd_T43 l0 x7_1).f1) 65535)] 43 (0, 0)) (by (with_reducible repeat (first | refine blk_drewN ?_ _ | refine blk_drew ?_ | refine blk_alloc ?_ _)); exact BK361.out)) (below_size (by repeat (first | (with_reducible first | exact HB.out | apply below_alloc | apply pw_below_drewN | apply below_drew1 | refine below_set ?_ GE361.out) | exact HB.out)))); have n4_ := Aside0.mk (blk_below (g := gb361) (o := .cells #[.string t359, .int .i64 (Go.bits .and .i64 ((rd_T43 l0 x7_1).f1) 65535)] 43 (0, 0)) (by (with_reducible repeat (first | refine blk_drewN ?_ _ | refine blk_drew ?_ | refine blk_alloc ?_ _)); exact BK361.out) hb); have n5_ := Aside0.mk (below_step (by repeat (first | (with_reducible first | exact HB.out | apply below_alloc | apply pw_below_drewN | apply below_drew1 | refine below_set ?_ GE361.out) | exact HB.out)) hb); clear HO_4; clear HO_5; clear HO_6; clear BK361; clear HB; have HO_4 := n0_; have HO_5 := n1_; have HO_6 := n2_; have HO378 := n3_; have BK361 := n4_; have HB := n5_; clear n0_ n1_ n2_ n3_ n4_ n5_; (try clear hb); (try clear hb2); (try clear hk); (try clear hi); (try clear ho0); have hcz58_0 : w57.cell? ⟨gb361, 0, none⟩ = some (.string t359) := (blk_cell BK361.out 0).trans rfl; have hcz58_1 : w57.cell? ⟨gb361, 1, none⟩ = some (.int .i64 (Go.bits .and .i64 ((rd_T43 l0 x7_1).f1) 65535)) := (blk_cell BK361.out 1).trans rfl; have hfz58_0 := blk_frozen BK361.out 0; have hfz58_1 := blk_frozen BK361.out 1; have p54 : 0 ≤ (x9_25 : Int) := of_decide_eq_true (by first | (with_reducible assumption) | assumption); have q54 : (x9_25 : Int) < ((x6_25.length : Int) : Int) := of_decide_eq_true (by first | (with_reducible assumption) | assumption); obtain ⟨go54, co54, eo54, gb54, gl54, cl54, HG54⟩ := Kd.R_form HO_6.out (by omega); (first | cases eo54 | (injection eo54 with ea_ en_ ec_; (first | subst ea_ | (injection ea_ with ea_; subst ea_)); subst ec_; clear en_)); have GB54 := Aside0.mk gb54; have GG54 := Aside0.mk HG54; clear gb54 gl54 HG54; obtain ⟨hx54_0, hf54_0⟩ := Kd.R_celln 0 HO_6.out (x9_25 : Int) p54 q54; replace p54 := eq_true p54; replace q54 := eq_true q54; obtain ⟨hy59_, hz59_⟩ := Kd.R_celln 0 HO_6.out (x9_25 : Int) (of_decide_eq_true (by first | (with_reducible assumption) | assumption)) (of_decide_eq_true (by first | (with_reducible assumption) | assumption)); have HP59 := Kd.R_putg HO_6.out (x9_25 : Int) (Go.bits .and .i64 ((rd_T43 l0 x7_1).f1) 65535)) | ((with_reducible refine gate_store (t := 3) (p := 103) rfl ?_); refine store_event (t := 3) (p := 103) (v := ?vo_w60) (w1 := (w57.setCell ⟨go54, (x9_25 : Int).toNat, none⟩ (.int .i64 (Go.bits .and .i64 ((rd_T43 l0 x7_1).f1) 65535)))) ?hg ?ho ?hn ?hr ?_; (case ho => rfl); (case hg => rfl); (case hn => rfl); (case hr => first | (go_simp; done) | (go_simp; rfl)); intro w60 hw; have hg : w57.grownBy w60 (some go54) := (by rw [hw]; exact HP59.2); have hp_ : Kd.R (Kd.int .i64) 3 w60 w.heap.size (fun _ => True) (.slice (some ⟨go54, 0, none⟩) x6_25.length co54) y379 := (by rw [hw, Ny379.out]; exact HP59.1); clear HP59; have n0_ := Aside0.mk (Kd.V_afterv (v := (.slice (some ⟨go54, 0, none⟩) x6_25.length co54)) (v1 := (.slice (some ⟨go54, 0, none⟩) x6_25.length co54)) (ok := (fun k_ => some k_ ≠ (u5 : Value).ownBlock ∧ some k_ ≠ (v377 : Value).ownBlock ∧ k_ ≠ gb361)) (by (with_reducible repeat (first | apply Kd.V_alloc | apply Kd.V_drewN | apply Kd.V_drew)); exact Kd.V_mono HO_4.out (fun _ hk => ⟨⟨hk.1.1, ⟨hk.2, hk.1.2.2⟩⟩, hk.1.2.1⟩)) hg (.inl rfl)); have n1_ := Aside0.mk (Kd.R_over' (v := (.slice (some ⟨go54, 0, none⟩) x6_25.length co54)) (by (with_reducible repeat (first | apply Kd.R_alloc | apply Kd.R_drewN | apply Kd.R_drew)); exact HO_5.out) (Kd.R_typed HO_6.out) (by decide) hg); have n2_ := Aside0.mk (hp_); have n3_ := Aside0.mk (blk_grown (g := gb361) (o := .cells #[.string t359, .int .i64 (Go.bits .and .i64 ((rd_T43 l0 x7_1).f1) 65535)] 43 (0, 0)) (by (with_reducible repeat (first | refine blk_drewN ?_ _ | refine blk_drew ?_ | refine blk_alloc ?_ _)); exact BK361.out) hg (Kd.R_ne HO_6.out BK361.out (by decide))); have n4_ := Aside0.mk (Kd.R_over' (v := (.slice (some ⟨go54, 0, none⟩) x6_25.length co54)) (by (with_reducible repeat (first | apply Kd.R_alloc | apply Kd.R_drewN | apply Kd.R_drew)); exact HO378.out) (Kd.R_typed HO_6.out) (by decide) hg); have n5_ := Aside0.mk ((by rw [hw]; exact below_set (HB.out) GB54.out : Below w.heap.size w w60)); clear HO_4; clear HO_5; clear HO_6; clear BK361; clear HO378; clear HB; have HO_4 := n0_; have HO_5 := n1_; have HO_6 := n2_; have BK361 := n3_; have HO378 := n4_; have HB := n5_; clear n0_ n1_ n2_ n3_ n4_ n5_; clear hg hw hp_))
                                  go_roundg kj25
                                  case measure => have := HK1.out; have := HJ3.out; have := HK3.out; have := HJ25.out; omega
                                  case rel => exact ⟨(t376), (x5_25), (y379), (wrap64 (x7_1 + 1)), (by first | rfl | (simp; done) | (simp [*]; done)), H', ⟨by have := HK1.out; have := HJ3.out; have := HK3.out; have := HJ25.out; omega⟩, ⟨Kd.R_V (by (with_reducible repeat (first | apply Kd.R_alloc | apply Kd.R_drewN | apply Kd.R_drew)); exact Kd.R_mono (Kd.R_apart' (Kd.R_apart' HO378.out (Kd.R_typed HO_5.out) (by decide)) (Kd.R_typed HO_6.out) (by decide)) (fun _ hk => ⟨hk.1.2, hk.2⟩))⟩, ⟨by (with_reducible repeat (first | apply Kd.R_alloc | apply Kd.R_drewN | apply Kd.R_drew)); exact HO_5.out⟩, ⟨by (with_reducible repeat (first | apply Kd.R_alloc | apply Kd.R_drewN | apply Kd.R_drew)); exact HO_6.out⟩, ⟨by repeat (first | (with_reducible first | exact HB.out | apply below_alloc | apply pw_below_drewN | apply below_drew1 | refine below_set ?_ GE361.out) | exact HB.out)⟩⟩
                                · rw [if_neg c53] at H
                                  exact absurd H (by simp)
                              · rw [if_neg c52] at H
                                exact absurd H (by simp)
                · replace c11 := Bool.eq_false_iff.mpr c11
                  subst c11
                  have H1 : (lockgatelaw15_EntryKeeps.l0 kj3 l0 t357 x4_1 x5_1 x6_1 (wrap64 (x7_1 + 1))) = some r := by rw [if_neg (show ¬ (false = true) by decide)] at H; exact H
                  clear H
                  have H := H1
                  clear H1
                  have H' := Aside0.mk H
                  clear H
                  try go_wp2
                  have n0_ := Aside0.mk (Kd.V_drew HO_4.out)
                  have n1_ := Aside0.mk (Kd.R_drew HO_5.out)
                  have n2_ := Aside0.mk (Kd.R_drew HO_6.out)
                  have n3_ := Aside0.mk (below_drew1 HB.out)
                  clear HO_4
                  clear HO_5
                  clear HO_6
                  clear HB
                  have HO_4 := n0_
                  have HO_5 := n1_
                  have HO_6 := n2_
                  have HB := n3_
                  clear n0_ n1_ n2_ n3_
                  have p358 : 0 ≤ (x7_1 : Int) := of_decide_eq_true (by first | (with_reducible assumption) | assumption)
                  have q358 : x7_1 < (l0.length : Int) := of_decide_eq_true (by first | (with_reducible assumption) | assumption)
                  obtain ⟨ad358, e358, hx358_0, hx358_1⟩ := at_T43 HR0.out x7_1 p358 q358
                  have hw358_1 := hx358_1
                  have hw358_0 := hx358_0
                  cases e358
                  replace hx358_0 := (HB.out.cell (World.block_lt_of_cell? w _ hx358_0)).trans hx358_0
                  replace hx358_1 := (HB.out.cell (World.block_lt_of_cell? w _ hx358_1)).trans hx358_1
                  replace p358 := eq_true p358
                  replace q358 := eq_true q358
                  have p360 : 0 ≤ (x7_1 : Int) := of_decide_eq_true (by first | (with_reducible assumption) | assumption)
                  have q360 : x7_1 < (l0.length : Int) := of_decide_eq_true (by first | (with_reducible assumption) | assumption)
                  obtain ⟨ad360, e360, hx360_0, hx360_1⟩ := at_T43 HR0.out x7_1 p360 q360
                  have hw360_1 := hx360_1
                  have hw360_0 := hx360_0
                  obtain rfl : ad358 = ad360 := (by injection e360)
                  replace hx360_0 := (HB.out.cell (World.block_lt_of_cell? w _ hx360_0)).trans hx360_0
                  replace hx360_1 := (HB.out.cell (World.block_lt_of_cell? w _ hx360_1)).trans hx360_1
                  replace p360 := eq_true p360
                  replace q360 := eq_true q360
                  refine start_ (n := 15) (S := fun w' => w'.cell? (ad358.add ((x7_1).toNat * 2)) = some (.string ((rd_T43 l0 x7_1).f0)) ∧ w'.cell? ⟨(ad358.add ((x7_1).toNat * 2)).block, (ad358.add ((x7_1).toNat * 2)).off + 1, none⟩ = some (.int .i64 ((rd_T43 l0 x7_1).f1)) ∧ w'.cell? (ad358.add ((x7_1).toNat * 2)) = some (.string ((rd_T43 l0 x7_1).f0)) ∧ w'.cell? ⟨(ad358.add ((x7_1).toNat * 2)).block, (ad358.add ((x7_1).toNat * 2)).off + 1, none⟩ = some (.int .i64 ((rd_T43 l0 x7_1).f1))) (ds := []) #[false, false, false, false, false, false, false, false, false, false, false, false, false, false, false] (by kernel_rfl) rfl rfl ⟨((HB.out.cell (World.block_lt_of_cell? w _ hw358_0)).trans hw358_0), ((HB.out.cell (World.block_lt_of_cell? w _ hw358_1)).trans hw358_1), ((HB.out.cell (World.block_lt_of_cell? w _ hw360_0)).trans hw360_0), ((HB.out.cell (World.block_lt_of_cell? w _ hw360_1)).trans hw360_1)⟩ (fun hHeld => ?_); refine with_tabW lockgatelaw15_EntryKeeps.tab8 lockgatelaw15_EntryKeeps.bits8 (fun HT_ HW_ => ?_)
                  generalize wc.drew = w61 at HO_4 HO_5 HO_6 HB hx358_0 hx358_1 hx360_0 hx360_1 hHeld ⊢
                  refine pure_ (i := 0) (N := some 30) (v := ?_) (a' := ?_) #[true, false, false, false, false, false, false, false, false, false, false, false, false, false, false] rfl rfl (any_of HT_.out (by kernel_rfl)) (fun _ _ _ h => h) (Or.inl ⟨by rfl, ?_⟩) ?_ ?_
                  rotate_left
                  · intro w'
                    go_simp
                    first | with_reducible rfl | (rw [if_neg (by first | omega | (simp only [eq_iff_iff, iff_true, iff_false, decide_eq_true_eq, ByteArray.size_append, ByteArray.size_extract] at *; omega))])
                  rotate_left
                  · simp only [Act.put, List.setIfInBounds_toArray, List.set_cons_zero, List.set_cons_succ, i64_w, i32_w]
                    rfl
                  refine pure_ (i := 1) (N := some 31) (v := ?_) (a' := ?_) #[true, true, false, false, false, false, false, false, false, false, false, false, false, false, false] rfl rfl (any_of HT_.out (by kernel_rfl)) (fun _ _ _ h => h) (Or.inl ⟨by rfl, ?_⟩) ?_ ?_
                  rotate_left
                  · intro w'
                    go_simp
                    first | with_reducible rfl | (rw [if_neg (by first | omega | (simp only [eq_iff_iff, iff_true, iff_false, decide_eq_true_eq, ByteArray.size_append, ByteArray.size_extract] at *; omega))])
                  rotate_left
                  · simp only [Act.put, List.setIfInBounds_toArray, List.set_cons_zero, List.set_cons_succ, i64_w, i32_w]
                    rfl
                  refine pure_ (i := 2) (N := some 32) (v := ?_) (a' := ?_) #[true, true, true, false, false, false, false, false, false, false, false, false, false, false, false] rfl rfl (any_of HT_.out (by kernel_rfl)) (fun _ _ _ h => h) (Or.inl ⟨by rfl, ?_⟩) ?_ ?_
                  rotate_left
                  · intro w'
                    go_simp
                    first | with_reducible rfl | (rw [if_neg (by first | omega | (simp only [eq_iff_iff, iff_true, iff_false, decide_eq_true_eq, ByteArray.size_append, ByteArray.size_extract] at *; omega))])
                  rotate_left
                  · simp only [Act.put, List.setIfInBounds_toArray, List.set_cons_zero, List.set_cons_succ, i64_w, i32_w]
                    rfl
                  refine pure_ (i := 3) (N := some 33) (v := ?_) (a' := ?_) #[true, true, true, true, false, false, false, false, false, false, false, false, false, false, false] rfl rfl (any_of HT_.out (by kernel_rfl)) (fun _ _ _ h => h) (Or.inl ⟨by rfl, ?_⟩) ?_ ?_
                  rotate_left
                  · intro w'
                    go_simp
                    first | with_reducible rfl | (rw [if_neg (by first | omega | (simp only [eq_iff_iff, iff_true, iff_false, decide_eq_true_eq, ByteArray.size_append, ByteArray.size_extract] at *; omega))])
                  rotate_left
                  · simp only [Act.put, List.setIfInBounds_toArray, List.set_cons_zero, List.set_cons_succ, i64_w, i32_w]
                    rfl
                  refine pure_ (i := 6) (N := some 36) (v := ?_) (a' := ?_) #[true, true, true, true, false, false, true, false, false, false, false, false, false, false, false] rfl rfl (any_of HT_.out (by kernel_rfl)) (fun _ _ _ h => h) (Or.inl ⟨by rfl, ?_⟩) ?_ ?_
                  rotate_left
                  · intro w'
                    go_simp
                    first | with_reducible rfl | (rw [if_neg (by first | omega | (simp only [eq_iff_iff, iff_true, iff_false, decide_eq_true_eq, ByteArray.size_append, ByteArray.size_extract] at *; omega))])
                  rotate_left
                  · simp only [Act.put, List.setIfInBounds_toArray, List.set_cons_zero, List.set_cons_succ, i64_w, i32_w]
                    rfl
                  refine pure_ (i := 7) (N := some 37) (v := ?_) (a' := ?_) #[true, true, true, true, false, false, true, true, false, false, false, false, false, false, false] rfl rfl (any_of HT_.out (by kernel_rfl)) (fun _ _ _ h => h) (Or.inl ⟨by rfl, ?_⟩) ?_ ?_
                  rotate_left
                  · intro w'
                    go_simp
                    first | with_reducible rfl | (rw [if_neg (by first | omega | (simp only [eq_iff_iff, iff_true, iff_false, decide_eq_true_eq, ByteArray.size_append, ByteArray.size_extract] at *; omega))])
                  rotate_left
                  · simp only [Act.put, List.setIfInBounds_toArray, List.set_cons_zero, List.set_cons_succ, i64_w, i32_w]
                    rfl
                  refine pure_ (i := 8) (N := some 38) (v := ?_) (a' := ?_) #[true, true, true, true, false, false, true, true, true, false, false, false, false, false, false] rfl rfl (any_of HT_.out (by kernel_rfl)) (fun _ _ _ h => h) (Or.inl ⟨by rfl, ?_⟩) ?_ ?_
                  rotate_left
                  · intro w'
                    go_simp
                    first | with_reducible rfl | (rw [if_neg (by first | omega | (simp only [eq_iff_iff, iff_true, iff_false, decide_eq_true_eq, ByteArray.size_append, ByteArray.size_extract] at *; omega))])
                  rotate_left
                  · simp only [Act.put, List.setIfInBounds_toArray, List.set_cons_zero, List.set_cons_succ, i64_w, i32_w]
                    rfl
                  refine pure_ (i := 9) (N := some 39) (v := ?_) (a' := ?_) #[true, true, true, true, false, false, true, true, true, true, false, false, false, false, false] rfl rfl (any_of HT_.out (by kernel_rfl)) (fun _ _ _ h => h) (Or.inl ⟨by rfl, ?_⟩) ?_ ?_
                  rotate_left
                  · intro w'
                    go_simp
                    first | with_reducible rfl | (rw [if_neg (by first | omega | (simp only [eq_iff_iff, iff_true, iff_false, decide_eq_true_eq, ByteArray.size_append, ByteArray.size_extract] at *; omega))])
                  rotate_left
                  · simp only [Act.put, List.setIfInBounds_toArray, List.set_cons_zero, List.set_cons_succ, i64_w, i32_w]
                    rfl
                  refine take_ (i := 4) (N := some 34) (v := ?_) (a' := ?_) #[true, true, true, true, true, false, true, true, true, true, false, false, false, false, false] rfl rfl (take_ofW HT_.out HW_.out (by kernel_rfl)) (fun _ _ _ h => h) (Or.inl ⟨by rfl, ?_⟩) hHeld ?_ ?_
                  rotate_left
                  · rintro w' ⟨s0, s1, s2, s3⟩
                    go_simp
                    first | with_reducible rfl | (rw [if_neg (by first | omega | (simp only [eq_iff_iff, iff_true, iff_false, decide_eq_true_eq, ByteArray.size_append, ByteArray.size_extract] at *; omega))])
                  rotate_left
                  · simp only [Act.put, List.setIfInBounds_toArray, List.set_cons_zero, List.set_cons_succ, i64_w, i32_w]
                    rfl
                  refine take_ (i := 10) (N := some 40) (v := ?_) (a' := ?_) #[true, true, true, true, true, false, true, true, true, true, true, false, false, false, false] rfl rfl (take_ofW HT_.out HW_.out (by kernel_rfl)) (fun _ _ _ h => h) (Or.inl ⟨by rfl, ?_⟩) hHeld ?_ ?_
                  rotate_left
                  · rintro w' ⟨s0, s1, s2, s3⟩
                    go_simp
                    first | with_reducible rfl | (rw [if_neg (by first | omega | (simp only [eq_iff_iff, iff_true, iff_false, decide_eq_true_eq, ByteArray.size_append, ByteArray.size_extract] at *; omega))])
                  rotate_left
                  · simp only [Act.put, List.setIfInBounds_toArray, List.set_cons_zero, List.set_cons_succ, i64_w, i32_w]
                    rfl
                  refine pure_ (i := 11) (N := some 41) (v := ?_) (a' := ?_) #[true, true, true, true, true, false, true, true, true, true, true, true, false, false, false] rfl rfl (any_of HT_.out (by kernel_rfl)) (fun _ _ _ h => h) (Or.inl ⟨by rfl, ?_⟩) ?_ ?_
                  rotate_left
                  · intro w'
                    go_simp
                    first | with_reducible rfl | (rw [if_neg (by first | omega | (simp only [eq_iff_iff, iff_true, iff_false, decide_eq_true_eq, ByteArray.size_append, ByteArray.size_extract] at *; omega))])
                  rotate_left
                  · simp only [Act.put, List.setIfInBounds_toArray, List.set_cons_zero, List.set_cons_succ, i64_w, i32_w]
                    rfl
                  refine join_ (σ := Nat) 1 #[true, true, true, true, true, true, true, true, true, true, true, true, true, true, false] (fun s_ => [(35, .string t359), (8, .pointer (some ⟨s_, 0, none⟩)), (42, .agg #[.string t359, .int .i64 (Go.bits .and .i64 ((rd_T43 l0 x7_1).f1) 65535)])]) (fun s_ w' => (w'.cell? (ad358.add ((x7_1).toNat * 2)) = some (.string ((rd_T43 l0 x7_1).f0)) ∧ w'.cell? ⟨(ad358.add ((x7_1).toNat * 2)).block, (ad358.add ((x7_1).toNat * 2)).off + 1, none⟩ = some (.int .i64 ((rd_T43 l0 x7_1).f1)) ∧ w'.cell? (ad358.add ((x7_1).toNat * 2)) = some (.string ((rd_T43 l0 x7_1).f0)) ∧ w'.cell? ⟨(ad358.add ((x7_1).toNat * 2)).block, (ad358.add ((x7_1).toNat * 2)).off + 1, none⟩ = some (.int .i64 ((rd_T43 l0 x7_1).f1))) ∧ (Kd.V k43 43 w' w.heap.size (fun k_ => some k_ ≠ (u5 : Value).ownBlock ∧ some k_ ≠ (u6 : Value).ownBlock ∧ k_ ≠ s_) u4 x4_1) ∧ (Kd.R Kd.string 9 w' w.heap.size (fun _ => True) u5 x5_1) ∧ (Kd.R (Kd.int .i64) 3 w' w.heap.size (fun _ => True) u6 x6_1) ∧ (w'.heap[s_]? = some (.cells #[.string (⟨#[]⟩ : ByteArray), .int .i64 0] 43 (0, 0))) ∧ (w.heap.size ≤ s_) ∧ (w.heap.size ≤ s_) ∧ (Below w.heap.size w w')) ?_ ?_
                  rotate_left
                  · intro hCont
                    refine two_ (i := 5) (j := 13) (Ni := some 35) (Nj := some 8) #[true, true, true, true, true, true, true, true, true, true, true, true, false, false, false] #[true, true, true, true, true, false, true, true, true, true, true, true, false, true, false] rfl rfl rfl rfl (two_of HT_.out (by kernel_rfl)) (by decide) (by decide) (fun K hK => ?_) (fun K hK => ?_)
                    · skip
                      refine goes_ Tryd.func11 (by kernel_rfl) rfl #[.string ((rd_T43 l0 x7_1).f0), .int .i64 60] (by rfl) rfl rfl (by (try simp only [List.map_toArray, List.map_cons, List.map_nil]); first | done | rfl | (simp only [List.length_drop, List.length_take]; rfl)) ?_
                      with_reducible refine (lockgatelaw15_short.calls ((rd_T43 l0 x7_1).f0) 60 t359 _ A9.out).mono ?_
                      rintro e w' ⟨rfl, ⟨nd, rfl⟩⟩
                      refine ⟨_, rfl, ?_⟩
                      refine hK.out _ _ ⟨((HB.out.cell (World.block_lt_of_cell? w _ hw358_0)).trans hw358_0), ((HB.out.cell (World.block_lt_of_cell? w _ hw358_1)).trans hw358_1), ((HB.out.cell (World.block_lt_of_cell? w _ hw360_0)).trans hw360_0), ((HB.out.cell (World.block_lt_of_cell? w _ hw360_1)).trans hw360_1)⟩ (fun hHeld => ?_)
                      clear hK K
                      refine norm_ (a' := ?_) ?_ ?_
                      rotate_left
                      · show Act.put _ (some 35) _ = _
                        simp only [Act.put, List.setIfInBounds_toArray, List.set_cons_zero, List.set_cons_succ, i64_w, i32_w]
                        rfl
                      refine pure_ (i := 12) (N := some 42) (v := ?_) (a' := ?_) #[true, true, true, true, true, true, true, true, true, true, true, true, true, false, false] rfl rfl (any_of HT_.out (by kernel_rfl)) (fun _ _ _ h => h) (Or.inl ⟨by rfl, ?_⟩) ?_ ?_
                      rotate_left
                      · intro w'
                        go_simp
                        first | with_reducible rfl | (rw [if_neg (by first | omega | (simp only [eq_iff_iff, iff_true, iff_false, decide_eq_true_eq, ByteArray.size_append, ByteArray.size_extract] at *; omega))])
                      rotate_left
                      · simp only [Act.put, List.setIfInBounds_toArray, List.set_cons_zero, List.set_cons_succ, i64_w, i32_w]
                        rfl
                      refine one_ (i := 13) (N := some 8) #[true, true, true, true, true, true, true, true, true, true, true, true, true, true, false] rfl rfl (one_of HT_.out (by kernel_rfl)) (by decide) (fun K hK => ?_)
                      refine box_step ?hg (N := 8) ?hd (cs := #[.string (⟨#[]⟩ : ByteArray), .int .i64 0]) (t := 43) ?hr ?_; (case hd => rfl); (case hg => rfl); (case hr => first | (go_simp; done) | (go_simp; rfl))
                      intro gb361 hg w62 hbox hb
                      have n0_ := Aside0.mk (Kd.V_below (Kd.V_elderB (by (with_reducible repeat (first | apply Kd.V_alloc | apply Kd.V_drewN | apply Kd.V_drew)); exact HO_4.out) gb361 (Nat.le_of_eq hg.symm)) hb)
                      have n1_ := Aside0.mk (Kd.R_below (by (with_reducible repeat (first | apply Kd.R_alloc | apply Kd.R_drewN | apply Kd.R_drew)); exact HO_5.out) hb)
                      have n2_ := Aside0.mk (Kd.R_below (by (with_reducible repeat (first | apply Kd.R_alloc | apply Kd.R_drewN | apply Kd.R_drew)); exact HO_6.out) hb)
                      have n3_ := Aside0.mk (below_step (by repeat (first | (with_reducible first | exact HB.out | apply below_alloc | apply pw_below_drewN | apply below_drew1) | exact HB.out)) hb)
                      have n4_ := Aside0.mk (hbox)
                      have n5_ := Aside0.mk ((by rw [hg]; exact (below_size (by repeat (first | (with_reducible first | exact HB.out | apply below_alloc | apply pw_below_drewN | apply below_drew1) | exact HB.out))) : w.heap.size ≤ gb361))
                      have n6_ := Aside0.mk ((by rw [hg]; exact (below_size (by repeat (first | (with_reducible first | exact HB.out | apply below_alloc | apply pw_below_drewN | apply below_drew1) | exact HB.out))) : w.heap.size ≤ gb361))
                      clear HO_4
                      clear HO_5
                      clear HO_6
                      clear HB
                      have HO_4 := n0_
                      have HO_5 := n1_
                      have HO_6 := n2_
                      have HB := n3_
                      have BK361 := n4_
                      have GW361 := n5_
                      have GE361 := n6_
                      clear n0_ n1_ n2_ n3_ n4_ n5_ n6_
                      clear hb hbox hg
                      refine hK.out _ _ ⟨((HB.out.cell (World.block_lt_of_cell? w _ hw358_0)).trans hw358_0), ((HB.out.cell (World.block_lt_of_cell? w _ hw358_1)).trans hw358_1), ((HB.out.cell (World.block_lt_of_cell? w _ hw360_0)).trans hw360_0), ((HB.out.cell (World.block_lt_of_cell? w _ hw360_1)).trans hw360_1)⟩ (fun hHeld => ?_)
                      clear hK K
                      refine norm_ (a' := ?_) ?_ ?_
                      rotate_left
                      · show Act.put _ (some 8) _ = _
                        simp only [Act.put, List.setIfInBounds_toArray, List.set_cons_zero, List.set_cons_succ, i64_w, i32_w]
                        rfl
                      exact norm_ (by simp only [putAll, Act.put, List.setIfInBounds_toArray, List.set_cons_zero, List.set_cons_succ]) (hCont (gb361) _ ⟨hHeld, (by (with_reducible repeat (first | apply Kd.V_alloc | apply Kd.V_drewN | apply Kd.V_drew)); exact Kd.V_mono HO_4.out (fun _ hk => ⟨hk.1.1, ⟨hk.1.2, hk.2⟩⟩)), (by (with_reducible repeat (first | apply Kd.R_alloc | apply Kd.R_drewN | apply Kd.R_drew)); exact HO_5.out), (by (with_reducible repeat (first | apply Kd.R_alloc | apply Kd.R_drewN | apply Kd.R_drew)); exact HO_6.out), (by (with_reducible repeat (first | refine blk_drewN ?_ _ | refine blk_drew ?_ | refine blk_alloc ?_ _)); exact BK361.out), GW361.out, GE361.out, (by repeat (first | (with_reducible first | exact HB.out | apply below_alloc | apply pw_below_drewN | apply below_drew1 | refine below_set ?_ GE361.out) | exact HB.out))⟩)
                    · skip
                      refine box_step ?hg (N := 8) ?hd (cs := #[.string (⟨#[]⟩ : ByteArray), .int .i64 0]) (t := 43) ?hr ?_; (case hd => rfl); (case hg => rfl); (case hr => first | (go_simp; done) | (go_simp; rfl))
                      intro gb361 hg w62 hbox hb
                      have n0_ := Aside0.mk (Kd.V_below (Kd.V_elderB (by (with_reducible repeat (first | apply Kd.V_alloc | apply Kd.V_drewN | apply Kd.V_drew)); exact HO_4.out) gb361 (Nat.le_of_eq hg.symm)) hb)
                      have n1_ := Aside0.mk (Kd.R_below (by (with_reducible repeat (first | apply Kd.R_alloc | apply Kd.R_drewN | apply Kd.R_drew)); exact HO_5.out) hb)
                      have n2_ := Aside0.mk (Kd.R_below (by (with_reducible repeat (first | apply Kd.R_alloc | apply Kd.R_drewN | apply Kd.R_drew)); exact HO_6.out) hb)
                      have n3_ := Aside0.mk (below_step (by repeat (first | (with_reducible first | exact HB.out | apply below_alloc | apply pw_below_drewN | apply below_drew1) | exact HB.out)) hb)
                      have n4_ := Aside0.mk (hbox)
                      have n5_ := Aside0.mk ((by rw [hg]; exact (below_size (by repeat (first | (with_reducible first | exact HB.out | apply below_alloc | apply pw_below_drewN | apply below_drew1) | exact HB.out))) : w.heap.size ≤ gb361))
                      have n6_ := Aside0.mk ((by rw [hg]; exact (below_size (by repeat (first | (with_reducible first | exact HB.out | apply below_alloc | apply pw_below_drewN | apply below_drew1) | exact HB.out))) : w.heap.size ≤ gb361))
                      clear HO_4
                      clear HO_5
                      clear HO_6
                      clear HB
                      have HO_4 := n0_
                      have HO_5 := n1_
                      have HO_6 := n2_
                      have HB := n3_
                      have BK361 := n4_
                      have GW361 := n5_
                      have GE361 := n6_
                      clear n0_ n1_ n2_ n3_ n4_ n5_ n6_
                      clear hb hbox hg
                      refine hK.out _ _ ⟨((HB.out.cell (World.block_lt_of_cell? w _ hw358_0)).trans hw358_0), ((HB.out.cell (World.block_lt_of_cell? w _ hw358_1)).trans hw358_1), ((HB.out.cell (World.block_lt_of_cell? w _ hw360_0)).trans hw360_0), ((HB.out.cell (World.block_lt_of_cell? w _ hw360_1)).trans hw360_1)⟩ (fun hHeld => ?_)
                      clear hK K
                      refine norm_ (a' := ?_) ?_ ?_
                      rotate_left
                      · show Act.put _ (some 8) _ = _
                        simp only [Act.put, List.setIfInBounds_toArray, List.set_cons_zero, List.set_cons_succ, i64_w, i32_w]
                        rfl
                      refine one_ (i := 5) (N := some 35) #[true, true, true, true, true, true, true, true, true, true, true, true, false, true, false] rfl rfl (one_of HT_.out (by kernel_rfl)) (by decide) (fun K hK => ?_)
                      refine goes_ Tryd.func11 (by kernel_rfl) rfl #[.string ((rd_T43 l0 x7_1).f0), .int .i64 60] (by rfl) rfl rfl (by (try simp only [List.map_toArray, List.map_cons, List.map_nil]); first | done | rfl | (simp only [List.length_drop, List.length_take]; rfl)) ?_
                      with_reducible refine (lockgatelaw15_short.calls ((rd_T43 l0 x7_1).f0) 60 t359 _ A9.out).mono ?_
                      rintro e w' ⟨rfl, ⟨nd, rfl⟩⟩
                      refine ⟨_, rfl, ?_⟩
                      refine hK.out _ _ ⟨((HB.out.cell (World.block_lt_of_cell? w _ hw358_0)).trans hw358_0), ((HB.out.cell (World.block_lt_of_cell? w _ hw358_1)).trans hw358_1), ((HB.out.cell (World.block_lt_of_cell? w _ hw360_0)).trans hw360_0), ((HB.out.cell (World.block_lt_of_cell? w _ hw360_1)).trans hw360_1)⟩ (fun hHeld => ?_)
                      clear hK K
                      refine norm_ (a' := ?_) ?_ ?_
                      rotate_left
                      · show Act.put _ (some 35) _ = _
                        simp only [Act.put, List.setIfInBounds_toArray, List.set_cons_zero, List.set_cons_succ, i64_w, i32_w]
                        rfl
                      refine pure_ (i := 12) (N := some 42) (v := ?_) (a' := ?_) #[true, true, true, true, true, true, true, true, true, true, true, true, true, true, false] rfl rfl (any_of HT_.out (by kernel_rfl)) (fun _ _ _ h => h) (Or.inl ⟨by rfl, ?_⟩) ?_ ?_
                      rotate_left
                      · intro w'
                        go_simp
                        first | with_reducible rfl | (rw [if_neg (by first | omega | (simp only [eq_iff_iff, iff_true, iff_false, decide_eq_true_eq, ByteArray.size_append, ByteArray.size_extract] at *; omega))])
                      rotate_left
                      · simp only [Act.put, List.setIfInBounds_toArray, List.set_cons_zero, List.set_cons_succ, i64_w, i32_w]
                        rfl
                      exact norm_ (by simp only [putAll, Act.put, List.setIfInBounds_toArray, List.set_cons_zero, List.set_cons_succ]) (hCont (gb361) _ ⟨hHeld, (by (with_reducible repeat (first | apply Kd.V_alloc | apply Kd.V_drewN | apply Kd.V_drew)); exact Kd.V_mono HO_4.out (fun _ hk => ⟨hk.1.1, ⟨hk.1.2, hk.2⟩⟩)), (by (with_reducible repeat (first | apply Kd.R_alloc | apply Kd.R_drewN | apply Kd.R_drew)); exact HO_5.out), (by (with_reducible repeat (first | apply Kd.R_alloc | apply Kd.R_drewN | apply Kd.R_drew)); exact HO_6.out), (by (with_reducible repeat (first | refine blk_drewN ?_ _ | refine blk_drew ?_ | refine blk_alloc ?_ _)); exact BK361.out), GW361.out, GE361.out, (by repeat (first | (with_reducible first | exact HB.out | apply below_alloc | apply pw_below_drewN | apply below_drew1 | refine below_set ?_ GE361.out) | exact HB.out))⟩)
                  rintro gb361 w63 ⟨hS_, h0_, h1_, h2_, h3_, h4_, h5_, h6_⟩
                  have n0_ : Aside0 (Kd.V k43 43 w63 w.heap.size (fun k_ => some k_ ≠ (u5 : Value).ownBlock ∧ some k_ ≠ (u6 : Value).ownBlock ∧ k_ ≠ gb361) u4 x4_1) := ⟨h0_⟩
                  have n1_ : Aside0 (Kd.R Kd.string 9 w63 w.heap.size (fun _ => True) u5 x5_1) := ⟨h1_⟩
                  have n2_ : Aside0 (Kd.R (Kd.int .i64) 3 w63 w.heap.size (fun _ => True) u6 x6_1) := ⟨h2_⟩
                  have n3_ : Aside0 (w63.heap[gb361]? = some (.cells #[.string (⟨#[]⟩ : ByteArray), .int .i64 0] 43 (0, 0))) := ⟨h3_⟩
                  have n4_ : Aside0 (w.heap.size ≤ gb361) := ⟨h4_⟩
                  have n5_ : Aside0 (w.heap.size ≤ gb361) := ⟨h5_⟩
                  have n6_ : Aside0 (Below w.heap.size w w63) := ⟨h6_⟩
                  clear HO_4
                  clear HO_5
                  clear HO_6
                  clear HB
                  clear h0_ h1_ h2_ h3_ h4_ h5_ h6_
                  have HO_4 := n0_
                  have HO_5 := n1_
                  have HO_6 := n2_
                  have BK361 := n3_
                  have GW361 := n4_
                  have GE361 := n5_
                  have HB := n6_
                  clear n0_ n1_ n2_ n3_ n4_ n5_ n6_
                  have hHeld : w63.cell? (ad358.add ((x7_1).toNat * 2)) = some (.string ((rd_T43 l0 x7_1).f0)) ∧ w63.cell? ⟨(ad358.add ((x7_1).toNat * 2)).block, (ad358.add ((x7_1).toNat * 2)).off + 1, none⟩ = some (.int .i64 ((rd_T43 l0 x7_1).f1)) ∧ w63.cell? (ad358.add ((x7_1).toNat * 2)) = some (.string ((rd_T43 l0 x7_1).f0)) ∧ w63.cell? ⟨(ad358.add ((x7_1).toNat * 2)).block, (ad358.add ((x7_1).toNat * 2)).off + 1, none⟩ = some (.int .i64 ((rd_T43 l0 x7_1).f1)) := hS_
                  refine norm_ (a' := ?_) ?_ ?_
                  rotate_left
                  · simp only [putAll, Act.put, List.setIfInBounds_toArray, List.set_cons_zero, List.set_cons_succ]
                    rfl
                  refine one_ (i := 14) (N := none) #[true, true, true, true, true, true, true, true, true, true, true, true, true, true, true] rfl rfl (one_of HT_.out (by kernel_rfl)) (by decide) (fun K hK => ?_)
                  have hs64 : w63.cell? ⟨gb361, 0, none⟩ = some (.string (⟨#[]⟩ : ByteArray)) := (blk_cell BK361.out 0).trans rfl
                  have hfs64 := blk_frozen BK361.out 0
                  have hs65 : w63.cell? ⟨gb361, 1, none⟩ = some (.int .i64 0) := (blk_cell BK361.out 1).trans rfl
                  have hfs65 := blk_frozen BK361.out 1
                  refine skip_ (w1 := ?_) (by rfl) rfl ?_ ?_
                  rotate_left
                  · go_simp
                    rfl
                  refine hK.out _ _ ⟨((cell_far (p := ⟨gb361, _, none⟩) (by first | exact Nat.ne_of_lt (Nat.lt_of_lt_of_le (by have := World.block_lt_of_cell? _ _ hw358_0; first | rwa [add_block] at this | exact this) GW361.out) | (rw [add_block]; exact Nat.ne_of_lt (Nat.lt_of_lt_of_le (by have := World.block_lt_of_cell? _ _ hw358_0; first | rwa [add_block] at this | exact this) GW361.out)) | (show (Addr.add _ _).block ≠ _; rw [add_block]; exact Nat.ne_of_lt (Nat.lt_of_lt_of_le (by have := World.block_lt_of_cell? _ _ hw358_0; first | rwa [add_block] at this | exact this) GW361.out)) | (dsimp only; exact Nat.ne_of_lt (Nat.lt_of_lt_of_le (by have := World.block_lt_of_cell? _ _ hw358_0; first | rwa [add_block] at this | exact this) GW361.out))) _).trans (((cell_far (p := ⟨gb361, _, none⟩) (by first | exact Nat.ne_of_lt (Nat.lt_of_lt_of_le (by have := World.block_lt_of_cell? _ _ hw358_0; first | rwa [add_block] at this | exact this) GW361.out) | (rw [add_block]; exact Nat.ne_of_lt (Nat.lt_of_lt_of_le (by have := World.block_lt_of_cell? _ _ hw358_0; first | rwa [add_block] at this | exact this) GW361.out)) | (show (Addr.add _ _).block ≠ _; rw [add_block]; exact Nat.ne_of_lt (Nat.lt_of_lt_of_le (by have := World.block_lt_of_cell? _ _ hw358_0; first | rwa [add_block] at this | exact this) GW361.out)) | (dsimp only; exact Nat.ne_of_lt (Nat.lt_of_lt_of_le (by have := World.block_lt_of_cell? _ _ hw358_0; first | rwa [add_block] at this | exact this) GW361.out))) _).trans (hHeld.1)))), ((cell_far (p := ⟨gb361, _, none⟩) (by first | exact Nat.ne_of_lt (Nat.lt_of_lt_of_le (by have := World.block_lt_of_cell? _ _ hw358_1; first | rwa [add_block] at this | exact this) GW361.out) | (rw [add_block]; exact Nat.ne_of_lt (Nat.lt_of_lt_of_le (by have := World.block_lt_of_cell? _ _ hw358_1; first | rwa [add_block] at this | exact this) GW361.out)) | (show (Addr.add _ _).block ≠ _; rw [add_block]; exact Nat.ne_of_lt (Nat.lt_of_lt_of_le (by have := World.block_lt_of_cell? _ _ hw358_1; first | rwa [add_block] at this | exact this) GW361.out)) | (dsimp only; exact Nat.ne_of_lt (Nat.lt_of_lt_of_le (by have := World.block_lt_of_cell? _ _ hw358_1; first | rwa [add_block] at this | exact this) GW361.out))) _).trans (((cell_far (p := ⟨gb361, _, none⟩) (by first | exact Nat.ne_of_lt (Nat.lt_of_lt_of_le (by have := World.block_lt_of_cell? _ _ hw358_1; first | rwa [add_block] at this | exact this) GW361.out) | (rw [add_block]; exact Nat.ne_of_lt (Nat.lt_of_lt_of_le (by have := World.block_lt_of_cell? _ _ hw358_1; first | rwa [add_block] at this | exact this) GW361.out)) | (show (Addr.add _ _).block ≠ _; rw [add_block]; exact Nat.ne_of_lt (Nat.lt_of_lt_of_le (by have := World.block_lt_of_cell? _ _ hw358_1; first | rwa [add_block] at this | exact this) GW361.out)) | (dsimp only; exact Nat.ne_of_lt (Nat.lt_of_lt_of_le (by have := World.block_lt_of_cell? _ _ hw358_1; first | rwa [add_block] at this | exact this) GW361.out))) _).trans (hHeld.2.1)))), ((cell_far (p := ⟨gb361, _, none⟩) (by first | exact Nat.ne_of_lt (Nat.lt_of_lt_of_le (by have := World.block_lt_of_cell? _ _ hw360_0; first | rwa [add_block] at this | exact this) GW361.out) | (rw [add_block]; exact Nat.ne_of_lt (Nat.lt_of_lt_of_le (by have := World.block_lt_of_cell? _ _ hw360_0; first | rwa [add_block] at this | exact this) GW361.out)) | (show (Addr.add _ _).block ≠ _; rw [add_block]; exact Nat.ne_of_lt (Nat.lt_of_lt_of_le (by have := World.block_lt_of_cell? _ _ hw360_0; first | rwa [add_block] at this | exact this) GW361.out)) | (dsimp only; exact Nat.ne_of_lt (Nat.lt_of_lt_of_le (by have := World.block_lt_of_cell? _ _ hw360_0; first | rwa [add_block] at this | exact this) GW361.out))) _).trans (((cell_far (p := ⟨gb361, _, none⟩) (by first | exact Nat.ne_of_lt (Nat.lt_of_lt_of_le (by have := World.block_lt_of_cell? _ _ hw360_0; first | rwa [add_block] at this | exact this) GW361.out) | (rw [add_block]; exact Nat.ne_of_lt (Nat.lt_of_lt_of_le (by have := World.block_lt_of_cell? _ _ hw360_0; first | rwa [add_block] at this | exact this) GW361.out)) | (show (Addr.add _ _).block ≠ _; rw [add_block]; exact Nat.ne_of_lt (Nat.lt_of_lt_of_le (by have := World.block_lt_of_cell? _ _ hw360_0; first | rwa [add_block] at this | exact this) GW361.out)) | (dsimp only; exact Nat.ne_of_lt (Nat.lt_of_lt_of_le (by have := World.block_lt_of_cell? _ _ hw360_0; first | rwa [add_block] at this | exact this) GW361.out))) _).trans (hHeld.2.2.1)))), ((cell_far (p := ⟨gb361, _, none⟩) (by first | exact Nat.ne_of_lt (Nat.lt_of_lt_of_le (by have := World.block_lt_of_cell? _ _ hw360_1; first | rwa [add_block] at this | exact this) GW361.out) | (rw [add_block]; exact Nat.ne_of_lt (Nat.lt_of_lt_of_le (by have := World.block_lt_of_cell? _ _ hw360_1; first | rwa [add_block] at this | exact this) GW361.out)) | (show (Addr.add _ _).block ≠ _; rw [add_block]; exact Nat.ne_of_lt (Nat.lt_of_lt_of_le (by have := World.block_lt_of_cell? _ _ hw360_1; first | rwa [add_block] at this | exact this) GW361.out)) | (dsimp only; exact Nat.ne_of_lt (Nat.lt_of_lt_of_le (by have := World.block_lt_of_cell? _ _ hw360_1; first | rwa [add_block] at this | exact this) GW361.out))) _).trans (((cell_far (p := ⟨gb361, _, none⟩) (by first | exact Nat.ne_of_lt (Nat.lt_of_lt_of_le (by have := World.block_lt_of_cell? _ _ hw360_1; first | rwa [add_block] at this | exact this) GW361.out) | (rw [add_block]; exact Nat.ne_of_lt (Nat.lt_of_lt_of_le (by have := World.block_lt_of_cell? _ _ hw360_1; first | rwa [add_block] at this | exact this) GW361.out)) | (show (Addr.add _ _).block ≠ _; rw [add_block]; exact Nat.ne_of_lt (Nat.lt_of_lt_of_le (by have := World.block_lt_of_cell? _ _ hw360_1; first | rwa [add_block] at this | exact this) GW361.out)) | (dsimp only; exact Nat.ne_of_lt (Nat.lt_of_lt_of_le (by have := World.block_lt_of_cell? _ _ hw360_1; first | rwa [add_block] at this | exact this) GW361.out))) _).trans (hHeld.2.2.2))))⟩ (fun hHeld => ?_)
                  clear hK K
                  refine done_ (done_of HT_.out (by kernel_rfl)) ?_
                  have hcz66_0 : w63.cell? ⟨gb361, 0, none⟩ = some (.string (⟨#[]⟩ : ByteArray)) := (blk_cell BK361.out 0).trans rfl
                  have hcz66_1 : w63.cell? ⟨gb361, 1, none⟩ = some (.int .i64 0) := (blk_cell BK361.out 1).trans rfl
                  have hfz66_0 := blk_frozen BK361.out 0
                  have hfz66_1 := blk_frozen BK361.out 1
                  try go_wp2_with (first | ((with_reducible refine gate_callee (f := 15) rfl ?_); refine goesL_ (some 45) rfl rfl Tryd.func15 (by kernel_rfl) rfl #[.string t359] rfl (by (try simp only [List.map_toArray, List.map_cons, List.map_nil]); first | done | rfl | (simp only [List.length_drop, List.length_take]; rfl)) ?_; (with_reducible refine (entry_Name.calls t359 false _ A10.out).mono ?_); rintro e w67 ⟨rfl, hb⟩; refine ⟨_, rfl, ?_⟩; have n0_ := Aside0.mk (Kd.V_below (by (with_reducible repeat (first | apply Kd.V_alloc | apply Kd.V_drewN | apply Kd.V_drew)); exact (Kd.V_mono (Kd.V_far (p := ⟨gb361, 1, none⟩) (Kd.V_far (p := ⟨gb361, 0, none⟩) (Kd.V_mono HO_4.out (fun k_ hk => (⟨hk, hk.2.2⟩ : _ ∧ k_ ≠ gb361))) (fun _ hk => hk.2) (.string t359)) (fun _ hk => hk.2) (.int .i64 (Go.bits .and .i64 ((rd_T43 l0 x7_1).f1) 65535))) (fun _ h_ => h_.1))) hb); have n1_ := Aside0.mk (Kd.R_below (by (with_reducible repeat (first | apply Kd.R_alloc | apply Kd.R_drewN | apply Kd.R_drew)); exact (Kd.R_mono (Kd.R_far (p := ⟨gb361, 1, none⟩) (Kd.R_far (p := ⟨gb361, 0, none⟩) (Kd.R_types HO_5.out BK361.out (by decide)) (fun _ hk => hk.2) (.string t359)) (fun _ hk => hk.2) (.int .i64 (Go.bits .and .i64 ((rd_T43 l0 x7_1).f1) 65535))) (fun _ h_ => h_.1))) hb); have n2_ := Aside0.mk (Kd.R_below (by (with_reducible repeat (first | apply Kd.R_alloc | apply Kd.R_drewN | apply Kd.R_drew)); exact (Kd.R_mono (Kd.R_far (p := ⟨gb361, 1, none⟩) (Kd.R_far (p := ⟨gb361, 0, none⟩) (Kd.R_types HO_6.out BK361.out (by decide)) (fun _ hk => hk.2) (.string t359)) (fun _ hk => hk.2) (.int .i64 (Go.bits .and .i64 ((rd_T43 l0 x7_1).f1) 65535))) (fun _ h_ => h_.1))) hb); have n3_ := Aside0.mk (blk_below (g := gb361) (o := .cells #[.string t359, .int .i64 (Go.bits .and .i64 ((rd_T43 l0 x7_1).f1) 65535)] 43 (0, 0)) (by (with_reducible repeat (first | refine blk_drewN ?_ _ | refine blk_drew ?_ | refine blk_alloc ?_ _)); refine blk_put (cs := #[.string t359, .int .i64 0]) ?_ 1 _ rfl; (with_reducible repeat (first | refine blk_drewN ?_ _ | refine blk_drew ?_ | refine blk_alloc ?_ _)); refine blk_put (cs := #[.string (⟨#[]⟩ : ByteArray), .int .i64 0]) ?_ 0 _ rfl; (with_reducible repeat (first | refine blk_drewN ?_ _ | refine blk_drew ?_ | refine blk_alloc ?_ _)); exact BK361.out) hb); have n4_ := Aside0.mk (below_step (by repeat (first | (with_reducible first | exact HB.out | apply below_alloc | apply pw_below_drewN | apply below_drew1 | refine below_set ?_ GE361.out) | exact HB.out)) hb); clear HO_4; clear HO_5; clear HO_6; clear BK361; clear HB; have HO_4 := n0_; have HO_5 := n1_; have HO_6 := n2_; have BK361 := n3_; have HB := n4_; clear n0_ n1_ n2_ n3_ n4_; (try clear hb); (try clear hb2); (try clear hk); (try clear hi)))
                  go_roundg kj3
                  case measure => have := HK1.out; have := HJ3.out; omega
                  case rel => exact ⟨(x4_1), (x5_1), (x6_1), (wrap64 (x7_1 + 1)), (by first | rfl | (simp; done) | (simp [*]; done)), H', ⟨by have := HK1.out; have := HJ3.out; omega⟩, ⟨by (with_reducible repeat (first | apply Kd.V_alloc | apply Kd.V_drewN | apply Kd.V_drew)); exact Kd.V_mono HO_4.out (fun _ hk => ⟨hk.1, hk.2.1⟩)⟩, ⟨by (with_reducible repeat (first | apply Kd.R_alloc | apply Kd.R_drewN | apply Kd.R_drew)); exact HO_5.out⟩, ⟨by (with_reducible repeat (first | apply Kd.R_alloc | apply Kd.R_drewN | apply Kd.R_drew)); exact HO_6.out⟩, ⟨by repeat (first | (with_reducible first | exact HB.out | apply below_alloc | apply pw_below_drewN | apply below_drew1 | refine below_set ?_ GE361.out) | exact HB.out)⟩⟩
              · rw [if_neg c8] at H
                exact absurd H (by simp)
            · rw [if_neg c7] at H
              exact absurd H (by simp)
          · replace c6 := Bool.eq_false_iff.mpr c6
            subst c6
            have H1 : ((entry_Bytes.f kj3 x4_1).bind fun bt380 => (lockgatelaw15_EntryKeeps.l2 kj3 t357 x4_1 x5_1 x6_1 bt380.2 0 0)) = some r := by rw [if_neg (show ¬ (false = true) by decide)] at H; exact H
            clear H
            have H := H1
            clear H1
            replace H := Option.bind_eq_some_iff.mp H
            obtain ⟨⟨t380, t381⟩, A680, H⟩ := H
            replace H : (lockgatelaw15_EntryKeeps.l2 kj3 t357 x4_1 x5_1 x6_1 t381 0 0) = some r := H
            have A68 := Aside0.mk A680
            clear A680
            have H' := Aside0.mk H
            clear H
            obtain ⟨Ao69, co69, eo69⟩ := Kd.V_slice HO_4.out
            subst eo69
            go_wp2_with (first | ((with_reducible refine gate_callee (f := 20) rfl ?_); refine goesL_ (some 106) rfl rfl Tryd.func20 (by kernel_rfl) rfl #[.slice Ao69 x4_1.length co69] rfl (by (try simp only [List.map_toArray, List.map_cons, List.map_nil]); first | done | rfl | (simp only [List.length_drop, List.length_take]; rfl)) ?_; (with_reducible refine (entry_Bytes.calls kj3 _ _ x4_1 t380 t381 _ ?side1 ?side2 A68.out).mono ?_); (case side1 => repeat (first | exact (Kd.V_reads' HO_4.out).2.2 | (with_reducible refine Kd.C_alloc ?_ _) | (with_reducible refine Kd.C_drewN ?_ _) | (with_reducible refine Kd.C_drew ?_))); (case side2 => exact (Kd.V_reads' HO_4.out).2.1); rintro e w70 ⟨rfl, hb⟩; refine ⟨_, rfl, ?_⟩; have n0_ := Aside0.mk (Kd.V_below (by (with_reducible repeat (first | apply Kd.V_alloc | apply Kd.V_drewN | apply Kd.V_drew)); exact HO_4.out) hb); have n1_ := Aside0.mk (Kd.R_below (by (with_reducible repeat (first | apply Kd.R_alloc | apply Kd.R_drewN | apply Kd.R_drew)); exact HO_5.out) hb); have n2_ := Aside0.mk (Kd.R_below (by (with_reducible repeat (first | apply Kd.R_alloc | apply Kd.R_drewN | apply Kd.R_drew)); exact HO_6.out) hb); have n3_ := Aside0.mk (below_step (by repeat (first | (with_reducible first | exact HB.out | apply below_alloc | apply pw_below_drewN | apply below_drew1) | exact HB.out)) hb); clear HO_4; clear HO_5; clear HO_6; clear HB; have HO_4 := n0_; have HO_5 := n1_; have HO_6 := n2_; have HB := n3_; clear n0_ n1_ n2_ n3_; (try clear hb); (try clear hb2); (try clear hk); (try clear hi)))
            go_loopg [15, 16] kj3 (fun kq v15 v16 w' => ∃ (x15_3 : Int) (x16_3 : Int), v15 = .int .i64 x15_3 ∧ v16 = .int .i64 x16_3 ∧ Aside0 (lockgatelaw15_EntryKeeps.l2 kq t357 x4_1 x5_1 x6_1 t381 x15_3 x16_3 = some r) ∧ Aside0 (kq ≤ kj3) ∧ Aside0 (Kd.V k43 43 w' w.heap.size (fun k_ => some k_ ≠ (u5 : Value).ownBlock ∧ some k_ ≠ (u6 : Value).ownBlock) (.slice Ao69 x4_1.length co69) x4_1) ∧ Aside0 (Kd.R Kd.string 9 w' w.heap.size (fun _ => True) u5 x5_1) ∧ Aside0 (Kd.R (Kd.int .i64) 3 w' w.heap.size (fun _ => True) u6 x6_1) ∧ Aside0 (Below w.heap.size w w'))
            case atStart => exact ⟨(0), (0), (by first | rfl | (simp; done) | (simp [*]; done)), (by first | rfl | (simp; done) | (simp [*]; done)), H', ⟨Nat.le_refl _⟩, ⟨by (with_reducible repeat (first | apply Kd.V_alloc | apply Kd.V_drewN | apply Kd.V_drew)); exact HO_4.out⟩, ⟨by (with_reducible repeat (first | apply Kd.R_alloc | apply Kd.R_drewN | apply Kd.R_drew)); exact HO_5.out⟩, ⟨by (with_reducible repeat (first | apply Kd.R_alloc | apply Kd.R_drewN | apply Kd.R_drew)); exact HO_6.out⟩, ⟨by repeat (first | (with_reducible first | exact HB.out | apply below_alloc | apply pw_below_drewN | apply below_drew1) | exact HB.out)⟩⟩
            case round =>
              clear H'
              try clear c1
              try clear c2
              try clear p2
              try clear c3
              try clear p3
              try clear q3
              try clear hx3
              try clear p4
              try clear q4
              try clear hx4
              try clear hf4
              try clear c5
              try clear c5b0
              try clear p5
              try clear q5
              try clear hx5
              try clear hf5
              try clear c6
              try clear p6
              try clear c7
              try clear c7b0
              try clear c8
              try clear c8b0
              try clear c9
              try clear c10
              try clear c11
              try clear c15
              try clear c19
              try clear c19b0
              try clear c20
              try clear c20b0
              try clear c21
              try clear c21b0
              try clear c21b1
              try clear c28
              try clear c28b0
              try clear c29
              try clear c30
              try clear c35
              try clear c35b0
              try clear c35b1
              try clear p35
              try clear q35
              try clear hx35
              try clear p36
              try clear q36
              try clear hx36
              try clear c37
              try clear c37b0
              try clear p37
              try clear q37
              try clear hx37
              try clear c38
              try clear c38b0
              try clear c39
              try clear c39b0
              try clear c39b1
              try clear c39b2
              try clear p44
              try clear q44
              try clear hx44
              try clear hf44
              try clear c52
              try clear c52b0
              try clear c53
              try clear c53b0
              try clear p54
              try clear q54
              try clear hx54
              try clear hf54
              try clear p64
              try clear hcz17_0
              try clear hcz17_1
              try clear hcz31_0
              try clear hcz31_1
              try clear hcz40_0
              try clear hcz40_1
              try clear hcz45_0
              try clear hcz45_1
              try clear hcz55_0
              try clear hcz55_1
              try clear hcz58_0
              try clear hcz58_1
              try clear hcz66_0
              try clear hcz66_1
              try clear hfz17_0
              try clear hfz17_1
              try clear hfz31_0
              try clear hfz31_1
              try clear hfz40_0
              try clear hfz40_1
              try clear hfz45_0
              try clear hfz45_1
              try clear hfz55_0
              try clear hfz55_1
              try clear hfz58_0
              try clear hfz58_1
              try clear hfz66_0
              try clear hfz66_1
              try clear hx358_0
              try clear hx358_1
              try clear hx360_0
              try clear hx360_1
              try clear hx363_0
              try clear hx374_0
              try clear hx44_0
              try clear hx54_0
              try clear p2
              try clear p3
              try clear p358
              try clear p360
              try clear p363
              try clear p374
              try clear p44
              try clear p54
              try clear p6
              try clear q3
              try clear q358
              try clear q360
              try clear q363
              try clear q374
              try clear q44
              try clear q54
              obtain ⟨x15_3, x16_3, rfl, rfl, HA, HK3, HO_4, HO_5, HO_6, HB⟩ := hrel
              cases gk with
              | zero => exact absurd HA.out (by simp [lockgatelaw15_EntryKeeps.l2])
              | succ k3 =>
                have H := HA.out
                clear HA
                simp only [lockgatelaw15_EntryKeeps.l2] at H
                by_cases c71 : x16_3 < (x5_1.length : Int)
                · rw [if_pos c71] at H
                  have c71b0 : decide (x16_3 < (x5_1.length : Int)) = true := decide_eq_true c71
                  clear c71
                  by_cases c72 : 0 ≤ x16_3
                  · rw [if_pos c72] at H
                    have c72b0 : decide (0 ≤ x16_3) = true := decide_eq_true c72
                    clear c72
                    replace H := Option.bind_eq_some_iff.mp H
                    obtain ⟨⟨t383, t384⟩, A730, H⟩ := H
                    replace H : (if x16_3 < (x6_1.length : Int) then (if (t384 != (decide ((rd x6_1 x16_3) ≥ 0))) = true then (lockgatelaw15_EntryKeeps.j5 k3 t357 x4_1 x5_1 x6_1 t381 x15_3 x16_3 t384 true) else (if t384 = true then (lockgatelaw15_EntryKeeps.j5 k3 t357 x4_1 x5_1 x6_1 t381 x15_3 x16_3 t384 (t383 != (rd x6_1 x16_3))) else (lockgatelaw15_EntryKeeps.j5 k3 t357 x4_1 x5_1 x6_1 t381 x15_3 x16_3 t384 false))) else (none)) = some r := H
                    have A73 := Aside0.mk A730
                    clear A730
                    have HC74 := Aside0.mk H
                    clear H
                    obtain ⟨Ao75, co75, eo75⟩ := Kd.R_slice HO_5.out
                    subst eo75
                    have p382 : 0 ≤ (x16_3 : Int) := of_decide_eq_true (by first | (with_reducible assumption) | assumption)
                    have q382 : x16_3 < (x5_1.length : Int) := of_decide_eq_true (by first | (with_reducible assumption) | assumption)
                    obtain ⟨ad382, e382, hx382_0⟩ := Kd.at_string (Kd.R_reads' HO_5.out).2.2 x16_3 p382 q382
                    cases e382
                    replace p382 := eq_true p382
                    replace q382 := eq_true q382
                    go_upto_region 34 with (first | ((with_reducible refine gate_callee (f := 27) rfl ?_); refine goesL_ (some 121) rfl rfl Tryd.func27 (by kernel_rfl) rfl #[.slice Ao69 x4_1.length co69, .string (rdOf ByteArray.empty x5_1 x16_3)] rfl (by (try simp only [List.map_toArray, List.map_cons, List.map_nil]); first | done | rfl | (simp only [List.length_drop, List.length_take]; rfl)) ?_; (with_reducible refine (entry_Find.calls _ _ x4_1 (rdOf ByteArray.empty x5_1 x16_3) t383 t384 _ ?side1 ?side2 A73.out).mono ?_); (case side1 => repeat (first | exact (Kd.V_reads' HO_4.out).2.2 | (with_reducible refine Kd.C_alloc ?_ _) | (with_reducible refine Kd.C_drewN ?_ _) | (with_reducible refine Kd.C_drew ?_))); (case side2 => exact (Kd.V_reads' HO_4.out).2.1); rintro e w76 ⟨rfl, hb⟩; refine ⟨_, rfl, ?_⟩; have n0_ := Aside0.mk (Kd.V_below (by (with_reducible repeat (first | apply Kd.V_alloc | apply Kd.V_drewN | apply Kd.V_drew)); exact HO_4.out) hb); have n1_ := Aside0.mk (Kd.R_below (by (with_reducible repeat (first | apply Kd.R_alloc | apply Kd.R_drewN | apply Kd.R_drew)); exact HO_5.out) hb); have n2_ := Aside0.mk (Kd.R_below (by (with_reducible repeat (first | apply Kd.R_alloc | apply Kd.R_drewN | apply Kd.R_drew)); exact HO_6.out) hb); have n3_ := Aside0.mk (below_step (by repeat (first | (with_reducible first | exact HB.out | apply below_alloc | apply pw_below_drewN | apply below_drew1) | exact HB.out)) hb); clear HO_4; clear HO_5; clear HO_6; clear HB; have HO_4 := n0_; have HO_5 := n1_; have HO_6 := n2_; have HB := n3_; clear n0_ n1_ n2_ n3_; (try clear hb); (try clear hb2); (try clear hk); (try clear hi)))
                    (try simp only [Act.put, List.setIfInBounds_toArray, List.set_cons_zero, List.set_cons_succ])
                    go_cut [141] (fun v141 wc => ∃ (kq : Nat) (x141_73 : Bool), v141 = .bool x141_73 ∧ Aside0 (lockgatelaw15_EntryKeeps.j5 kq t357 x4_1 x5_1 x6_1 t381 x15_3 x16_3 t384 x141_73 = some r) ∧ Aside0 (kq ≤ k3) ∧ Aside0 (Kd.V k43 43 wc w.heap.size (fun k_ => some k_ ≠ ((.slice (some ad382) x5_1.length co75) : Value).ownBlock ∧ some k_ ≠ (u6 : Value).ownBlock) (.slice Ao69 x4_1.length co69) x4_1) ∧ Aside0 (Kd.R Kd.string 9 wc w.heap.size (fun _ => True) (.slice (some ad382) x5_1.length co75) x5_1) ∧ Aside0 (Kd.R (Kd.int .i64) 3 wc w.heap.size (fun _ => True) u6 x6_1) ∧ Aside0 (Below w.heap.size w wc))
                    case first =>
                      have H := HC74.out
                      clear HC74
                      by_cases c77 : x16_3 < (x6_1.length : Int)
                      · rw [if_pos c77] at H
                        have c77b0 : decide (x16_3 < (x6_1.length : Int)) = true := decide_eq_true c77
                        clear c77
                        (first | rw [c77b0] | (simp only [i64_w, i32_w]; rw [c77b0]) | skip)
                        by_cases c78 : (t384 != (decide ((rd x6_1 x16_3) ≥ 0))) = true
                        · rw [if_pos c78] at H
                          have c78b0 : (t384 != (decide ((rd x6_1 x16_3) ≥ 0))) = true := c78
                          (try (have c78b1 : decide (t384 = (decide ((rd x6_1 x16_3) ≥ 0))) = false := by simpa using c78))
                          (try (have c78b2 : (t384 == (decide ((rd x6_1 x16_3) ≥ 0))) = false := by simpa using c78))
                          (try (have c78b3 : ¬ (t384 = (decide ((rd x6_1 x16_3) ≥ 0))) := by simpa using c78))
                          clear c78
                          have H' := Aside0.mk H
                          clear H
                          obtain ⟨Ao79, co79, eo79⟩ := Kd.R_slice HO_6.out
                          subst eo79
                          have p385 : 0 ≤ (x16_3 : Int) := of_decide_eq_true (by first | (with_reducible assumption) | assumption)
                          have q385 : x16_3 < (x6_1.length : Int) := of_decide_eq_true (by first | (with_reducible assumption) | assumption)
                          obtain ⟨ad385, e385, hx385_0⟩ := Kd.at_int (Kd.R_reads' HO_6.out).2.2 x16_3 p385 q385
                          cases e385
                          replace p385 := eq_true p385
                          replace q385 := eq_true q385
                          go_wp2
                          go_meet
                          case rel => exact ⟨_, (true), (by first | rfl | (simp; done) | (simp [*]; done)), H', ⟨by have := HK1.out; have := HJ3.out; have := HK3.out; first | omega | exact Nat.le_refl _⟩, ⟨by (with_reducible repeat (first | apply Kd.V_alloc | apply Kd.V_drewN | apply Kd.V_drew)); exact HO_4.out⟩, ⟨by (with_reducible repeat (first | apply Kd.R_alloc | apply Kd.R_drewN | apply Kd.R_drew)); exact HO_5.out⟩, ⟨by (with_reducible repeat (first | apply Kd.R_alloc | apply Kd.R_drewN | apply Kd.R_drew)); exact HO_6.out⟩, ⟨by repeat (first | (with_reducible first | exact HB.out | apply below_alloc | apply pw_below_drewN | apply below_drew1) | exact HB.out)⟩⟩
                        · rw [if_neg c78] at H
                          have c78b0 : (t384 != (decide ((rd x6_1 x16_3) ≥ 0))) = false := by simpa using c78
                          (try (have c78b1 : decide (t384 = (decide ((rd x6_1 x16_3) ≥ 0))) = true := by simpa using c78))
                          (try (have c78b2 : (t384 == (decide ((rd x6_1 x16_3) ≥ 0))) = true := by simpa using c78))
                          clear c78
                          by_cases c80 : t384 = true
                          · subst c80
                            have H1 : (lockgatelaw15_EntryKeeps.j5 k3 t357 x4_1 x5_1 x6_1 t381 x15_3 x16_3 true (t383 != (rd x6_1 x16_3))) = some r := by rw [if_pos rfl] at H; exact H
                            clear H
                            have H := H1
                            clear H1
                            have H' := Aside0.mk H
                            clear H
                            obtain ⟨Ao81, co81, eo81⟩ := Kd.R_slice HO_6.out
                            subst eo81
                            have p385 : 0 ≤ (x16_3 : Int) := of_decide_eq_true (by first | (with_reducible assumption) | assumption)
                            have q385 : x16_3 < (x6_1.length : Int) := of_decide_eq_true (by first | (with_reducible assumption) | assumption)
                            obtain ⟨ad385, e385, hx385_0⟩ := Kd.at_int (Kd.R_reads' HO_6.out).2.2 x16_3 p385 q385
                            cases e385
                            replace p385 := eq_true p385
                            replace q385 := eq_true q385
                            have p386 : 0 ≤ (x16_3 : Int) := of_decide_eq_true (by first | (with_reducible assumption) | assumption)
                            have q386 : x16_3 < (x6_1.length : Int) := of_decide_eq_true (by first | (with_reducible assumption) | assumption)
                            obtain ⟨ad386, e386, hx386_0⟩ := Kd.at_int (Kd.R_reads' HO_6.out).2.2 x16_3 p386 q386
                            obtain rfl : ad385 = ad386 := (by injection e386)
                            replace p386 := eq_true p386
                            replace q386 := eq_true q386
                            go_wp2
                            go_meet
                            case rel => exact ⟨_, ((t383 != (rd x6_1 x16_3))), (by first | rfl | (simp; done) | (simp [*]; done)), H', ⟨by have := HK1.out; have := HJ3.out; have := HK3.out; first | omega | exact Nat.le_refl _⟩, ⟨by (with_reducible repeat (first | apply Kd.V_alloc | apply Kd.V_drewN | apply Kd.V_drew)); exact HO_4.out⟩, ⟨by (with_reducible repeat (first | apply Kd.R_alloc | apply Kd.R_drewN | apply Kd.R_drew)); exact HO_5.out⟩, ⟨by (with_reducible repeat (first | apply Kd.R_alloc | apply Kd.R_drewN | apply Kd.R_drew)); exact HO_6.out⟩, ⟨by repeat (first | (with_reducible first | exact HB.out | apply below_alloc | apply pw_below_drewN | apply below_drew1) | exact HB.out)⟩⟩
                          · replace c80 := Bool.eq_false_iff.mpr c80
                            subst c80
                            have H1 : (lockgatelaw15_EntryKeeps.j5 k3 t357 x4_1 x5_1 x6_1 t381 x15_3 x16_3 false false) = some r := by rw [if_neg (show ¬ (false = true) by decide)] at H; exact H
                            clear H
                            have H := H1
                            clear H1
                            have H' := Aside0.mk H
                            clear H
                            obtain ⟨Ao82, co82, eo82⟩ := Kd.R_slice HO_6.out
                            subst eo82
                            have p385 : 0 ≤ (x16_3 : Int) := of_decide_eq_true (by first | (with_reducible assumption) | assumption)
                            have q385 : x16_3 < (x6_1.length : Int) := of_decide_eq_true (by first | (with_reducible assumption) | assumption)
                            obtain ⟨ad385, e385, hx385_0⟩ := Kd.at_int (Kd.R_reads' HO_6.out).2.2 x16_3 p385 q385
                            cases e385
                            replace p385 := eq_true p385
                            replace q385 := eq_true q385
                            go_wp2
                            go_meet
                            case rel => exact ⟨_, (false), (by first | rfl | (simp; done) | (simp [*]; done)), H', ⟨by have := HK1.out; have := HJ3.out; have := HK3.out; first | omega | exact Nat.le_refl _⟩, ⟨by (with_reducible repeat (first | apply Kd.V_alloc | apply Kd.V_drewN | apply Kd.V_drew)); exact HO_4.out⟩, ⟨by (with_reducible repeat (first | apply Kd.R_alloc | apply Kd.R_drewN | apply Kd.R_drew)); exact HO_5.out⟩, ⟨by (with_reducible repeat (first | apply Kd.R_alloc | apply Kd.R_drewN | apply Kd.R_drew)); exact HO_6.out⟩, ⟨by repeat (first | (with_reducible first | exact HB.out | apply below_alloc | apply pw_below_drewN | apply below_drew1) | exact HB.out)⟩⟩
                      · rw [if_neg c77] at H
                        exact absurd H (by simp)
                    case rest =>
                      clear HC74
                      try clear c1
                      try clear c2
                      try clear p2
                      try clear c3
                      try clear p3
                      try clear q3
                      try clear hx3
                      try clear p4
                      try clear q4
                      try clear hx4
                      try clear hf4
                      try clear c5
                      try clear c5b0
                      try clear p5
                      try clear q5
                      try clear hx5
                      try clear hf5
                      try clear c6
                      try clear p6
                      try clear c7
                      try clear c7b0
                      try clear c8
                      try clear c8b0
                      try clear c9
                      try clear c10
                      try clear c11
                      try clear c15
                      try clear c19
                      try clear c19b0
                      try clear c20
                      try clear c20b0
                      try clear c21
                      try clear c21b0
                      try clear c21b1
                      try clear c27
                      try clear c28
                      try clear c28b0
                      try clear c29
                      try clear c30
                      try clear c35
                      try clear c35b0
                      try clear c35b1
                      try clear p35
                      try clear q35
                      try clear hx35
                      try clear p36
                      try clear q36
                      try clear hx36
                      try clear c37
                      try clear c37b0
                      try clear p37
                      try clear q37
                      try clear hx37
                      try clear c38
                      try clear c38b0
                      try clear p38
                      try clear q38
                      try clear hx38
                      try clear c39
                      try clear c39b0
                      try clear c39b1
                      try clear c39b2
                      try clear p44
                      try clear q44
                      try clear hx44
                      try clear hf44
                      try clear c52
                      try clear c52b0
                      try clear c53
                      try clear c53b0
                      try clear p54
                      try clear q54
                      try clear hx54
                      try clear hf54
                      try clear p64
                      try clear c71
                      try clear c71b0
                      try clear c72
                      try clear c72b0
                      try clear c77
                      try clear c77b0
                      try clear c78
                      try clear c78b0
                      try clear c78b1
                      try clear c78b2
                      try clear c80
                      try clear hcz17_0
                      try clear hcz17_1
                      try clear hcz31_0
                      try clear hcz31_1
                      try clear hcz40_0
                      try clear hcz40_1
                      try clear hcz45_0
                      try clear hcz45_1
                      try clear hcz55_0
                      try clear hcz55_1
                      try clear hcz58_0
                      try clear hcz58_1
                      try clear hcz66_0
                      try clear hcz66_1
                      try clear hfz17_0
                      try clear hfz17_1
                      try clear hfz31_0
                      try clear hfz31_1
                      try clear hfz40_0
                      try clear hfz40_1
                      try clear hfz45_0
                      try clear hfz45_1
                      try clear hfz55_0
                      try clear hfz55_1
                      try clear hfz58_0
                      try clear hfz58_1
                      try clear hfz66_0
                      try clear hfz66_1
                      try clear hx358_0
                      try clear hx358_1
                      try clear hx360_0
                      try clear hx360_1
                      try clear hx363_0
                      try clear hx374_0
                      try clear hx382_0
                      try clear hx385_0
                      try clear hx386_0
                      try clear hx44_0
                      try clear hx54_0
                      try clear p2
                      try clear p3
                      try clear p35
                      try clear p358
                      try clear p36
                      try clear p360
                      try clear p363
                      try clear p37
                      try clear p374
                      try clear p382
                      try clear p385
                      try clear p386
                      try clear p4
                      try clear p44
                      try clear p5
                      try clear p54
                      try clear p6
                      try clear p64
                      try clear q3
                      try clear q35
                      try clear q358
                      try clear q36
                      try clear q360
                      try clear q363
                      try clear q37
                      try clear q374
                      try clear q382
                      try clear q385
                      try clear q386
                      try clear q4
                      try clear q44
                      try clear q5
                      try clear q54
                      obtain ⟨kq, x141_73, rfl, HA, HJ73, HO_4, HO_5, HO_6, HB⟩ := hcut
                      cases kq with
                      | zero => exact absurd HA.out (by simp [lockgatelaw15_EntryKeeps.j5])
                      | succ kj73 =>
                        have H := HA.out
                        clear HA
                        simp only [lockgatelaw15_EntryKeeps.j5] at H
                        by_cases c83 : x141_73 = true
                        · subst c83
                          have H1 : (some false) = some r := by rw [if_pos rfl] at H; exact H
                          clear H
                          have H := H1
                          clear H1
                          obtain rfl := Option.some.inj H
                          go_wp2
                          go_ret
                          exact ⟨by first | rfl | (simp [errW_none, errW_some] <;> rfl) | (simp [*, errW_none, errW_some] <;> rfl), by repeat (first | (with_reducible first | exact HB.out | apply below_alloc | apply pw_below_drewN | apply below_drew1) | exact HB.out)⟩
                        · replace c83 := Bool.eq_false_iff.mpr c83
                          subst c83
                          have H1 : (if t384 = true then (lockgatelaw15_EntryKeeps.l2 kj73 t357 x4_1 x5_1 x6_1 t381 (wrap64 (x15_3 + 1)) (wrap64 (x16_3 + 1))) else (lockgatelaw15_EntryKeeps.l2 kj73 t357 x4_1 x5_1 x6_1 t381 x15_3 (wrap64 (x16_3 + 1)))) = some r := by rw [if_neg (show ¬ (false = true) by decide)] at H; exact H
                          clear H
                          have H := H1
                          clear H1
                          by_cases c84 : t384 = true
                          · subst c84
                            have H1 : (lockgatelaw15_EntryKeeps.l2 kj73 t357 x4_1 x5_1 x6_1 t381 (wrap64 (x15_3 + 1)) (wrap64 (x16_3 + 1))) = some r := by rw [if_pos rfl] at H; exact H
                            clear H
                            have H := H1
                            clear H1
                            have H' := Aside0.mk H
                            clear H
                            go_wp2
                            go_roundg kj73
                            case measure => have := HK1.out; have := HJ3.out; have := HK3.out; have := HJ73.out; omega
                            case rel => exact ⟨(wrap64 (x15_3 + 1)), (wrap64 (x16_3 + 1)), (by first | rfl | (simp; done) | (simp [*]; done)), (by first | rfl | (simp; done) | (simp [*]; done)), H', ⟨by have := HK1.out; have := HJ3.out; have := HK3.out; have := HJ73.out; omega⟩, ⟨by (with_reducible repeat (first | apply Kd.V_alloc | apply Kd.V_drewN | apply Kd.V_drew)); exact HO_4.out⟩, ⟨by (with_reducible repeat (first | apply Kd.R_alloc | apply Kd.R_drewN | apply Kd.R_drew)); exact HO_5.out⟩, ⟨by (with_reducible repeat (first | apply Kd.R_alloc | apply Kd.R_drewN | apply Kd.R_drew)); exact HO_6.out⟩, ⟨by repeat (first | (with_reducible first | exact HB.out | apply below_alloc | apply pw_below_drewN | apply below_drew1) | exact HB.out)⟩⟩
                          · replace c84 := Bool.eq_false_iff.mpr c84
                            subst c84
                            have H1 : (lockgatelaw15_EntryKeeps.l2 kj73 t357 x4_1 x5_1 x6_1 t381 x15_3 (wrap64 (x16_3 + 1))) = some r := by rw [if_neg (show ¬ (false = true) by decide)] at H; exact H
                            clear H
                            have H := H1
                            clear H1
                            have H' := Aside0.mk H
                            clear H
                            go_wp2
                            go_roundg kj73
                            case measure => have := HK1.out; have := HJ3.out; have := HK3.out; have := HJ73.out; omega
                            case rel => exact ⟨(x15_3), (wrap64 (x16_3 + 1)), (by first | rfl | (simp; done) | (simp [*]; done)), (by first | rfl | (simp; done) | (simp [*]; done)), H', ⟨by have := HK1.out; have := HJ3.out; have := HK3.out; have := HJ73.out; omega⟩, ⟨by (with_reducible repeat (first | apply Kd.V_alloc | apply Kd.V_drewN | apply Kd.V_drew)); exact HO_4.out⟩, ⟨by (with_reducible repeat (first | apply Kd.R_alloc | apply Kd.R_drewN | apply Kd.R_drew)); exact HO_5.out⟩, ⟨by (with_reducible repeat (first | apply Kd.R_alloc | apply Kd.R_drewN | apply Kd.R_drew)); exact HO_6.out⟩, ⟨by repeat (first | (with_reducible first | exact HB.out | apply below_alloc | apply pw_below_drewN | apply below_drew1) | exact HB.out)⟩⟩
                  · rw [if_neg c72] at H
                    exact absurd H (by simp)
                · rw [if_neg c71] at H
                  have c71b0 : decide (x16_3 < (x5_1.length : Int)) = false := decide_eq_false c71
                  clear c71
                  by_cases c85 : t357 = true
                  · subst c85
                    have H1 : (if t381 = 0 then (some ((x4_1.length : Int) == x15_3)) else (some false)) = some r := by rw [if_pos rfl] at H; exact H
                    clear H
                    have H := H1
                    clear H1
                    by_cases c86 : t381 = 0
                    · rw [if_pos c86] at H
                      have c86b0 : (t381 == 0) = true := beq_iff_eq.mpr c86
                      have c86b1 : (t381 != 0) = false := bne_eq_false_iff_eq.mpr c86
                      clear c86
                      obtain rfl := Option.some.inj H
                      obtain ⟨Ao87, co87, eo87⟩ := Kd.R_slice HO_5.out
                      subst eo87
                      go_wp2
                      go_ret
                      exact ⟨by first | rfl | (simp [errW_none, errW_some] <;> rfl) | (simp [*, errW_none, errW_some] <;> rfl), by repeat (first | (with_reducible first | exact HB.out | apply below_alloc | apply pw_below_drewN | apply below_drew1) | exact HB.out)⟩
                    · rw [if_neg c86] at H
                      have c86b0 : (t381 == 0) = false := beq_eq_false_iff_ne.mpr c86
                      have c86b1 : (t381 != 0) = true := bne_iff_ne.mpr c86
                      obtain rfl := Option.some.inj H
                      obtain ⟨Ao88, co88, eo88⟩ := Kd.R_slice HO_5.out
                      subst eo88
                      go_wp2
                      go_ret
                      exact ⟨by first | rfl | (simp [errW_none, errW_some] <;> rfl) | (simp [*, errW_none, errW_some] <;> rfl), by repeat (first | (with_reducible first | exact HB.out | apply below_alloc | apply pw_below_drewN | apply below_drew1) | exact HB.out)⟩
                  · replace c85 := Bool.eq_false_iff.mpr c85
                    subst c85
                    have H1 : (some false) = some r := by rw [if_neg (show ¬ (false = true) by decide)] at H; exact H
                    clear H
                    have H := H1
                    clear H1
                    obtain rfl := Option.some.inj H
                    obtain ⟨Ao89, co89, eo89⟩ := Kd.R_slice HO_5.out
                    subst eo89
                    go_wp2
                    go_ret
                    exact ⟨by first | rfl | (simp [errW_none, errW_some] <;> rfl) | (simp [*, errW_none, errW_some] <;> rfl), by repeat (first | (with_reducible first | exact HB.out | apply below_alloc | apply pw_below_drewN | apply below_drew1) | exact HB.out)⟩

end Go.Proofs.YtgmbmkjdfmoanaaDoor.Q
