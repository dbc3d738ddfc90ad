-- Written by mp.py (a program of this repo, over the print) for this seat: functions, contracts, walks.
import Derived.Test.YtgmbmkjdfmoanaaDoorQx0
import Derived.Test.YtgmbmkjdfmoanaaDoorQx5
import Derived.Test.YtgmbmkjdfmoanaaDoorQx11
import Derived.Test.YtgmbmkjdfmoanaaDoorQx13
import Derived.Test.YtgmbmkjdfmoanaaDoorQx14
import Derived.Test.YtgmbmkjdfmoanaaDoorQx15
namespace Go.Proofs.YtgmbmkjdfmoanaaDoor.Q
open Go.RowKit Go.Proofs.YtgmbmkjdfmoanaaDoorW.PrintWords Go.Proofs.YtgmbmkjdfmoanaaDoorW.PrintLast Go.Proofs.YtgmbmkjdfmoanaaDoorW.PrintMore
attribute [local go_sem] max2_int min2_int max_two min_two max_three min_three max_four min_four   -- for this text's walks alone
set_option linter.unusedVariables false
set_option linter.unusedSimpArgs false

/-! ### lockgatelaw15_EntryBytes: function 7 -/
def lockgatelaw15_EntryBytes.j0 : Nat → Bool → List (S43) → ByteArray → Int → Bool → Option (Bool)
  | 0, _, _, _, _, _ => none
  | k + 1, x5, x6, x7, x8, x70 => if x70 = true then (some false) else (if x8 = 0 then ((entry_Read.f k x7).bind fun bt328 => ((lockgateref15_Same.f k bt328.1 x6).bind fun t332 => (if x5 = true then (if t332 = true then (if bt328.2 = 0 then ((entry_Size.f k x6).bind fun t333 => (some ((x7.size : Int) == t333))) else (some false)) else (some false)) else (some false)))) else (some x5))
def lockgatelaw15_EntryBytes.f (k : Nat) (l0 : List (S43)) (a1 : ByteArray) : Option (Bool) := (lockgatelaw15_awake.f k).bind fun t308 => ((lockgatelaw15_few.f k l0).bind fun t309 => ((lockgatelaw15_short.f a1 400).bind fun t312 => ((entry_Bytes.f k t309).bind fun bt313 => ((lockgateref15_Bytes.f k t309).bind fun bt315 => ((entry_Read.f k t312).bind fun bt317 => ((lockgateref15_Read.f k t312).bind fun bt321 => ((lockgateref15_Same.f k bt317.1 bt321.1).bind fun t325 => (if bt313.1.toList = bt315.1.toList then (if bt313.2 = bt315.2 then (if t325 = true then (if bt317.2 = bt321.2 then ((entry_Size.f k t309).bind fun t326 => ((lockgateref15_Size.f k t309).bind fun t327 => (lockgatelaw15_EntryBytes.j0 k t308 t309 bt313.1 bt313.2 (t326 != t327)))) else (lockgatelaw15_EntryBytes.j0 k t308 t309 bt313.1 bt313.2 true)) else (lockgatelaw15_EntryBytes.j0 k t308 t309 bt313.1 bt313.2 true)) else (lockgatelaw15_EntryBytes.j0 k t308 t309 bt313.1 bt313.2 true)) else (lockgatelaw15_EntryBytes.j0 k t308 t309 bt313.1 bt313.2 true)))))))))
theorem lockgatelaw15_EntryBytes.mono_l : ∀ k, (∀ y0 y1 y2 y3 y4, LeO (lockgatelaw15_EntryBytes.j0 k y0 y1 y2 y3 y4) (lockgatelaw15_EntryBytes.j0 (k + 1) y0 y1 y2 y3 y4))
  | 0 => fun _ _ _ _ _ r h => by simp [lockgatelaw15_EntryBytes.j0] at h
  | k + 1 => by
    have ih0 := lockgatelaw15_EntryBytes.mono_l k
    · intro y0 y1 y2 y3 y4
      unfold lockgatelaw15_EntryBytes.j0
      repeat' first
      | (with_reducible exact ih0 _ _ _ _ _)
      | (with_reducible exact entry_Bytes.mono _ _)
      | (with_reducible exact entry_Read.mono _ _)
      | (with_reducible exact entry_Size.mono _ _)
      | (with_reducible exact lockgatelaw15_awake.mono _)
      | (with_reducible exact lockgatelaw15_few.mono _ _)
      | (with_reducible exact lockgateref15_Bytes.mono _ _)
      | (with_reducible exact lockgateref15_Read.mono _ _)
      | (with_reducible exact lockgateref15_Same.mono _ _ _)
      | (with_reducible exact lockgateref15_Size.mono _ _)
      | (with_reducible exact LeO.refl _)
      | (with_reducible exact LeO.none _)
      | (with_reducible refine LeO.ite ?_ ?_)
      | (with_reducible refine LeO.bind ?_ (fun _ => ?_))
      | exact ih0 _ _ _ _ _
      | exact entry_Bytes.mono _ _
      | exact entry_Read.mono _ _
      | exact entry_Size.mono _ _
      | exact lockgatelaw15_awake.mono _
      | exact lockgatelaw15_few.mono _ _
      | exact lockgateref15_Bytes.mono _ _
      | exact lockgateref15_Read.mono _ _
      | exact lockgateref15_Same.mono _ _ _
      | exact lockgateref15_Size.mono _ _
      | exact LeO.none _
      | refine LeO.ite ?_ ?_
      | refine LeO.bind ?_ (fun _ => ?_)
theorem lockgatelaw15_EntryBytes.mono : ∀ a0 a1 k, LeO (lockgatelaw15_EntryBytes.f k a0 a1) (lockgatelaw15_EntryBytes.f (k + 1) a0 a1) := by
  intro a0 a1 k
  have ih0 := lockgatelaw15_EntryBytes.mono_l k
  unfold lockgatelaw15_EntryBytes.f
  repeat' first
      | (with_reducible exact ih0 _ _ _ _ _)
      | (with_reducible exact entry_Bytes.mono _ _)
      | (with_reducible exact entry_Read.mono _ _)
      | (with_reducible exact entry_Size.mono _ _)
      | (with_reducible exact lockgatelaw15_awake.mono _)
      | (with_reducible exact lockgatelaw15_few.mono _ _)
      | (with_reducible exact lockgateref15_Bytes.mono _ _)
      | (with_reducible exact lockgateref15_Read.mono _ _)
      | (with_reducible exact lockgateref15_Same.mono _ _ _)
      | (with_reducible exact lockgateref15_Size.mono _ _)
      | (with_reducible exact LeO.refl _)
      | (with_reducible exact LeO.none _)
      | (with_reducible refine LeO.ite ?_ ?_)
      | (with_reducible refine LeO.bind ?_ (fun _ => ?_))
      | exact ih0 _ _ _ _ _
      | exact entry_Bytes.mono _ _
      | exact entry_Read.mono _ _
      | exact entry_Size.mono _ _
      | exact lockgatelaw15_awake.mono _
      | exact lockgatelaw15_few.mono _ _
      | exact lockgateref15_Bytes.mono _ _
      | exact lockgateref15_Read.mono _ _
      | exact lockgateref15_Same.mono _ _ _
      | exact lockgateref15_Size.mono _ _
      | exact LeO.none _
      | refine LeO.ite ?_ ?_
      | refine LeO.bind ?_ (fun _ => ?_)
set_option maxHeartbeats 8000000 in
set_option maxRecDepth 100000 in
theorem lockgatelaw15_EntryBytes.calls (k : Nat) (A0 : Option Addr) (c0 : Nat) (l0 : List (S43)) (a1 : ByteArray) (r : Bool) (w : World) (hr0 : Kd.C k43 w A0 l0.length l0) (hc0 : l0.length ≤ c0) (h : lockgatelaw15_EntryBytes.f k l0 a1 = some r) :
    Calls Tryd.prog 7 #[.slice A0 l0.length c0, .string a1] w fun e w' => e = .returned (.bool r) ∧ Below w.heap.size w w' := by
  have HR0 := Aside0.mk hr0
  have HC0 := Aside0.mk hc0
  clear hr0 hc0
  have HB := Aside0.mk (Below.refl w.heap.size w)
  have H : ((lockgatelaw15_awake.f k).bind fun t308 => ((lockgatelaw15_few.f k l0).bind fun t309 => ((lockgatelaw15_short.f a1 400).bind fun t312 => ((entry_Bytes.f k t309).bind fun bt313 => ((lockgateref15_Bytes.f k t309).bind fun bt315 => ((entry_Read.f k t312).bind fun bt317 => ((lockgateref15_Read.f k t312).bind fun bt321 => ((lockgateref15_Same.f k bt317.1 bt321.1).bind fun t325 => (if bt313.1.toList = bt315.1.toList then (if bt313.2 = bt315.2 then (if t325 = true then (if bt317.2 = bt321.2 then ((entry_Size.f k t309).bind fun t326 => ((lockgateref15_Size.f k t309).bind fun t327 => (lockgatelaw15_EntryBytes.j0 k t308 t309 bt313.1 bt313.2 (t326 != t327)))) else (lockgatelaw15_EntryBytes.j0 k t308 t309 bt313.1 bt313.2 true)) else (lockgatelaw15_EntryBytes.j0 k t308 t309 bt313.1 bt313.2 true)) else (lockgatelaw15_EntryBytes.j0 k t308 t309 bt313.1 bt313.2 true)) else (lockgatelaw15_EntryBytes.j0 k t308 t309 bt313.1 bt313.2 true)))))))))) = some r := h
  clear h
  replace H := Option.bind_eq_some_iff.mp H
  obtain ⟨t308, A30, H⟩ := H
  replace H : ((lockgatelaw15_few.f k l0).bind fun t309 => ((lockgatelaw15_short.f a1 400).bind fun t312 => ((entry_Bytes.f k t309).bind fun bt313 => ((lockgateref15_Bytes.f k t309).bind fun bt315 => ((entry_Read.f k t312).bind fun bt317 => ((lockgateref15_Read.f k t312).bind fun bt321 => ((lockgateref15_Same.f k bt317.1 bt321.1).bind fun t325 => (if bt313.1.toList = bt315.1.toList then (if bt313.2 = bt315.2 then (if t325 = true then (if bt317.2 = bt321.2 then ((entry_Size.f k t309).bind fun t326 => ((lockgateref15_Size.f k t309).bind fun t327 => (lockgatelaw15_EntryBytes.j0 k t308 t309 bt313.1 bt313.2 (t326 != t327)))) else (lockgatelaw15_EntryBytes.j0 k t308 t309 bt313.1 bt313.2 true)) else (lockgatelaw15_EntryBytes.j0 k t308 t309 bt313.1 bt313.2 true)) else (lockgatelaw15_EntryBytes.j0 k t308 t309 bt313.1 bt313.2 true)) else (lockgatelaw15_EntryBytes.j0 k t308 t309 bt313.1 bt313.2 true))))))))) = some r := H
  have A3 := Aside0.mk A30
  clear A30
  replace H := Option.bind_eq_some_iff.mp H
  obtain ⟨t309, A40, H⟩ := H
  replace H : ((lockgatelaw15_short.f a1 400).bind fun t312 => ((entry_Bytes.f k t309).bind fun bt313 => ((lockgateref15_Bytes.f k t309).bind fun bt315 => ((entry_Read.f k t312).bind fun bt317 => ((lockgateref15_Read.f k t312).bind fun bt321 => ((lockgateref15_Same.f k bt317.1 bt321.1).bind fun t325 => (if bt313.1.toList = bt315.1.toList then (if bt313.2 = bt315.2 then (if t325 = true then (if bt317.2 = bt321.2 then ((entry_Size.f k t309).bind fun t326 => ((lockgateref15_Size.f k t309).bind fun t327 => (lockgatelaw15_EntryBytes.j0 k t308 t309 bt313.1 bt313.2 (t326 != t327)))) else (lockgatelaw15_EntryBytes.j0 k t308 t309 bt313.1 bt313.2 true)) else (lockgatelaw15_EntryBytes.j0 k t308 t309 bt313.1 bt313.2 true)) else (lockgatelaw15_EntryBytes.j0 k t308 t309 bt313.1 bt313.2 true)) else (lockgatelaw15_EntryBytes.j0 k t308 t309 bt313.1 bt313.2 true)))))))) = some r := H
  have A4 := Aside0.mk A40
  clear A40
  replace H := Option.bind_eq_some_iff.mp H
  obtain ⟨t312, A50, H⟩ := H
  replace H : ((entry_Bytes.f k t309).bind fun bt313 => ((lockgateref15_Bytes.f k t309).bind fun bt315 => ((entry_Read.f k t312).bind fun bt317 => ((lockgateref15_Read.f k t312).bind fun bt321 => ((lockgateref15_Same.f k bt317.1 bt321.1).bind fun t325 => (if bt313.1.toList = bt315.1.toList then (if bt313.2 = bt315.2 then (if t325 = true then (if bt317.2 = bt321.2 then ((entry_Size.f k t309).bind fun t326 => ((lockgateref15_Size.f k t309).bind fun t327 => (lockgatelaw15_EntryBytes.j0 k t308 t309 bt313.1 bt313.2 (t326 != t327)))) else (lockgatelaw15_EntryBytes.j0 k t308 t309 bt313.1 bt313.2 true)) else (lockgatelaw15_EntryBytes.j0 k t308 t309 bt313.1 bt313.2 true)) else (lockgatelaw15_EntryBytes.j0 k t308 t309 bt313.1 bt313.2 true)) else (lockgatelaw15_EntryBytes.j0 k t308 t309 bt313.1 bt313.2 true))))))) = some r := H
  have A5 := Aside0.mk A50
  clear A50
  replace H := Option.bind_eq_some_iff.mp H
  obtain ⟨⟨t313, t314⟩, A60, H⟩ := H
  replace H : ((lockgateref15_Bytes.f k t309).bind fun bt315 => ((entry_Read.f k t312).bind fun bt317 => ((lockgateref15_Read.f k t312).bind fun bt321 => ((lockgateref15_Same.f k bt317.1 bt321.1).bind fun t325 => (if t313.toList = bt315.1.toList then (if t314 = bt315.2 then (if t325 = true then (if bt317.2 = bt321.2 then ((entry_Size.f k t309).bind fun t326 => ((lockgateref15_Size.f k t309).bind fun t327 => (lockgatelaw15_EntryBytes.j0 k t308 t309 t313 t314 (t326 != t327)))) else (lockgatelaw15_EntryBytes.j0 k t308 t309 t313 t314 true)) else (lockgatelaw15_EntryBytes.j0 k t308 t309 t313 t314 true)) else (lockgatelaw15_EntryBytes.j0 k t308 t309 t313 t314 true)) else (lockgatelaw15_EntryBytes.j0 k t308 t309 t313 t314 true)))))) = some r := H
  have A6 := Aside0.mk A60
  clear A60
  replace H := Option.bind_eq_some_iff.mp H
  obtain ⟨⟨t315, t316⟩, A70, H⟩ := H
  replace H : ((entry_Read.f k t312).bind fun bt317 => ((lockgateref15_Read.f k t312).bind fun bt321 => ((lockgateref15_Same.f k bt317.1 bt321.1).bind fun t325 => (if t313.toList = t315.toList then (if t314 = t316 then (if t325 = true then (if bt317.2 = bt321.2 then ((entry_Size.f k t309).bind fun t326 => ((lockgateref15_Size.f k t309).bind fun t327 => (lockgatelaw15_EntryBytes.j0 k t308 t309 t313 t314 (t326 != t327)))) else (lockgatelaw15_EntryBytes.j0 k t308 t309 t313 t314 true)) else (lockgatelaw15_EntryBytes.j0 k t308 t309 t313 t314 true)) else (lockgatelaw15_EntryBytes.j0 k t308 t309 t313 t314 true)) else (lockgatelaw15_EntryBytes.j0 k t308 t309 t313 t314 true))))) = some r := H
  have A7 := Aside0.mk A70
  clear A70
  replace H := Option.bind_eq_some_iff.mp H
  obtain ⟨⟨t317, t318⟩, A80, H⟩ := H
  replace H : ((lockgateref15_Read.f k t312).bind fun bt321 => ((lockgateref15_Same.f k t317 bt321.1).bind fun t325 => (if t313.toList = t315.toList then (if t314 = t316 then (if t325 = true then (if t318 = bt321.2 then ((entry_Size.f k t309).bind fun t326 => ((lockgateref15_Size.f k t309).bind fun t327 => (lockgatelaw15_EntryBytes.j0 k t308 t309 t313 t314 (t326 != t327)))) else (lockgatelaw15_EntryBytes.j0 k t308 t309 t313 t314 true)) else (lockgatelaw15_EntryBytes.j0 k t308 t309 t313 t314 true)) else (lockgatelaw15_EntryBytes.j0 k t308 t309 t313 t314 true)) else (lockgatelaw15_EntryBytes.j0 k t308 t309 t313 t314 true)))) = some r := H
  have A8 := Aside0.mk A80
  clear A80
  replace H := Option.bind_eq_some_iff.mp H
  obtain ⟨⟨t321, t322⟩, A90, H⟩ := H
  replace H : ((lockgateref15_Same.f k t317 t321).bind fun t325 => (if t313.toList = t315.toList then (if t314 = t316 then (if t325 = true then (if t318 = t322 then ((entry_Size.f k t309).bind fun t326 => ((lockgateref15_Size.f k t309).bind fun t327 => (lockgatelaw15_EntryBytes.j0 k t308 t309 t313 t314 (t326 != t327)))) else (lockgatelaw15_EntryBytes.j0 k t308 t309 t313 t314 true)) else (lockgatelaw15_EntryBytes.j0 k t308 t309 t313 t314 true)) else (lockgatelaw15_EntryBytes.j0 k t308 t309 t313 t314 true)) else (lockgatelaw15_EntryBytes.j0 k t308 t309 t313 t314 true))) = some r := H
  have A9 := Aside0.mk A90
  clear A90
  replace H := Option.bind_eq_some_iff.mp H
  obtain ⟨t325, A100, H⟩ := H
  replace H : (if t313.toList = t315.toList then (if t314 = t316 then (if t325 = true then (if t318 = t322 then ((entry_Size.f k t309).bind fun t326 => ((lockgateref15_Size.f k t309).bind fun t327 => (lockgatelaw15_EntryBytes.j0 k t308 t309 t313 t314 (t326 != t327)))) else (lockgatelaw15_EntryBytes.j0 k t308 t309 t313 t314 true)) else (lockgatelaw15_EntryBytes.j0 k t308 t309 t313 t314 true)) else (lockgatelaw15_EntryBytes.j0 k t308 t309 t313 t314 true)) else (lockgatelaw15_EntryBytes.j0 k t308 t309 t313 t314 true)) = some r := H
  have A10 := Aside0.mk A100
  clear A100
  have HC11 := Aside0.mk H
  clear H
  go_enter Tryd.func7, Tryd.ntmps7
  go_upto_region 9 with (first | ((with_reducible refine gate_callee (f := 10) rfl ?_); refine goesL_ (some 19) rfl rfl Tryd.func10 (by kernel_rfl) rfl #[] rfl (by (try simp only [List.map_toArray, List.map_cons, List.map_nil]); first | done | rfl | (simp only [List.length_drop, List.length_take]; rfl)) ?_; (with_reducible refine (lockgatelaw15_awake.calls k  t308 _ A3.out).mono ?_); rintro e w12 ⟨rfl, hb⟩; refine ⟨_, rfl, ?_⟩; have n0_ := Aside0.mk (below_step (by repeat (first | (with_reducible first | exact HB.out | apply below_alloc | apply pw_below_drewN | apply below_drew1) | exact HB.out)) hb); clear HB; have HB := n0_; clear n0_; (try clear hb); (try clear hb2); (try clear hk); (try clear hi)) | ((with_reducible refine gate_callee (f := 19) rfl ?_); refine goesL_ (some 21) rfl rfl Tryd.func19 (by kernel_rfl) rfl #[.slice A0 l0.length c0] rfl (by (try simp only [List.map_toArray, List.map_cons, List.map_nil]); first | done | rfl | (simp only [List.length_drop, List.length_take]; rfl)) ?_; (with_reducible refine (lockgatelaw15_few.calls k _ _ l0 t309 _ ?side1 ?side2 A4.out).mono ?_); (case side1 => repeat (first | exact (Kd.C_below HR0.out HB.out) | (with_reducible refine Kd.C_alloc ?_ _) | (with_reducible refine Kd.C_drewN ?_ _) | (with_reducible refine Kd.C_drew ?_))); (case side2 => exact HC0.out); rintro e w13 ⟨v310, rfl, ho0, hb⟩; refine ⟨_, rfl, ?_⟩; have n0_ := Aside0.mk (Kd.R_lower ho0 (below_size (by repeat (first | (with_reducible first | exact HB.out | apply below_alloc | apply pw_below_drewN | apply below_drew1) | exact HB.out)))); have n1_ := Aside0.mk (below_step (by repeat (first | (with_reducible first | exact HB.out | apply below_alloc | apply pw_below_drewN | apply below_drew1) | exact HB.out)) hb); clear HB; have HO311 := n0_; have HB := n1_; clear n0_ n1_; (try clear hb); (try clear hb2); (try clear hk); (try clear hi); (try clear ho0)) | ((with_reducible refine gate_callee (f := 11) rfl ?_); refine goesL_ (some 23) rfl rfl Tryd.func11 (by kernel_rfl) rfl #[.string a1, .int .i64 400] rfl (by (try simp only [List.map_toArray, List.map_cons, List.map_nil]); first | done | rfl | (simp only [List.length_drop, List.length_take]; rfl)) ?_; (with_reducible refine (lockgatelaw15_short.calls a1 400 t312 _ A5.out).mono ?_); rintro e w' ⟨rfl, ⟨nd, rfl⟩⟩; refine ⟨_, rfl, ?_⟩; obtain ⟨Ao14, co14, eo14⟩ := Kd.R_slice HO311.out; subst eo14) | ((with_reducible refine gate_callee (f := 20) rfl ?_); refine goesL_ (some 26) rfl rfl Tryd.func20 (by kernel_rfl) rfl #[.slice Ao14 t309.length co14] rfl (by (try simp only [List.map_toArray, List.map_cons, List.map_nil]); first | done | rfl | (simp only [List.length_drop, List.length_take]; rfl)) ?_; (with_reducible refine (entry_Bytes.calls k _ _ t309 t313 t314 _ ?side1 ?side2 A6.out).mono ?_); (case side1 => repeat (first | exact (Kd.R_reads' HO311.out).2.2 | (with_reducible refine Kd.C_alloc ?_ _) | (with_reducible refine Kd.C_drewN ?_ _) | (with_reducible refine Kd.C_drew ?_))); (case side2 => exact (Kd.R_reads' HO311.out).2.1); rintro e w15 ⟨rfl, hb⟩; refine ⟨_, rfl, ?_⟩; have n0_ := Aside0.mk (Kd.R_below (by (with_reducible repeat (first | apply Kd.R_alloc | apply Kd.R_drewN | apply Kd.R_drew)); exact HO311.out) hb); have n1_ := Aside0.mk (below_step (by repeat (first | (with_reducible first | exact HB.out | apply below_alloc | apply pw_below_drewN | apply below_drew1) | exact HB.out)) hb); clear HO311; clear HB; have HO311 := n0_; have HB := n1_; clear n0_ n1_; (try clear hb); (try clear hb2); (try clear hk); (try clear hi)) | ((with_reducible refine gate_callee (f := 22) rfl ?_); refine goesL_ (some 31) rfl rfl Tryd.func22 (by kernel_rfl) rfl #[.slice Ao14 t309.length co14] rfl (by (try simp only [List.map_toArray, List.map_cons, List.map_nil]); first | done | rfl | (simp only [List.length_drop, List.length_take]; rfl)) ?_; (with_reducible refine (lockgateref15_Bytes.calls k _ _ t309 t315 t316 _ ?side1 ?side2 A7.out).mono ?_); (case side1 => repeat (first | exact (Kd.R_reads' HO311.out).2.2 | (with_reducible refine Kd.C_alloc ?_ _) | (with_reducible refine Kd.C_drewN ?_ _) | (with_reducible refine Kd.C_drew ?_))); (case side2 => exact (Kd.R_reads' HO311.out).2.1); rintro e w16 ⟨rfl, hb⟩; refine ⟨_, rfl, ?_⟩; have n0_ := Aside0.mk (Kd.R_below (by (with_reducible repeat (first | apply Kd.R_alloc | apply Kd.R_drewN | apply Kd.R_drew)); exact HO311.out) hb); have n1_ := Aside0.mk (below_step (by repeat (first | (with_reducible first | exact HB.out | apply below_alloc | apply pw_below_drewN | apply below_drew1) | exact HB.out)) hb); clear HO311; clear HB; have HO311 := n0_; have HB := n1_; clear n0_ n1_; (try clear hb); (try clear hb2); (try clear hk); (try clear hi)) | ((with_reducible refine gate_callee (f := 23) rfl ?_); refine goesL_ (some 36) rfl rfl Tryd.func23 (by kernel_rfl) rfl #[.string t312] rfl (by (try simp only [List.map_toArray, List.map_cons, List.map_nil]); first | done | rfl | (simp only [List.length_drop, List.length_take]; rfl)) ?_; (with_reducible refine (entry_Read.calls k t312 t317 t318 _ A8.out).mono ?_); rintro e w17 ⟨v319, rfl, ho0, hb⟩; refine ⟨_, rfl, ?_⟩; have n0_ := Aside0.mk (Kd.R_elder' (by (with_reducible repeat (first | apply Kd.R_alloc | apply Kd.R_drewN | apply Kd.R_drew)); exact HO311.out) (Kd.R_base ho0) hb); have n1_ := Aside0.mk (Kd.R_lower (Kd.R_new' ho0 (Kd.R_lt (by (with_reducible repeat (first | apply Kd.R_alloc | apply Kd.R_drewN | apply Kd.R_drew)); exact HO311.out))) (below_size (by repeat (first | (with_reducible first | exact HB.out | apply below_alloc | apply pw_below_drewN | apply below_drew1) | exact HB.out)))); have n2_ := Aside0.mk (below_step (by repeat (first | (with_reducible first | exact HB.out | apply below_alloc | apply pw_below_drewN | apply below_drew1) | exact HB.out)) hb); clear HO311; clear HB; have HO311 := n0_; have HO320 := n1_; have HB := n2_; clear n0_ n1_ n2_; (try clear hb); (try clear hb2); (try clear hk); (try clear hi); (try clear ho0)) | ((with_reducible refine gate_callee (f := 24) rfl ?_); refine goesL_ (some 41) rfl rfl Tryd.func24 (by kernel_rfl) rfl #[.string t312] rfl (by (try simp only [List.map_toArray, List.map_cons, List.map_nil]); first | done | rfl | (simp only [List.length_drop, List.length_take]; rfl)) ?_; (with_reducible refine (lockgateref15_Read.calls k t312 t321 t322 _ A9.out).mono ?_); rintro e w18 ⟨v323, rfl, ho0, hb⟩; refine ⟨_, rfl, ?_⟩; have n0_ := Aside0.mk (Kd.R_elder' (by (with_reducible repeat (first | apply Kd.R_alloc | apply Kd.R_drewN | apply Kd.R_drew)); exact HO311.out) (Kd.R_base ho0) hb); have n1_ := Aside0.mk (Kd.R_elder' (by (with_reducible repeat (first | apply Kd.R_alloc | apply Kd.R_drewN | apply Kd.R_drew)); exact HO320.out) (Kd.R_base ho0) hb); have n2_ := Aside0.mk (Kd.R_lower (Kd.R_new' (Kd.R_new' ho0 (Kd.R_lt (by (with_reducible repeat (first | apply Kd.R_alloc | apply Kd.R_drewN | apply Kd.R_drew)); exact HO311.out))) (Kd.R_lt (by (with_reducible repeat (first | apply Kd.R_alloc | apply Kd.R_drewN | apply Kd.R_drew)); exact HO320.out))) (below_size (by repeat (first | (with_reducible first | exact HB.out | apply below_alloc | apply pw_below_drewN | apply below_drew1) | exact HB.out)))); have n3_ := Aside0.mk (below_step (by repeat (first | (with_reducible first | exact HB.out | apply below_alloc | apply pw_below_drewN | apply below_drew1) | exact HB.out)) hb); clear HO311; clear HO320; clear HB; have HO311 := n0_; have HO320 := n1_; have HO324 := n2_; have HB := n3_; clear n0_ n1_ n2_ n3_; (try clear hb); (try clear hb2); (try clear hk); (try clear hi); (try clear ho0); obtain ⟨Ao19, co19, eo19⟩ := Kd.R_slice HO320.out; subst eo19; obtain ⟨Ao20, co20, eo20⟩ := Kd.R_slice HO324.out; subst eo20) | ((with_reducible refine gate_callee (f := 21) rfl ?_); refine goesL_ (some 46) rfl rfl Tryd.func21 (by kernel_rfl) rfl #[.slice Ao19 t317.length co19, .slice Ao20 t321.length co20] rfl (by (try simp only [List.map_toArray, List.map_cons, List.map_nil]); first | done | rfl | (simp only [List.length_drop, List.length_take]; rfl)) ?_; (with_reducible refine (lockgateref15_Same.calls k _ _ t317 _ _ t321 t325 _ ?side1 ?side2 ?side3 ?side4 A10.out).mono ?_); (case side1 => repeat (first | exact (Kd.R_reads' HO320.out).2.2 | (with_reducible refine Kd.C_alloc ?_ _) | (with_reducible refine Kd.C_drewN ?_ _) | (with_reducible refine Kd.C_drew ?_))); (case side2 => exact (Kd.R_reads' HO320.out).2.1); (case side3 => repeat (first | exact (Kd.R_reads' HO324.out).2.2 | (with_reducible refine Kd.C_alloc ?_ _) | (with_reducible refine Kd.C_drewN ?_ _) | (with_reducible refine Kd.C_drew ?_))); (case side4 => exact (Kd.R_reads' HO324.out).2.1); rintro e w' ⟨rfl, ⟨nd, rfl⟩⟩; refine ⟨_, rfl, ?_⟩))
  (try simp only [Act.put, List.setIfInBounds_toArray, List.set_cons_zero, List.set_cons_succ])
  go_cut [70] (fun v70 wc => ∃ (kq : Nat) (x70_10 : Bool), v70 = .bool x70_10 ∧ Aside0 (lockgatelaw15_EntryBytes.j0 kq t308 t309 t313 t314 x70_10 = some r) ∧ Aside0 (kq ≤ k) ∧ Aside0 (Kd.R k43 43 wc w.heap.size (fun _ => True) (.slice Ao14 t309.length co14) t309) ∧ Aside0 (Below w.heap.size w wc))
  case first =>
    have H := HC11.out
    clear HC11
    by_cases c21 : t313.toList = t315.toList
    · rw [if_pos c21] at H
      have c21b0 : (t313.toList == t315.toList) = true := beq_iff_eq.mpr c21
      have c21b1 : (t313.toList != t315.toList) = false := bne_eq_false_iff_eq.mpr c21
      clear c21
      (first | rw [c21b0] | (simp only [i64_w, i32_w]; rw [c21b0]) | skip)
      by_cases c22 : t314 = t316
      · rw [if_pos c22] at H
        have c22b0 : (t314 == t316) = true := beq_iff_eq.mpr c22
        have c22b1 : (t314 != t316) = false := bne_eq_false_iff_eq.mpr c22
        clear c22
        by_cases c23 : t325 = true
        · subst c23
          have H1 : (if t318 = t322 then ((entry_Size.f k t309).bind fun t326 => ((lockgateref15_Size.f k t309).bind fun t327 => (lockgatelaw15_EntryBytes.j0 k t308 t309 t313 t314 (t326 != t327)))) else (lockgatelaw15_EntryBytes.j0 k t308 t309 t313 t314 true)) = some r := by rw [if_pos rfl] at H; exact H
          clear H
          have H := H1
          clear H1
          by_cases c24 : t318 = t322
          · rw [if_pos c24] at H
            have c24b0 : (t318 == t322) = true := beq_iff_eq.mpr c24
            have c24b1 : (t318 != t322) = false := bne_eq_false_iff_eq.mpr c24
            clear c24
            replace H := Option.bind_eq_some_iff.mp H
            obtain ⟨t326, A250, H⟩ := H
            replace H : ((lockgateref15_Size.f k t309).bind fun t327 => (lockgatelaw15_EntryBytes.j0 k t308 t309 t313 t314 (t326 != t327))) = some r := H
            have A25 := Aside0.mk A250
            clear A250
            replace H := Option.bind_eq_some_iff.mp H
            obtain ⟨t327, A260, H⟩ := H
            replace H : (lockgatelaw15_EntryBytes.j0 k t308 t309 t313 t314 (t326 != t327)) = some r := H
            have A26 := Aside0.mk A260
            clear A260
            have H' := Aside0.mk H
            clear H
            go_wp2_with (first | (go_at_call 25; (with_reducible refine (entry_Size.calls k _ _ t309 t326 _ ?side1 ?side2 A25.out).mono ?_); (case side1 => repeat (first | exact (Kd.R_reads' HO311.out).2.2 | (with_reducible refine Kd.C_alloc ?_ _) | (with_reducible refine Kd.C_drewN ?_ _) | (with_reducible refine Kd.C_drew ?_))); (case side2 => exact (Kd.R_reads' HO311.out).2.1); rintro e w27 ⟨rfl, hb⟩; have n0_ := Aside0.mk (Kd.R_below (by (with_reducible repeat (first | apply Kd.R_alloc | apply Kd.R_drewN | apply Kd.R_drew)); exact HO311.out) hb); have n1_ := Aside0.mk (Kd.R_below (by (with_reducible repeat (first | apply Kd.R_alloc | apply Kd.R_drewN | apply Kd.R_drew)); exact HO320.out) hb); have n2_ := Aside0.mk (Kd.R_below (by (with_reducible repeat (first | apply Kd.R_alloc | apply Kd.R_drewN | apply Kd.R_drew)); exact HO324.out) hb); have n3_ := Aside0.mk (below_step (by repeat (first | (with_reducible first | exact HB.out | apply below_alloc | apply pw_below_drewN | apply below_drew1) | exact HB.out)) hb); clear HO311; clear HO320; clear HO324; clear HB; have HO311 := n0_; have HO320 := n1_; have HO324 := n2_; have HB := n3_; clear n0_ n1_ n2_ n3_; (try clear hb); (try clear hb2); (try clear hk); (try clear hi)) | (go_at_call 26; (with_reducible refine (lockgateref15_Size.calls k _ _ t309 t327 _ ?side1 ?side2 A26.out).mono ?_); (case side1 => repeat (first | exact (Kd.R_reads' HO311.out).2.2 | (with_reducible refine Kd.C_alloc ?_ _) | (with_reducible refine Kd.C_drewN ?_ _) | (with_reducible refine Kd.C_drew ?_))); (case side2 => exact (Kd.R_reads' HO311.out).2.1); rintro e w' ⟨rfl, ⟨nd, rfl⟩⟩))
            go_meet
            case rel => exact ⟨_, ((t326 != t327)), (by first | rfl | (simp; done) | (simp [*]; done)), H', ⟨by first | omega | exact Nat.le_refl _⟩, ⟨by (with_reducible repeat (first | apply Kd.R_alloc | apply Kd.R_drewN | apply Kd.R_drew)); exact Kd.R_mono HO311.out (fun _ hk => trivial)⟩, ⟨by repeat (first | (with_reducible first | exact HB.out | apply below_alloc | apply pw_below_drewN | apply below_drew1) | exact HB.out)⟩⟩
          · rw [if_neg c24] at H
            have c24b0 : (t318 == t322) = false := beq_eq_false_iff_ne.mpr c24
            have c24b1 : (t318 != t322) = true := bne_iff_ne.mpr c24
            have H' := Aside0.mk H
            clear H
            go_wp2
            go_meet
            case rel => exact ⟨_, (true), (by first | rfl | (simp; done) | (simp [*]; done)), H', ⟨by first | omega | exact Nat.le_refl _⟩, ⟨by (with_reducible repeat (first | apply Kd.R_alloc | apply Kd.R_drewN | apply Kd.R_drew)); exact Kd.R_mono HO311.out (fun _ hk => trivial)⟩, ⟨by repeat (first | (with_reducible first | exact HB.out | apply below_alloc | apply pw_below_drewN | apply below_drew1) | exact HB.out)⟩⟩
        · replace c23 := Bool.eq_false_iff.mpr c23
          subst c23
          have H1 : (lockgatelaw15_EntryBytes.j0 k t308 t309 t313 t314 true) = some r := by rw [if_neg (show ¬ (false = true) by decide)] at H; exact H
          clear H
          have H := H1
          clear H1
          have H' := Aside0.mk H
          clear H
          go_wp2
          go_meet
          case rel => exact ⟨_, (true), (by first | rfl | (simp; done) | (simp [*]; done)), H', ⟨by first | omega | exact Nat.le_refl _⟩, ⟨by (with_reducible repeat (first | apply Kd.R_alloc | apply Kd.R_drewN | apply Kd.R_drew)); exact Kd.R_mono HO311.out (fun _ hk => trivial)⟩, ⟨by repeat (first | (with_reducible first | exact HB.out | apply below_alloc | apply pw_below_drewN | apply below_drew1) | exact HB.out)⟩⟩
      · rw [if_neg c22] at H
        have c22b0 : (t314 == t316) = false := beq_eq_false_iff_ne.mpr c22
        have c22b1 : (t314 != t316) = true := bne_iff_ne.mpr c22
        have H' := Aside0.mk H
        clear H
        go_wp2
        go_meet
        case rel => exact ⟨_, (true), (by first | rfl | (simp; done) | (simp [*]; done)), H', ⟨by first | omega | exact Nat.le_refl _⟩, ⟨by (with_reducible repeat (first | apply Kd.R_alloc | apply Kd.R_drewN | apply Kd.R_drew)); exact Kd.R_mono HO311.out (fun _ hk => trivial)⟩, ⟨by repeat (first | (with_reducible first | exact HB.out | apply below_alloc | apply pw_below_drewN | apply below_drew1) | exact HB.out)⟩⟩
    · rw [if_neg c21] at H
      have c21b0 : (t313.toList == t315.toList) = false := beq_eq_false_iff_ne.mpr c21
      have c21b1 : (t313.toList != t315.toList) = true := bne_iff_ne.mpr c21
      (first | rw [c21b0] | (simp only [i64_w, i32_w]; rw [c21b0]) | skip)
      have H' := Aside0.mk H
      clear H
      go_wp2
      go_meet
      case rel => exact ⟨_, (true), (by first | rfl | (simp; done) | (simp [*]; done)), H', ⟨by first | omega | exact Nat.le_refl _⟩, ⟨by (with_reducible repeat (first | apply Kd.R_alloc | apply Kd.R_drewN | apply Kd.R_drew)); exact Kd.R_mono HO311.out (fun _ hk => trivial)⟩, ⟨by repeat (first | (with_reducible first | exact HB.out | apply below_alloc | apply pw_below_drewN | apply below_drew1) | exact HB.out)⟩⟩
  case rest =>
    clear HC11
    try clear c1
    try clear c2
    try clear p2
    try clear c7
    try clear c10
    try clear c11
    try clear c19
    try clear c20
    try clear c21
    try clear c21b0
    try clear c21b1
    try clear c22
    try clear c22b0
    try clear c22b1
    try clear c23
    try clear c24
    try clear c24b0
    try clear c24b1
    obtain ⟨kq, x70_10, rfl, HA, HJ10, HO_6, HB⟩ := hcut
    cases kq with
    | zero => exact absurd HA.out (by simp [lockgatelaw15_EntryBytes.j0])
    | succ kj10 =>
      have H := HA.out
      clear HA
      simp only [lockgatelaw15_EntryBytes.j0] at H
      by_cases c28 : x70_10 = true
      · subst c28
        have H1 : (some false) = some r := by rw [if_pos rfl] at H; exact H
        clear H
        have H := H1
        clear H1
        obtain rfl := Option.some.inj H
        go_wp2
        go_ret
        exact ⟨by first | rfl | (simp [errW_none, errW_some] <;> rfl) | (simp [*, errW_none, errW_some] <;> rfl), by repeat (first | (with_reducible first | exact HB.out | apply below_alloc | apply pw_below_drewN | apply below_drew1) | exact HB.out)⟩
      · replace c28 := Bool.eq_false_iff.mpr c28
        subst c28
        have H1 : (if t314 = 0 then ((entry_Read.f kj10 t313).bind fun bt328 => ((lockgateref15_Same.f kj10 bt328.1 t309).bind fun t332 => (if t308 = true then (if t332 = true then (if bt328.2 = 0 then ((entry_Size.f kj10 t309).bind fun t333 => (some ((t313.size : Int) == t333))) else (some false)) else (some false)) else (some false)))) else (some t308)) = some r := by rw [if_neg (show ¬ (false = true) by decide)] at H; exact H
        clear H
        have H := H1
        clear H1
        by_cases c29 : t314 = 0
        · rw [if_pos c29] at H
          have c29b0 : (t314 == 0) = true := beq_iff_eq.mpr c29
          have c29b1 : (t314 != 0) = false := bne_eq_false_iff_eq.mpr c29
          clear c29
          replace H := Option.bind_eq_some_iff.mp H
          obtain ⟨⟨t328, t329⟩, A300, H⟩ := H
          replace H : ((lockgateref15_Same.f kj10 t328 t309).bind fun t332 => (if t308 = true then (if t332 = true then (if t329 = 0 then ((entry_Size.f kj10 t309).bind fun t333 => (some ((t313.size : Int) == t333))) else (some false)) else (some false)) else (some false))) = some r := H
          have A30 := Aside0.mk A300
          clear A300
          replace H := Option.bind_eq_some_iff.mp H
          obtain ⟨t332, A310, H⟩ := H
          replace H : (if t308 = true then (if t332 = true then (if t329 = 0 then ((entry_Size.f kj10 t309).bind fun t333 => (some ((t313.size : Int) == t333))) else (some false)) else (some false)) else (some false)) = some r := H
          have A31 := Aside0.mk A310
          clear A310
          by_cases c32 : t308 = true
          · subst c32
            have H1 : (if t332 = true then (if t329 = 0 then ((entry_Size.f kj10 t309).bind fun t333 => (some ((t313.size : Int) == t333))) else (some false)) else (some false)) = some r := by rw [if_pos rfl] at H; exact H
            clear H
            have H := H1
            clear H1
            by_cases c33 : t332 = true
            · subst c33
              have H1 : (if t329 = 0 then ((entry_Size.f kj10 t309).bind fun t333 => (some ((t313.size : Int) == t333))) else (some false)) = some r := by rw [if_pos rfl] at H; exact H
              clear H
              have H := H1
              clear H1
              by_cases c34 : t329 = 0
              · rw [if_pos c34] at H
                have c34b0 : (t329 == 0) = true := beq_iff_eq.mpr c34
                have c34b1 : (t329 != 0) = false := bne_eq_false_iff_eq.mpr c34
                clear c34
                replace H := Option.bind_eq_some_iff.mp H
                obtain ⟨t333, A350, H⟩ := H
                replace H : (some ((t313.size : Int) == t333)) = some r := H
                have A35 := Aside0.mk A350
                clear A350
                obtain rfl := Option.some.inj H
                go_wp2_with (first | ((with_reducible refine gate_callee (f := 23) rfl ?_); refine goesL_ (some 76) rfl rfl Tryd.func23 (by kernel_rfl) rfl #[.string t313] rfl (by (try simp only [List.map_toArray, List.map_cons, List.map_nil]); first | done | rfl | (simp only [List.length_drop, List.length_take]; rfl)) ?_; (with_reducible refine (entry_Read.calls kj10 t313 t328 t329 _ A30.out).mono ?_); rintro e w36 ⟨v330, rfl, ho0, hb⟩; refine ⟨_, rfl, ?_⟩; have n0_ := Aside0.mk (Kd.R_elder' (by (with_reducible repeat (first | apply Kd.R_alloc | apply Kd.R_drewN | apply Kd.R_drew)); exact HO_6.out) (Kd.R_base ho0) hb); have n1_ := Aside0.mk (Kd.R_lower (Kd.R_new' ho0 (Kd.R_lt (by (with_reducible repeat (first | apply Kd.R_alloc | apply Kd.R_drewN | apply Kd.R_drew)); exact HO_6.out))) (below_size (by repeat (first | (with_reducible first | exact HB.out | apply below_alloc | apply pw_below_drewN | apply below_drew1) | exact HB.out)))); have n2_ := Aside0.mk (below_step (by repeat (first | (with_reducible first | exact HB.out | apply below_alloc | apply pw_below_drewN | apply below_drew1) | exact HB.out)) hb); clear HO_6; clear HB; have HO_6 := n0_; have HO331 := n1_; have HB := n2_; clear n0_ n1_ n2_; (try clear hb); (try clear hb2); (try clear hk); (try clear hi); (try clear ho0); obtain ⟨Ao37, co37, eo37⟩ := Kd.R_slice HO331.out; subst eo37) | ((with_reducible refine gate_callee (f := 21) rfl ?_); refine goesL_ (some 81) rfl rfl Tryd.func21 (by kernel_rfl) rfl #[.slice Ao37 t328.length co37, .slice Ao14 t309.length co14] rfl (by (try simp only [List.map_toArray, List.map_cons, List.map_nil]); first | done | rfl | (simp only [List.length_drop, List.length_take]; rfl)) ?_; (with_reducible refine (lockgateref15_Same.calls kj10 _ _ t328 _ _ t309 true _ ?side1 ?side2 ?side3 ?side4 A31.out).mono ?_); (case side1 => repeat (first | exact (Kd.R_reads' HO331.out).2.2 | (with_reducible refine Kd.C_alloc ?_ _) | (with_reducible refine Kd.C_drewN ?_ _) | (with_reducible refine Kd.C_drew ?_))); (case side2 => exact (Kd.R_reads' HO331.out).2.1); (case side3 => repeat (first | exact (Kd.R_reads' HO_6.out).2.2 | (with_reducible refine Kd.C_alloc ?_ _) | (with_reducible refine Kd.C_drewN ?_ _) | (with_reducible refine Kd.C_drew ?_))); (case side4 => exact (Kd.R_reads' HO_6.out).2.1); rintro e w' ⟨rfl, ⟨nd, rfl⟩⟩; refine ⟨_, rfl, ?_⟩) | (go_at_call 25; (with_reducible refine (entry_Size.calls kj10 _ _ t309 t333 _ ?side1 ?side2 A35.out).mono ?_); (case side1 => repeat (first | exact (Kd.R_reads' HO_6.out).2.2 | (with_reducible refine Kd.C_alloc ?_ _) | (with_reducible refine Kd.C_drewN ?_ _) | (with_reducible refine Kd.C_drew ?_))); (case side2 => exact (Kd.R_reads' HO_6.out).2.1); rintro e w38 ⟨rfl, hb⟩; have n0_ := Aside0.mk (Kd.R_below (by (with_reducible repeat (first | apply Kd.R_alloc | apply Kd.R_drewN | apply Kd.R_drew)); exact HO_6.out) hb); have n1_ := Aside0.mk (Kd.R_below (by (with_reducible repeat (first | apply Kd.R_alloc | apply Kd.R_drewN | apply Kd.R_drew)); exact HO331.out) hb); have n2_ := Aside0.mk (below_step (by repeat (first | (with_reducible first | exact HB.out | apply below_alloc | apply pw_below_drewN | apply below_drew1) | exact HB.out)) hb); clear HO_6; clear HO331; clear HB; have HO_6 := n0_; have HO331 := n1_; have HB := n2_; clear n0_ n1_ n2_; (try clear hb); (try clear hb2); (try clear hk); (try clear hi)))
                go_ret
                exact ⟨by first | rfl | (simp [errW_none, errW_some] <;> rfl) | (simp [*, errW_none, errW_some] <;> rfl), by repeat (first | (with_reducible first | exact HB.out | apply below_alloc | apply pw_below_drewN | apply below_drew1) | exact HB.out)⟩
              · rw [if_neg c34] at H
                have c34b0 : (t329 == 0) = false := beq_eq_false_iff_ne.mpr c34
                have c34b1 : (t329 != 0) = true := bne_iff_ne.mpr c34
                obtain rfl := Option.some.inj H
                go_wp2_with (first | ((with_reducible refine gate_callee (f := 23) rfl ?_); refine goesL_ (some 76) rfl rfl Tryd.func23 (by kernel_rfl) rfl #[.string t313] rfl (by (try simp only [List.map_toArray, List.map_cons, List.map_nil]); first | done | rfl | (simp only [List.length_drop, List.length_take]; rfl)) ?_; (with_reducible refine (entry_Read.calls kj10 t313 t328 t329 _ A30.out).mono ?_); rintro e w39 ⟨v330, rfl, ho0, hb⟩; refine ⟨_, rfl, ?_⟩; have n0_ := Aside0.mk (Kd.R_elder' (by (with_reducible repeat (first | apply Kd.R_alloc | apply Kd.R_drewN | apply Kd.R_drew)); exact HO_6.out) (Kd.R_base ho0) hb); have n1_ := Aside0.mk (Kd.R_lower (Kd.R_new' ho0 (Kd.R_lt (by (with_reducible repeat (first | apply Kd.R_alloc | apply Kd.R_drewN | apply Kd.R_drew)); exact HO_6.out))) (below_size (by repeat (first | (with_reducible first | exact HB.out | apply below_alloc | apply pw_below_drewN | apply below_drew1) | exact HB.out)))); have n2_ := Aside0.mk (below_step (by repeat (first | (with_reducible first | exact HB.out | apply below_alloc | apply pw_below_drewN | apply below_drew1) | exact HB.out)) hb); clear HO_6; clear HB; have HO_6 := n0_; have HO331 := n1_; have HB := n2_; clear n0_ n1_ n2_; (try clear hb); (try clear hb2); (try clear hk); (try clear hi); (try clear ho0); obtain ⟨Ao40, co40, eo40⟩ := Kd.R_slice HO331.out; subst eo40) | ((with_reducible refine gate_callee (f := 21) rfl ?_); refine goesL_ (some 81) rfl rfl Tryd.func21 (by kernel_rfl) rfl #[.slice Ao40 t328.length co40, .slice Ao14 t309.length co14] rfl (by (try simp only [List.map_toArray, List.map_cons, List.map_nil]); first | done | rfl | (simp only [List.length_drop, List.length_take]; rfl)) ?_; (with_reducible refine (lockgateref15_Same.calls kj10 _ _ t328 _ _ t309 true _ ?side1 ?side2 ?side3 ?side4 A31.out).mono ?_); (case side1 => repeat (first | exact (Kd.R_reads' HO331.out).2.2 | (with_reducible refine Kd.C_alloc ?_ _) | (with_reducible refine Kd.C_drewN ?_ _) | (with_reducible refine Kd.C_drew ?_))); (case side2 => exact (Kd.R_reads' HO331.out).2.1); (case side3 => repeat (first | exact (Kd.R_reads' HO_6.out).2.2 | (with_reducible refine Kd.C_alloc ?_ _) | (with_reducible refine Kd.C_drewN ?_ _) | (with_reducible refine Kd.C_drew ?_))); (case side4 => exact (Kd.R_reads' HO_6.out).2.1); rintro e w' ⟨rfl, ⟨nd, rfl⟩⟩; refine ⟨_, rfl, ?_⟩))
                go_ret
                exact ⟨by first | rfl | (simp [errW_none, errW_some] <;> rfl) | (simp [*, errW_none, errW_some] <;> rfl), by repeat (first | (with_reducible first | exact HB.out | apply below_alloc | apply pw_below_drewN | apply below_drew1) | exact HB.out)⟩
            · replace c33 := Bool.eq_false_iff.mpr c33
              subst c33
              have H1 : (some false) = some r := by rw [if_neg (show ¬ (false = true) by decide)] at H; exact H
              clear H
              have H := H1
              clear H1
              obtain rfl := Option.some.inj H
              go_wp2_with (first | ((with_reducible refine gate_callee (f := 23) rfl ?_); refine goesL_ (some 76) rfl rfl Tryd.func23 (by kernel_rfl) rfl #[.string t313] rfl (by (try simp only [List.map_toArray, List.map_cons, List.map_nil]); first | done | rfl | (simp only [List.length_drop, List.length_take]; rfl)) ?_; (with_reducible refine (entry_Read.calls kj10 t313 t328 t329 _ A30.out).mono ?_); rintro e w41 ⟨v330, rfl, ho0, hb⟩; refine ⟨_, rfl, ?_⟩; have n0_ := Aside0.mk (Kd.R_elder' (by (with_reducible repeat (first | apply Kd.R_alloc | apply Kd.R_drewN | apply Kd.R_drew)); exact HO_6.out) (Kd.R_base ho0) hb); have n1_ := Aside0.mk (Kd.R_lower (Kd.R_new' ho0 (Kd.R_lt (by (with_reducible repeat (first | apply Kd.R_alloc | apply Kd.R_drewN | apply Kd.R_drew)); exact HO_6.out))) (below_size (by repeat (first | (with_reducible first | exact HB.out | apply below_alloc | apply pw_below_drewN | apply below_drew1) | exact HB.out)))); have n2_ := Aside0.mk (below_step (by repeat (first | (with_reducible first | exact HB.out | apply below_alloc | apply pw_below_drewN | apply below_drew1) | exact HB.out)) hb); clear HO_6; clear HB; have HO_6 := n0_; have HO331 := n1_; have HB := n2_; clear n0_ n1_ n2_; (try clear hb); (try clear hb2); (try clear hk); (try clear hi); (try clear ho0); obtain ⟨Ao42, co42, eo42⟩ := Kd.R_slice HO331.out; subst eo42) | ((with_reducible refine gate_callee (f := 21) rfl ?_); refine goesL_ (some 81) rfl rfl Tryd.func21 (by kernel_rfl) rfl #[.slice Ao42 t328.length co42, .slice Ao14 t309.length co14] rfl (by (try simp only [List.map_toArray, List.map_cons, List.map_nil]); first | done | rfl | (simp only [List.length_drop, List.length_take]; rfl)) ?_; (with_reducible refine (lockgateref15_Same.calls kj10 _ _ t328 _ _ t309 false _ ?side1 ?side2 ?side3 ?side4 A31.out).mono ?_); (case side1 => repeat (first | exact (Kd.R_reads' HO331.out).2.2 | (with_reducible refine Kd.C_alloc ?_ _) | (with_reducible refine Kd.C_drewN ?_ _) | (with_reducible refine Kd.C_drew ?_))); (case side2 => exact (Kd.R_reads' HO331.out).2.1); (case side3 => repeat (first | exact (Kd.R_reads' HO_6.out).2.2 | (with_reducible refine Kd.C_alloc ?_ _) | (with_reducible refine Kd.C_drewN ?_ _) | (with_reducible refine Kd.C_drew ?_))); (case side4 => exact (Kd.R_reads' HO_6.out).2.1); rintro e w' ⟨rfl, ⟨nd, rfl⟩⟩; refine ⟨_, rfl, ?_⟩))
              go_ret
              exact ⟨by first | rfl | (simp [errW_none, errW_some] <;> rfl) | (simp [*, errW_none, errW_some] <;> rfl), by repeat (first | (with_reducible first | exact HB.out | apply below_alloc | apply pw_below_drewN | apply below_drew1) | exact HB.out)⟩
          · replace c32 := Bool.eq_false_iff.mpr c32
            subst c32
            have H1 : (some false) = some r := by rw [if_neg (show ¬ (false = true) by decide)] at H; exact H
            clear H
            have H := H1
            clear H1
            obtain rfl := Option.some.inj H
            go_wp2_with (first | ((with_reducible refine gate_callee (f := 23) rfl ?_); refine goesL_ (some 76) rfl rfl Tryd.func23 (by kernel_rfl) rfl #[.string t313] rfl (by (try simp only [List.map_toArray, List.map_cons, List.map_nil]); first | done | rfl | (simp only [List.length_drop, List.length_take]; rfl)) ?_; (with_reducible refine (entry_Read.calls kj10 t313 t328 t329 _ A30.out).mono ?_); rintro e w43 ⟨v330, rfl, ho0, hb⟩; refine ⟨_, rfl, ?_⟩; have n0_ := Aside0.mk (Kd.R_elder' (by (with_reducible repeat (first | apply Kd.R_alloc | apply Kd.R_drewN | apply Kd.R_drew)); exact HO_6.out) (Kd.R_base ho0) hb); have n1_ := Aside0.mk (Kd.R_lower (Kd.R_new' ho0 (Kd.R_lt (by (with_reducible repeat (first | apply Kd.R_alloc | apply Kd.R_drewN | apply Kd.R_drew)); exact HO_6.out))) (below_size (by repeat (first | (with_reducible first | exact HB.out | apply below_alloc | apply pw_below_drewN | apply below_drew1) | exact HB.out)))); have n2_ := Aside0.mk (below_step (by repeat (first | (with_reducible first | exact HB.out | apply below_alloc | apply pw_below_drewN | apply below_drew1) | exact HB.out)) hb); clear HO_6; clear HB; have HO_6 := n0_; have HO331 := n1_; have HB := n2_; clear n0_ n1_ n2_; (try clear hb); (try clear hb2); (try clear hk); (try clear hi); (try clear ho0); obtain ⟨Ao44, co44, eo44⟩ := Kd.R_slice HO331.out; subst eo44) | ((with_reducible refine gate_callee (f := 21) rfl ?_); refine goesL_ (some 81) rfl rfl Tryd.func21 (by kernel_rfl) rfl #[.slice Ao44 t328.length co44, .slice Ao14 t309.length co14] rfl (by (try simp only [List.map_toArray, List.map_cons, List.map_nil]); first | done | rfl | (simp only [List.length_drop, List.length_take]; rfl)) ?_; (with_reducible refine (lockgateref15_Same.calls kj10 _ _ t328 _ _ t309 t332 _ ?side1 ?side2 ?side3 ?side4 A31.out).mono ?_); (case side1 => repeat (first | exact (Kd.R_reads' HO331.out).2.2 | (with_reducible refine Kd.C_alloc ?_ _) | (with_reducible refine Kd.C_drewN ?_ _) | (with_reducible refine Kd.C_drew ?_))); (case side2 => exact (Kd.R_reads' HO331.out).2.1); (case side3 => repeat (first | exact (Kd.R_reads' HO_6.out).2.2 | (with_reducible refine Kd.C_alloc ?_ _) | (with_reducible refine Kd.C_drewN ?_ _) | (with_reducible refine Kd.C_drew ?_))); (case side4 => exact (Kd.R_reads' HO_6.out).2.1); rintro e w' ⟨rfl, ⟨nd, rfl⟩⟩; refine ⟨_, rfl, ?_⟩))
            go_ret
            exact ⟨by first | rfl | (simp [errW_none, errW_some] <;> rfl) | (simp [*, errW_none, errW_some] <;> rfl), by repeat (first | (with_reducible first | exact HB.out | apply below_alloc | apply pw_below_drewN | apply below_drew1) | exact HB.out)⟩
        · rw [if_neg c29] at H
          have c29b0 : (t314 == 0) = false := beq_eq_false_iff_ne.mpr c29
          have c29b1 : (t314 != 0) = true := bne_iff_ne.mpr c29
          obtain rfl := Option.some.inj H
          go_wp2
          go_ret
          exact ⟨by first | rfl | (simp [errW_none, errW_some] <;> rfl) | (simp [*, errW_none, errW_some] <;> rfl), by repeat (first | (with_reducible first | exact HB.out | apply below_alloc | apply pw_below_drewN | apply below_drew1) | exact HB.out)⟩

end Go.Proofs.YtgmbmkjdfmoanaaDoor.Q
