-- Written by mp.py (a program of this repo, over the print) for this seat: functions, contracts, walks.
import Derived.Test.YtfphaiobbpjpkaaQx0
import Derived.Test.YtfphaiobbpjpkaaQx1
import Derived.Test.YtfphaiobbpjpkaaQx2
namespace Go.Proofs.Ytfphaiobbpjpkaa.Q
open Go.RowKit Go.Proofs.YtfphaiobbpjpkaaW.PrintWords Go.Proofs.YtfphaiobbpjpkaaW.PrintLast Go.Proofs.YtfphaiobbpjpkaaW.PrintMore
attribute [local go_sem] max2_int min2_int max_two min_two max_three min_three max_four min_four   -- for this text's walks alone
set_option linter.unusedVariables false
set_option linter.unusedSimpArgs false

/-! ### lockgatelaw01_PackNil: function 9: by hand -/
theorem lockgatelaw01_PackNil.take_nil (n : Int) (w : World) : Calls Try.prog 40 #[.pointer none, .int .i64 n] w fun e w' => e = .returned (.tuple #[.string ⟨#[]⟩, .bool false]) ∧ Below w.heap.size w w' := by
  go_enter Try.func40, Try.ntmps40
  go_wp2
  go_ret2
  exact ⟨rfl, Below.refl _ _⟩
theorem lockgatelaw01_PackNil.number_nil (n : Int) (w : World) : Calls Try.prog 41 #[.pointer none, .int .i64 n] w fun e w' => e = .returned (.int .u64 0) ∧ Below w.heap.size w w' := by
  go_enter Try.func41, Try.ntmps41
  go_wp2_with fail
  refine (lockgatelaw01_PackNil.take_nil n _).mono ?_
  rintro e w' ⟨rfl, hB⟩
  have hB1 := Aside0.mk hB
  clear hB
  go_wp2
  go_loop [8, 9, 20] (fun v8 _ v20 => v8 = .int .u64 0 ∧ v20 = .int .i64 0) (fun _ _ _ => 0)
  case atStart => exact ⟨rfl, rfl⟩
  case round =>
    obtain ⟨rfl, rfl⟩ := hrel
    go_wp2
    go_ret
    exact ⟨rfl, hB1.out⟩
theorem lockgatelaw01_PackNil.two_nil (w : World) : Calls Try.prog 28 #[.pointer none] w fun e w' => e = .returned (.int .i64 0) ∧ Below w.heap.size w w' := by
  go_enter Try.func28, Try.ntmps28
  go_wp2_with fail
  refine (lockgatelaw01_PackNil.number_nil 2 _).mono ?_
  rintro e w' ⟨rfl, hB⟩
  have hB1 := Aside0.mk hB
  clear hB
  go_wp2
  go_ret
  exact ⟨rfl, hB1.out⟩
theorem lockgatelaw01_PackNil.four_nil (w : World) : Calls Try.prog 26 #[.pointer none] w fun e w' => e = .returned (.int .i64 0) ∧ Below w.heap.size w w' := by
  go_enter Try.func26, Try.ntmps26
  go_wp2_with fail
  refine (lockgatelaw01_PackNil.number_nil 4 _).mono ?_
  rintro e w' ⟨rfl, hB⟩
  have hB1 := Aside0.mk hB
  clear hB
  go_wp2
  go_ret
  exact ⟨rfl, hB1.out⟩
theorem lockgatelaw01_PackNil.left_nil (w : World) : Calls Try.prog 25 #[.pointer none] w fun e w' => e = .returned (.int .i64 0) ∧ Below w.heap.size w w' := by
  go_enter Try.func25, Try.ntmps25
  go_wp2
  go_ret
  exact ⟨rfl, Below.refl _ _⟩
theorem lockgatelaw01_PackNil.end_nil (w : World) : Calls Try.prog 27 #[.pointer none] w fun e w' => e = .returned (.int .i64 10) ∧ Below w.heap.size w w' := by
  go_enter Try.func27, Try.ntmps27
  go_wp2
  go_ret
  exact ⟨rfl, Below.refl _ _⟩
theorem lockgatelaw01_PackNil.text_nil (w : World) : Calls Try.prog 24 #[.pointer none] w fun e w' => e = .returned (.string ⟨#[]⟩) ∧ Below w.heap.size w w' := by
  go_enter Try.func24, Try.ntmps24
  go_wp2_with fail
  refine (lockgatelaw01_PackNil.two_nil _).mono ?_
  rintro e w1 ⟨rfl, hB⟩
  have hB1 := Aside0.mk hB
  clear hB
  go_wp2_with fail
  refine (lockgatelaw01_PackNil.take_nil 0 _).mono ?_
  rintro e w2 ⟨rfl, hB⟩
  have hB2 := Aside0.mk hB
  clear hB
  go_wp2
  go_ret
  exact ⟨rfl, hB1.out.trans (hB2.out.mono hB1.out.size)⟩
theorem lockgatelaw01_PackNil.eight_nil (m : Int) (w : World) : Calls Try.prog 31 #[.pointer none, .int .i64 m] w fun e w' => e = .returned (.int .i64 0) ∧ Below w.heap.size w w' := by
  by_cases c : m < 0
  · have cb : decide (m < 0) = true := decide_eq_true c
    go_enter Try.func31, Try.ntmps31
    go_wp2_with fail
    refine (lockgatelaw01_PackNil.number_nil 8 _).mono ?_
    rintro e w1 ⟨rfl, hB⟩
    have hB1 := Aside0.mk hB
    clear hB
    go_wp2_with fail
    refine (lockgatelaw01_PackNil.take_nil (-1) _).mono ?_
    rintro e w2 ⟨rfl, hB⟩
    have hB2 := Aside0.mk hB
    clear hB
    go_wp2
    go_ret
    exact ⟨rfl, hB1.out.trans (hB2.out.mono hB1.out.size)⟩
  · have cb : decide (m < 0) = false := decide_eq_false c
    have cw : ¬ IntKind.u64.wrap m < 0 := by unfold IntKind.wrap; simp only [IntKind.signed, IntKind.bits, Bool.false_and, Bool.false_eq_true, if_false]; omega
    have cwb : decide (0 > IntKind.u64.wrap m) = false := decide_eq_false cw
    go_enter Try.func31, Try.ntmps31
    go_wp2_with fail
    refine (lockgatelaw01_PackNil.number_nil 8 _).mono ?_
    rintro e w1 ⟨rfl, hB⟩
    have hB1 := Aside0.mk hB
    clear hB
    go_wp2
    go_ret
    exact ⟨rfl, hB1.out⟩
def lockgatelaw01_PackNil.f (k : Nat) (a0 : Int) : Option Bool := (lockgatelaw01_awake.f).bind fun t => if t = true then some true else none
theorem lockgatelaw01_PackNil.calls (k : Nat) (a0 : Int) (r : Bool) (w : World) (h : lockgatelaw01_PackNil.f k a0 = some r) : Calls Try.prog 9 #[.int .i64 a0] w fun e w' => e = .returned (.bool r) ∧ Below w.heap.size w w' := by
  unfold lockgatelaw01_PackNil.f at h
  obtain ⟨t, ht, h⟩ := Option.bind_eq_some_iff.mp h
  by_cases c : t = true
  case neg => rw [if_neg c] at h; cases h
  rw [if_pos c] at h
  injection h with h
  subst h
  subst c
  have HA := Aside0.mk ht
  clear ht
  go_enter Try.func9, Try.ntmps9
  go_wp2_with fail
  refine (lockgatelaw01_awake.calls true _ HA.out).mono ?_
  rintro e w1 ⟨rfl, hb⟩
  have hI1 := Aside0.mk (IsS53.below (IsS53.new w w ⟨#[]⟩ false (Below.refl _ _)) hb)
  have HB1 := Aside0.mk (below_step (below_alloc (Below.refl w.heap.size w) _) hb)
  clear hb
  go_wp2_with fail
  refine (lockgatelaw01_PackNil.two_nil _).mono ?_
  rintro e w2 ⟨rfl, hb⟩
  have hI2 := Aside0.mk (IsS53.below hI1.out hb)
  have HB2 := Aside0.mk (below_step HB1.out hb)
  clear hb hI1 HB1
  go_wp2_with fail
  refine (lockgatelaw01_PackNil.four_nil _).mono ?_
  rintro e w3 ⟨rfl, hb⟩
  have hI3 := Aside0.mk (IsS53.below hI2.out hb)
  have HB3 := Aside0.mk (below_step HB2.out hb)
  clear hb hI2 HB2
  go_wp2_with fail
  refine (lockgatelaw01_PackNil.eight_nil a0 _).mono ?_
  rintro e w4 ⟨rfl, hb⟩
  have hI4 := Aside0.mk (IsS53.below hI3.out hb)
  have HB4 := Aside0.mk (below_step HB3.out hb)
  clear hb hI3 HB3
  go_wp2_with fail
  refine (lockgatelaw01_PackNil.text_nil _).mono ?_
  rintro e w5 ⟨rfl, hb⟩
  have hI5 := Aside0.mk (IsS53.below hI4.out hb)
  have HB5 := Aside0.mk (below_step HB4.out hb)
  clear hb hI4 HB4
  go_wp2_with fail
  refine (lockgatelaw01_PackNil.left_nil _).mono ?_
  rintro e w6 ⟨rfl, hb⟩
  have hI6 := Aside0.mk (IsS53.below hI5.out hb)
  have HB6 := Aside0.mk (below_step HB5.out hb)
  clear hb hI5 HB5
  go_wp2_with fail
  refine (lockgatelaw01_PackNil.end_nil _).mono ?_
  rintro e w7 ⟨rfl, hb⟩
  have hI7 := Aside0.mk (IsS53.below hI6.out hb)
  have HB7 := Aside0.mk (below_step HB6.out hb)
  clear hb hI6 HB6
  go_wp2_with fail
  refine (pack_Reader_End.calls _ ⟨#[]⟩ false 0 ⟨#[]⟩ false w _ hI7.out HB7.out (by decide +kernel)).mono ?_
  rintro e w8 ⟨rfl, hi, hb, _⟩
  have hI8 := Aside0.mk hi
  have HB8 := Aside0.mk hb
  clear hi hb hI7 HB7
  go_wp2_with fail
  refine (pack_Reader_Two.calls _ ⟨#[]⟩ false 0 ⟨#[]⟩ true w _ hI8.out HB8.out (by decide +kernel)).mono ?_
  rintro e w9 ⟨rfl, hi, hb, _⟩
  have hI9 := Aside0.mk hi
  have HB9 := Aside0.mk hb
  clear hi hb hI8 HB8
  go_wp2_with fail
  refine (pack_Reader_End.calls _ ⟨#[]⟩ true 10 ⟨#[]⟩ true w _ hI9.out HB9.out (by decide +kernel)).mono ?_
  rintro e w10 ⟨rfl, hi, hb, _⟩
  have hI10 := Aside0.mk hi
  have HB10 := Aside0.mk hb
  clear hi hb hI9 HB9
  go_wp2
  go_ret
  exact ⟨rfl, HB10.out⟩

end Go.Proofs.Ytfphaiobbpjpkaa.Q
