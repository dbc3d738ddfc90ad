-- Written by rows2.py (a program of this repo) for this seat: how the laws' records and arrays are opened.
import Derived.Test.YtnibjclemfionaaQx0
import Derived.Test.YtnibjclemfionaaOpenC
namespace Go.Proofs.Ytnibjclemfionaa.Q
open Go.RowKit Go.Proofs.YtnibjclemfionaaW.PrintWords Go.Proofs.YtnibjclemfionaaW.PrintLast Go.Proofs.YtnibjclemfionaaW.PrintMore
set_option linter.unusedVariables false
set_option maxRecDepth 100000
theorem cellsOf_3 : Try.prog.cellsOf 3 = 1 := by kernel_rfl
theorem bytes_3 : Try.prog.bytesOf 3 = 8 := by kernel_rfl
theorem cells_28 {H : Type} {enc : TypeId × Value → H} {w : World} : OpenC.OpensL enc Try.prog w 28 (fun cs => ∃ (f_0 : Int) (f_1 : Int), cs = [.int .i64 f_0, .int .i64 f_1] ∧ (Lit.int .i64 f_0).wf = true ∧ (Lit.int .i64 f_1).wf = true ∧ True) := by
  intro base spare held fuel cs y h hw
  obtain ⟨hl, pa⟩ := OpenC.opensL_array Try.underlying28 (OpenC.opens_int Try.underlying3).toL base spare held fuel cs y h hw
  have p0 := pa 0 (by decide)
  have p1 := pa 1 (by decide)
  obtain ⟨c_0, c_1, rfl⟩ := OpenC.list_two (hl.trans (by kernel_rfl))
  rw [cellsOf_3] at p0
  obtain ⟨f_0, e_, hG_0⟩ := p0
  (try dsimp only at e_)
  have e_ : [c_0] = [.int .i64 f_0] := e_
  simp only [List.cons.injEq, and_true] at e_
  obtain rfl := e_
  rw [cellsOf_3] at p1
  obtain ⟨f_1, e_, hG_1⟩ := p1
  (try dsimp only at e_)
  have e_ : [c_1] = [.int .i64 f_1] := e_
  simp only [List.cons.injEq, and_true] at e_
  obtain rfl := e_
  exact ⟨f_0, f_1, rfl, hG_0, hG_1, trivial⟩
theorem cellsOf_4 : Try.prog.cellsOf 4 = 1 := by kernel_rfl
theorem bytes_4 : Try.prog.bytesOf 4 = 1 := by kernel_rfl
theorem cells_29 {H : Type} {enc : TypeId × Value → H} {w : World} : OpenC.OpensL enc Try.prog w 29 (fun cs => ∃ (f_0 : Bool) (f_1 : Bool), cs = [.bool f_0, .bool f_1] ∧ True ∧ True ∧ True) := by
  intro base spare held fuel cs y h hw
  obtain ⟨hl, pa⟩ := OpenC.opensL_array Try.underlying29 (OpenC.opens_bool Try.underlying4).toL base spare held fuel cs y h hw
  have p0 := pa 0 (by decide)
  have p1 := pa 1 (by decide)
  obtain ⟨c_0, c_1, rfl⟩ := OpenC.list_two (hl.trans (by kernel_rfl))
  rw [cellsOf_4] at p0
  obtain ⟨f_0, e_, hG_0⟩ := p0
  (try dsimp only at e_)
  have e_ : [c_0] = [.bool f_0] := e_
  simp only [List.cons.injEq, and_true] at e_
  obtain rfl := e_
  rw [cellsOf_4] at p1
  obtain ⟨f_1, e_, hG_1⟩ := p1
  (try dsimp only at e_)
  have e_ : [c_1] = [.bool f_1] := e_
  simp only [List.cons.injEq, and_true] at e_
  obtain rfl := e_
  exact ⟨f_0, f_1, rfl, hG_0, hG_1, trivial⟩
end Go.Proofs.Ytnibjclemfionaa.Q
