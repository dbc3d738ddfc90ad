-- Written by rows2.py (a program of this repo) for this seat: how the laws' records and arrays are opened.
import Derived.Test.YtkfloghdnklakaaQx0
import Derived.Test.YtkfloghdnklakaaOpenC
namespace Go.Proofs.Ytkfloghdnklakaa.Q
open Go.RowKit Go.Proofs.YtkfloghdnklakaaW.PrintWords Go.Proofs.YtkfloghdnklakaaW.PrintLast Go.Proofs.YtkfloghdnklakaaW.PrintMore
set_option linter.unusedVariables false
set_option maxRecDepth 100000
theorem cellsOf_3 : Try.prog.cellsOf 3 = 1 := by kernel_rfl
theorem bytes_3 : Try.prog.bytesOf 3 = 8 := by kernel_rfl
theorem cells_32 {H : Type} {enc : TypeId × Value → H} {w : World} : OpenC.OpensL enc Try.prog w 32 (fun cs => ∃ (f_0 : Int) (f_1 : Int), cs = [.int .i64 f_0, .int .i64 f_1] ∧ (Lit.int .i64 f_0).wf = true ∧ (Lit.int .i64 f_1).wf = true ∧ True) := by
  intro base spare held fuel cs y h hw
  obtain ⟨hl, pa⟩ := OpenC.opensL_array Try.underlying32 (OpenC.opens_int Try.underlying3).toL base spare held fuel cs y h hw
  have p0 := pa 0 (by decide)
  have p1 := pa 1 (by decide)
  obtain ⟨c_0, c_1, rfl⟩ := OpenC.list_two (hl.trans (by kernel_rfl))
  rw [cellsOf_3] at p0
  obtain ⟨f_0, e_, hG_0⟩ := p0
  (try dsimp only at e_)
  have e_ : [c_0] = [.int .i64 f_0] := e_
  simp only [List.cons.injEq, and_true] at e_
  obtain rfl := e_
  rw [cellsOf_3] at p1
  obtain ⟨f_1, e_, hG_1⟩ := p1
  (try dsimp only at e_)
  have e_ : [c_1] = [.int .i64 f_1] := e_
  simp only [List.cons.injEq, and_true] at e_
  obtain rfl := e_
  exact ⟨f_0, f_1, rfl, hG_0, hG_1, trivial⟩
theorem cells_24 {H : Type} {enc : TypeId × Value → H} {w : World} : OpenC.OpensL enc Try.prog w 24 (fun cs => ∃ (f_0 : Int) (f_1 : Int) (f_2 : Int) (f_3 : Int), cs = [.int .i64 f_0, .int .i64 f_1, .int .i64 f_2, .int .i64 f_3] ∧ (Lit.int .i64 f_0).wf = true ∧ (Lit.int .i64 f_1).wf = true ∧ (Lit.int .i64 f_2).wf = true ∧ (Lit.int .i64 f_3).wf = true ∧ True) := by
  intro base spare held fuel cs y h hw
  obtain ⟨hl, p0, p1, p2, p3, -⟩ := OpenC.opensL_fields (Qs := [(fun cs => ∃ x, Kd.K (Kd.int .i64) w x cs ∧ (Lit.int .i64 x).wf = true), (fun cs => ∃ x, Kd.K (Kd.int .i64) w x cs ∧ (Lit.int .i64 x).wf = true), (fun cs => ∃ x, Kd.K (Kd.int .i64) w x cs ∧ (Lit.int .i64 x).wf = true), (fun cs => ∃ x, Kd.K (Kd.int .i64) w x cs ∧ (Lit.int .i64 x).wf = true)]) Try.underlying24 ⟨(OpenC.opens_int Try.underlying3).toL, (OpenC.opens_int Try.underlying3).toL, (OpenC.opens_int Try.underlying3).toL, (OpenC.opens_int Try.underlying3).toL, trivial⟩ base spare held fuel cs y h hw
  obtain ⟨c_0, c_1, c_2, c_3, rfl⟩ := OpenC.list_four (hl.trans (by kernel_rfl))
  obtain ⟨f_0, e_, hG_0⟩ := p0
  (try dsimp only at e_)
  rw [cellsOf_3] at e_
  have e_ : [c_0] = [.int .i64 f_0] := e_
  simp only [List.cons.injEq, and_true] at e_
  obtain rfl := e_
  obtain ⟨f_1, e_, hG_1⟩ := p1
  (try dsimp only at e_)
  rw [cellsOf_3] at e_
  have e_ : [c_1] = [.int .i64 f_1] := e_
  simp only [List.cons.injEq, and_true] at e_
  obtain rfl := e_
  obtain ⟨f_2, e_, hG_2⟩ := p2
  (try dsimp only at e_)
  rw [cellsOf_3] at e_
  have e_ : [c_2] = [.int .i64 f_2] := e_
  simp only [List.cons.injEq, and_true] at e_
  obtain rfl := e_
  obtain ⟨f_3, e_, hG_3⟩ := p3
  (try dsimp only at e_)
  rw [cellsOf_3] at e_
  have e_ : [c_3] = [.int .i64 f_3] := e_
  simp only [List.cons.injEq, and_true] at e_
  obtain rfl := e_
  exact ⟨f_0, f_1, f_2, f_3, rfl, hG_0, hG_1, hG_2, hG_3, trivial⟩
theorem cells_38 {H : Type} {enc : TypeId × Value → H} {w : World} : OpenC.OpensL enc Try.prog w 38 (fun cs => ∃ (f_0 : Int) (f_1 : Int) (f_2 : Int), cs = [.int .i64 f_0, .int .i64 f_1, .int .i64 f_2] ∧ (Lit.int .i64 f_0).wf = true ∧ (Lit.int .i64 f_1).wf = true ∧ (Lit.int .i64 f_2).wf = true ∧ True) := by
  intro base spare held fuel cs y h hw
  obtain ⟨hl, pa⟩ := OpenC.opensL_array Try.underlying38 (OpenC.opens_int Try.underlying3).toL base spare held fuel cs y h hw
  have p0 := pa 0 (by decide)
  have p1 := pa 1 (by decide)
  have p2 := pa 2 (by decide)
  obtain ⟨c_0, c_1, c_2, rfl⟩ := OpenC.list_three (hl.trans (by kernel_rfl))
  rw [cellsOf_3] at p0
  obtain ⟨f_0, e_, hG_0⟩ := p0
  (try dsimp only at e_)
  have e_ : [c_0] = [.int .i64 f_0] := e_
  simp only [List.cons.injEq, and_true] at e_
  obtain rfl := e_
  rw [cellsOf_3] at p1
  obtain ⟨f_1, e_, hG_1⟩ := p1
  (try dsimp only at e_)
  have e_ : [c_1] = [.int .i64 f_1] := e_
  simp only [List.cons.injEq, and_true] at e_
  obtain rfl := e_
  rw [cellsOf_3] at p2
  obtain ⟨f_2, e_, hG_2⟩ := p2
  (try dsimp only at e_)
  have e_ : [c_2] = [.int .i64 f_2] := e_
  simp only [List.cons.injEq, and_true] at e_
  obtain rfl := e_
  exact ⟨f_0, f_1, f_2, rfl, hG_0, hG_1, hG_2, trivial⟩
end Go.Proofs.Ytkfloghdnklakaa.Q
