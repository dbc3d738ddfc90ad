-- Written by rows2.py (a program of this repo) for this seat: how the laws' records and arrays are opened.
import Derived.Test.YtehnbbabjnibkaaQx0
import Derived.Test.YtehnbbabjnibkaaOpenC
namespace Go.Proofs.Ytehnbbabjnibkaa.Q
open Go.RowKit Go.Proofs.YtehnbbabjnibkaaW.PrintWords Go.Proofs.YtehnbbabjnibkaaW.PrintLast Go.Proofs.YtehnbbabjnibkaaW.PrintMore
set_option linter.unusedVariables false
set_option maxRecDepth 100000
theorem cellsOf_3 : Try.prog.cellsOf 3 = 1 := by kernel_rfl
theorem bytes_3 : Try.prog.bytesOf 3 = 8 := by kernel_rfl
theorem cells_23 {H : Type} {enc : TypeId × Value → H} {w : World} : OpenC.OpensL enc Try.prog w 23 (fun cs => ∃ (f_0 : Int) (f_1 : Int) (f_2 : Int) (f_3 : Int), cs = [.int .i64 f_0, .int .i64 f_1, .int .i64 f_2, .int .i64 f_3] ∧ (Lit.int .i64 f_0).wf = true ∧ (Lit.int .i64 f_1).wf = true ∧ (Lit.int .i64 f_2).wf = true ∧ (Lit.int .i64 f_3).wf = true ∧ True) := by
  intro base spare held fuel cs y h hw
  obtain ⟨hl, p0, p1, p2, p3, -⟩ := OpenC.opensL_fields (Qs := [(fun cs => ∃ x, Kd.K (Kd.int .i64) w x cs ∧ (Lit.int .i64 x).wf = true), (fun cs => ∃ x, Kd.K (Kd.int .i64) w x cs ∧ (Lit.int .i64 x).wf = true), (fun cs => ∃ x, Kd.K (Kd.int .i64) w x cs ∧ (Lit.int .i64 x).wf = true), (fun cs => ∃ x, Kd.K (Kd.int .i64) w x cs ∧ (Lit.int .i64 x).wf = true)]) Try.underlying23 ⟨(OpenC.opens_int Try.underlying3).toL, (OpenC.opens_int Try.underlying3).toL, (OpenC.opens_int Try.underlying3).toL, (OpenC.opens_int Try.underlying3).toL, trivial⟩ base spare held fuel cs y h hw
  obtain ⟨q_0, q_1, q_2, q_3, rfl⟩ := OpenC.list_four (hl.trans (by kernel_rfl))
  obtain ⟨f_0, e_, hG_0⟩ := p0
  (try dsimp only at e_)
  rw [cellsOf_3] at e_
  have e_ : [q_0] = [.int .i64 f_0] := e_
  simp only [List.cons.injEq, and_true] at e_
  obtain rfl := e_
  obtain ⟨f_1, e_, hG_1⟩ := p1
  (try dsimp only at e_)
  rw [cellsOf_3] at e_
  have e_ : [q_1] = [.int .i64 f_1] := e_
  simp only [List.cons.injEq, and_true] at e_
  obtain rfl := e_
  obtain ⟨f_2, e_, hG_2⟩ := p2
  (try dsimp only at e_)
  rw [cellsOf_3] at e_
  have e_ : [q_2] = [.int .i64 f_2] := e_
  simp only [List.cons.injEq, and_true] at e_
  obtain rfl := e_
  obtain ⟨f_3, e_, hG_3⟩ := p3
  (try dsimp only at e_)
  rw [cellsOf_3] at e_
  have e_ : [q_3] = [.int .i64 f_3] := e_
  simp only [List.cons.injEq, and_true] at e_
  obtain rfl := e_
  exact ⟨f_0, f_1, f_2, f_3, rfl, hG_0, hG_1, hG_2, hG_3, trivial⟩
theorem cellsOf_9 : Try.prog.cellsOf 9 = 1 := by kernel_rfl
theorem bytes_9 : Try.prog.bytesOf 9 = 16 := by kernel_rfl
theorem cellsOf_30 : Try.prog.cellsOf 30 = 1 := by kernel_rfl
theorem bytes_30 : Try.prog.bytesOf 30 = 24 := by kernel_rfl
theorem cells_32 {H : Type} {enc : TypeId × Value → H} {w : World} : OpenC.OpensL enc Try.prog w 32 (fun cs => ∃ (f_0 : Int) (f_1 : Int) (A_2 : Option Addr) (c_2 : Nat) (l_2 : List Int), cs = [.int .i64 f_0, .int .i64 f_1, .slice A_2 l_2.length c_2] ∧ (Lit.int .i64 f_0).wf = true ∧ (Lit.int .i64 f_1).wf = true ∧ l_2.length ≤ c_2 ∧ Kd.C (Kd.int .i64) w A_2 l_2.length l_2 ∧ (List.length l_2 ≤ maxLen ∧ List.length l_2 * 8 ≤ 140737488351232 ∧ ∀ y1 ∈ l_2, (Lit.int .i64 y1).wf = true) ∧ True) := by
  intro base spare held fuel cs y h hw
  obtain ⟨hl, p0, p1, p2, -⟩ := OpenC.opensL_fields (Qs := [(fun cs => ∃ x, Kd.K (Kd.int .i64) w x cs ∧ (Lit.int .i64 x).wf = true), (fun cs => ∃ x, Kd.K (Kd.int .i64) w x cs ∧ (Lit.int .i64 x).wf = true), (fun cs => ∃ x, Kd.K (Kd.slice 3 (Kd.int .i64)) w x cs ∧ (List.length x ≤ maxLen ∧ List.length x * 8 ≤ 140737488351232 ∧ ∀ y1 ∈ x, (Lit.int .i64 y1).wf = true))]) Try.underlying32 ⟨(OpenC.opens_int Try.underlying3).toL, (OpenC.opens_int Try.underlying3).toL, (OpenC.opens_slice_b Try.underlying30 (by kernel_rfl) bytes_3 (OpenC.opens_int Try.underlying3)).toL, trivial⟩ base spare held fuel cs y h hw
  obtain ⟨q_0, q_1, q_2, rfl⟩ := OpenC.list_three (hl.trans (by kernel_rfl))
  obtain ⟨f_0, e_, hG_0⟩ := p0
  (try dsimp only at e_)
  rw [cellsOf_3] at e_
  have e_ : [q_0] = [.int .i64 f_0] := e_
  simp only [List.cons.injEq, and_true] at e_
  obtain rfl := e_
  obtain ⟨f_1, e_, hG_1⟩ := p1
  (try dsimp only at e_)
  rw [cellsOf_3] at e_
  have e_ : [q_1] = [.int .i64 f_1] := e_
  simp only [List.cons.injEq, and_true] at e_
  obtain rfl := e_
  obtain ⟨l_2, ⟨A_2, c_2, e_, hl_2, hC_2⟩, hG_2⟩ := p2
  (try dsimp only at e_)
  rw [cellsOf_30] at e_
  have e_ : [q_2] = [.slice A_2 l_2.length c_2] := e_
  simp only [List.cons.injEq, and_true] at e_
  obtain rfl := e_
  exact ⟨f_0, f_1, A_2, c_2, l_2, rfl, hG_0, hG_1, hl_2, hC_2, hG_2, trivial⟩
theorem opens_k32 {H : Type} {enc : TypeId × Value → H} {w : World} : OpenC.Opens enc Try.prog w k32 32 (fun x => ((Lit.int .i64 x.f0).wf = true ∧ (Lit.int .i64 x.f1).wf = true ∧ (List.length x.f2 ≤ maxLen ∧ List.length x.f2 * 8 ≤ 140737488351232 ∧ ∀ y1 ∈ x.f2, (Lit.int .i64 y1).wf = true))) := by
  intro base spare held fuel cs y h hw
  obtain ⟨f_0, f_1, A_2, c_2, l_2, rfl, hG_0, hG_1, hl_2, hC_2, hG_2, -⟩ := cells_32 base spare held fuel cs y h hw
  exact ⟨(⟨f_0, f_1, l_2⟩ : S32), k32_mk w _ hl_2 hC_2, ⟨hG_0, hG_1, hG_2⟩⟩
theorem cellsOf_32 : Try.prog.cellsOf 32 = 3 := by kernel_rfl
theorem bytes_32 : Try.prog.bytesOf 32 = 40 := by kernel_rfl
end Go.Proofs.Ytehnbbabjnibkaa.Q
