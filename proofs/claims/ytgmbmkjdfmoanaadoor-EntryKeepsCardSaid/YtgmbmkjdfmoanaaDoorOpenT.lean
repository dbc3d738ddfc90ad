-- Written by rows2.py (a program of this repo) for this seat: how the laws' records and arrays are opened.
import Derived.Test.YtgmbmkjdfmoanaaDoorQx0
import Derived.Test.YtgmbmkjdfmoanaaDoorOpenC
namespace Go.Proofs.YtgmbmkjdfmoanaaDoor.Q
open Go.RowKit Go.Proofs.YtgmbmkjdfmoanaaDoorW.PrintWords Go.Proofs.YtgmbmkjdfmoanaaDoorW.PrintLast Go.Proofs.YtgmbmkjdfmoanaaDoorW.PrintMore
set_option linter.unusedVariables false
set_option maxRecDepth 100000
theorem cellsOf_9 : Tryd.prog.cellsOf 9 = 1 := by kernel_rfl
theorem bytes_9 : Tryd.prog.bytesOf 9 = 16 := by kernel_rfl
theorem cellsOf_43 : Tryd.prog.cellsOf 43 = 2 := by kernel_rfl
theorem bytes_43 : Tryd.prog.bytesOf 43 = 24 := by kernel_rfl
theorem cellsOf_3 : Tryd.prog.cellsOf 3 = 1 := by kernel_rfl
theorem bytes_3 : Tryd.prog.bytesOf 3 = 8 := by kernel_rfl
theorem cells_43 {H : Type} {enc : TypeId × Value → H} {w : World} : OpenC.OpensL enc Tryd.prog w 43 (fun cs => ∃ (f_0 : ByteArray) (f_1 : Int), cs = [.string f_0, .int .i64 f_1] ∧ f_0.size ≤ 140737488351232 ∧ (Lit.int .i64 f_1).wf = true ∧ True) := by
  intro base spare held fuel cs y h hw
  obtain ⟨hl, p0, p1, -⟩ := OpenC.opensL_fields (Qs := [(fun cs => ∃ x, Kd.K Kd.string w x cs ∧ x.size ≤ 140737488351232), (fun cs => ∃ x, Kd.K (Kd.int .i64) w x cs ∧ (Lit.int .i64 x).wf = true)]) Tryd.underlying43 ⟨(OpenC.opens_string Tryd.underlying9).toL, (OpenC.opens_int Tryd.underlying3).toL, trivial⟩ base spare held fuel cs y h hw
  obtain ⟨q_0, q_1, rfl⟩ := OpenC.list_two (hl.trans (by kernel_rfl))
  obtain ⟨f_0, e_, hG_0⟩ := p0
  (try dsimp only at e_)
  rw [cellsOf_9] at e_
  have e_ : [q_0] = [.string f_0] := e_
  simp only [List.cons.injEq, and_true] at e_
  obtain rfl := e_
  obtain ⟨f_1, e_, hG_1⟩ := p1
  (try dsimp only at e_)
  rw [cellsOf_3] at e_
  have e_ : [q_1] = [.int .i64 f_1] := e_
  simp only [List.cons.injEq, and_true] at e_
  obtain rfl := e_
  exact ⟨f_0, f_1, rfl, hG_0, hG_1, trivial⟩
theorem opens_k43 {H : Type} {enc : TypeId × Value → H} {w : World} : OpenC.Opens enc Tryd.prog w k43 43 (fun x => (x.f0.size ≤ 140737488351232 ∧ (Lit.int .i64 x.f1).wf = true)) := by
  intro base spare held fuel cs y h hw
  obtain ⟨f_0, f_1, rfl, hG_0, hG_1, -⟩ := cells_43 base spare held fuel cs y h hw
  exact ⟨(⟨f_0, f_1⟩ : S43), k43_mk w _ , ⟨hG_0, hG_1⟩⟩
end Go.Proofs.YtgmbmkjdfmoanaaDoor.Q
