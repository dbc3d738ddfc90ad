-- Written by mp.py (a program of this repo, over the print) for this seat: functions, contracts, walks.
import Derived.Test.YtkfloghdnklakaaQx0
namespace Go.Proofs.Ytkfloghdnklakaa.Q
open Go.RowKit Go.Proofs.YtkfloghdnklakaaW.PrintWords Go.Proofs.YtkfloghdnklakaaW.PrintLast Go.Proofs.YtkfloghdnklakaaW.PrintMore
attribute [local go_sem] max2_int min2_int max_two min_two max_three min_three max_four min_four   -- for this text's walks alone
set_option linter.unusedVariables false
set_option linter.unusedSimpArgs false

theorem eqi_nil_32 {P : Program} {w : World} (d : Nat) (e : TypeId) (n : Nat) (xs ys : Array Value) : (Op.eqItems d e n xs ys []).run P w = .ok true w := by simp [Op.eqItems]
theorem eqi_cons_32 {P : Program} {w : World} {d : Nat} {e : TypeId} {n j : Nat} {xs ys : Array Value} {js : List Nat} {a b : Value} {r s : Bool} (ha : (part e xs (j * n)).run P w = .ok a w) (hb : (part e ys (j * n)).run P w = .ok b w)
    (he : (Op.equalIn d e a b).run P w = .ok r w) (hr : (Op.eqItems d e n xs ys js).run P w = .ok s w) : (Op.eqItems d e n xs ys (j :: js)).run P w = .ok (r && s) w := by
  simp only [Op.eqItems, Sem.run_bind, ha, hb, he, Result.andThen_ok]
  cases r
  · simp
  · simpa using hr
theorem eqA32 (d : Nat) (w : World) (x0 y0 x1 y1 : Int) :
    (Op.equalIn (d + 2) 32 (.agg #[.int .i64 x0, .int .i64 x1]) (.agg #[.int .i64 y0, .int .i64 y1])).run Try.prog w = .ok (x0 == y0 && (x1 == y1)) w := by
  have hi : (Try.prog.info? 3).isSome = true := by kernel_rfl
  obtain ⟨i, hi⟩ := Option.isSome_iff_exists.1 hi
  rw [run_equalIn_array w (d + 1) _ _ Try.underlying32 hi, show Try.prog.cellsOf 3 = 1 by kernel_rfl, show List.range 2 = [0, 1] from rfl]
  have h := (eqi_cons_32 (P := Try.prog) (w := w) (r := x0 == y0) (d := d + 1) (e := 3) (n := 1) (j := 0) (xs := #[.int .i64 x0, .int .i64 x1]) (ys := #[.int .i64 y0, .int .i64 y1]) (by go_simp; rfl) (by go_simp; rfl) (by go_simp) (eqi_cons_32 (P := Try.prog) (w := w) (r := x1 == y1) (d := d + 1) (e := 3) (n := 1) (j := 1) (xs := #[.int .i64 x0, .int .i64 x1]) (ys := #[.int .i64 y0, .int .i64 y1]) (by go_simp; rfl) (by go_simp; rfl) (by go_simp) (eqi_nil_32 _ _ _ _ _)))
  rw [Bool.and_true] at h
  exact h

end Go.Proofs.Ytkfloghdnklakaa.Q
