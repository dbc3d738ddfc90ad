/- Chapter 15: how many bytes a list has, the program's and the reference's answer; a list is the same as itself. -/
import Derived.Test.YtgmbmkjdfmoanaaDoorQx11
import Derived.Test.YtgmbmkjdfmoanaaDoorQx15
import Derived.Test.YtgmbmkjdfmoanaaDoorEnB
namespace Go.Proofs.YtgmbmkjdfmoanaaDoor.By
open Go.RowKit Go.Proofs.YtgmbmkjdfmoanaaDoor.Bm Go.Proofs.YtgmbmkjdfmoanaaDoor.Q Go.Proofs.YtgmbmkjdfmoanaaDoorW.PrintWords Go.Proofs.YtgmbmkjdfmoanaaDoorW.PrintMore
set_option linter.unusedVariables false
theorem size_loop (m : List S43) (hl : m.length ≤ 30) (hs : ∀ e ∈ m, e.f0.size ≤ 60) (d : Nat) : ∀ (k i : Nat), i + d = m.length → d < k →
    entry_Size.l0 k ((catE (m.take i)).size : Int) m m.length i = some ((catE m).size : Int) ∧ lockgateref15_Size.l0 k m ((catE (m.take i)).size : Int) i = some ((catE m).size : Int) := by
  induction d with
  | zero =>
    intro k i hi hk
    obtain ⟨k, rfl⟩ : ∃ q, k = q + 1 := ⟨k - 1, by omega⟩
    rw [entry_Size.l0.eq_2, if_neg (by omega), lockgateref15_Size.l0.eq_2, if_neg (by omega), List.take_of_length_le (by omega)]
    exact ⟨rfl, rfl⟩
  | succ d ih =>
    intro k i hi hk
    obtain ⟨k, rfl⟩ : ∃ q, k = q + 1 := ⟨k - 1, by omega⟩
    have next := ih k (i + 1) (by omega) (by omega)
    have hli : i < m.length := by omega
    have h1 := hs _ (List.getElem_mem hli)
    have hz := catE_size (m.take i) (fun e he => hs e (List.mem_of_mem_take he))
    rw [List.length_take] at hz
    rw [List.take_succ_eq_append_getElem hli, catE_snoc, app_size, encE_size] at next
    rw [entry_Size.l0.eq_2, if_pos (by omega), if_pos (by omega), if_pos (by omega), lockgateref15_Size.l0.eq_2, if_pos (by omega), if_pos (by omega), rd_getE m i hli]
    generalize m[i] = e at h1 next ⊢
    generalize (catE (m.take i)).size = C at hz next ⊢
    rw [w64 (x := (e.f0.size : Int) + 6) (by omega) (by omega), w64 (x := (C : Int) + ((e.f0.size : Int) + 6)) (by omega) (by omega), w64 (x := (C : Int) + (e.f0.size : Int)) (by omega) (by omega), w64 (x := (C : Int) + (e.f0.size : Int) + 6) (by omega) (by omega), w64 (x := (i : Int) + 1) (by omega) (by omega),
      show (C : Int) + ((e.f0.size : Int) + 6) = ((C + (6 + e.f0.size) : Nat) : Int) by omega, show (C : Int) + (e.f0.size : Int) + 6 = ((C + (6 + e.f0.size) : Nat) : Int) by omega, show (i : Int) + 1 = ((i + 1 : Nat) : Int) by omega]
    exact next
theorem size2 (m : List S43) (hl : m.length ≤ 30) (hs : ∀ e ∈ m, e.f0.size ≤ 60) (k : Nat) (hk : 40 ≤ k) : entry_Size.f k m = some ((catE m).size : Int) ∧ lockgateref15_Size.f k m = some ((catE m).size : Int) := by
  have := size_loop m hl hs m.length k 0 (by omega) (by omega)
  rw [List.take_zero, show ((catE []).size : Int) = 0 from rfl, show ((0 : Nat) : Int) = 0 from rfl] at this
  exact this
theorem same_self_loop (l : List S43) (hl : l.length ≤ 1000) (d : Nat) : ∀ (k i : Nat), i + d = l.length → d < k → lockgateref15_Same.l0 k l l i = some true := by
  induction d with
  | zero =>
    intro k i hi hk
    obtain ⟨k, rfl⟩ : ∃ q, k = q + 1 := ⟨k - 1, by omega⟩
    rw [lockgateref15_Same.l0.eq_2, if_neg (by omega)]
  | succ d ih =>
    intro k i hi hk
    obtain ⟨k, rfl⟩ : ∃ q, k = q + 1 := ⟨k - 1, by omega⟩
    rw [lockgateref15_Same.l0.eq_2, if_pos (by omega), if_pos (by omega), if_pos (by omega), if_neg (by simp), w64 (x := (i : Int) + 1) (by omega) (by omega), show (i : Int) + 1 = ((i + 1 : Nat) : Int) by omega]
    exact ih k (i + 1) (by omega) (by omega)
theorem same_self (l : List S43) (hl : l.length ≤ 1000) (k : Nat) (hk : l.length + 1 ≤ k) : lockgateref15_Same.f k l l = some true := by
  unfold lockgateref15_Same.f
  rw [if_pos rfl]
  exact same_self_loop l hl l.length k 0 (by omega) (by omega)
end Go.Proofs.YtgmbmkjdfmoanaaDoor.By
