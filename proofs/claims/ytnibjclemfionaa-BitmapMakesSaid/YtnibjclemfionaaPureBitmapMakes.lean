/- Bitmaps are made and held right as the reference does it: the pure law of BitmapMakes, for every number and every text. -/
import Derived.Test.YtnibjclemfionaaQx1
import Derived.Test.YtnibjclemfionaaQx10
import Derived.Test.YtnibjclemfionaaBmL
import Derived.Test.YtnibjclemfionaaBmG
namespace Go.Proofs.Ytnibjclemfionaa.Pure
open Go.RowKit Go.Proofs.Ytnibjclemfionaa.Q Go.Proofs.Ytnibjclemfionaa.Bm Go.Proofs.YtnibjclemfionaaW.PrintWords Go.Proofs.YtnibjclemfionaaW.PrintLast Go.Proofs.YtnibjclemfionaaW.PrintMore
set_option linter.unusedVariables false
theorem right_new (n : Int) : rightB (zeros (need n)) n = (decide (0 ≤ n) && decide (n ≤ 4000)) := by
  unfold rightB
  rw [zeros_size, decide_eq_true rfl, (noneFrom_iff (zeros (need n)) n _).2 (fun i _ h => by rw [zeros_bit] at h; cases h)]
  simp
theorem stepA (a0 : Int) (hw : -9223372036854775808 ≤ a0 ∧ a0 ≤ 9223372036854775807) (s : ByteArray) (hle : s.size ≤ 100) (K : Nat) (hK : 9000 ≤ K) :
    ((bitmap_Right.f K s a0).bind fun t199 => (lockgateref03_Right.f K s a0).bind fun t200 => if (t199 == t200) = true then (bitmap_New.f a0).bind fun t201 => (bitmap_Right.f K t201 a0).bind fun t202 => if a0 ≥ 0 then some (t202 == decide (a0 ≤ 4000)) else some (t202 == false) else some false) = some true := by
  have hz := zeros_size (need a0)
  have hn := need_le a0
  rw [right_ok s (by omega) a0 K (by omega), rright_ok s (by omega) a0 K (by omega)]
  simp only [Option.bind_some, beq_self_eq_true, if_true]
  rw [new_ok]
  simp only [Option.bind_some]
  rw [right_ok (zeros (need a0)) (by omega) a0 K (by omega)]
  simp only [Option.bind_some]
  rw [right_new]
  by_cases h : a0 ≥ 0
  · rw [if_pos h, decide_eq_true (show 0 ≤ a0 from h)]; simp
  · rw [if_neg h, decide_eq_false (show ¬ 0 ≤ a0 from h)]; simp
theorem stepB (a0 : Int) (hw : -9223372036854775808 ≤ a0 ∧ a0 ≤ 9223372036854775807) (s : ByteArray) (hle : s.size ≤ 100) (K : Nat) (hK : 9000 ≤ K) (g : Int) (hg : g = 8 * (s.size : Int)) :
    ((bitmap_Len.f s).bind fun t198 => if t198 = g then ((bitmap_Right.f K s a0).bind fun t199 => (lockgateref03_Right.f K s a0).bind fun t200 => if (t199 == t200) = true then (bitmap_New.f a0).bind fun t201 => (bitmap_Right.f K t201 a0).bind fun t202 => if a0 ≥ 0 then some (t202 == decide (a0 ≤ 4000)) else some (t202 == false) else some false) else some false) = some true := by
  rw [len_ok s (by omega)]
  simp only [Option.bind_some]
  rw [← hg, if_pos (Eq.refl g)]
  exact stepA a0 hw s hle K hK
theorem BitmapMakes : lockgatelaw03_BitmapMakes.Pure := by
  intro a0 a1 w0 ha
  have hw := wf_i64 w0
  obtain ⟨K, hK⟩ : ∃ K : Nat, 9000 ≤ K := ⟨9000, Nat.le_refl _⟩
  refine ⟨K, ?_⟩
  obtain ⟨s, hs, hle⟩ : ∃ s, lockgatelaw03_short.f a1 = some s ∧ s.size ≤ 100 := ⟨_, short_ok a1 ha, shorten_size a1⟩
  have e1 := awake_ok K (by omega)
  have e2 := new_ok a0
  have e3 := rnew_ok a0 K (by omega)
  unfold lockgatelaw03_BitmapMakes.f
  rw [e1, hs]
  simp only [Option.bind_some, if_true]
  rw [e3]
  conv => lhs; arg 1; rw [e2]
  simp only [Option.bind_some]
  rw [if_pos trivial]
  exact stepB a0 hw s hle K hK (wrap64 (8 * (s.size : Int))) (w64 (by omega) (by omega))
end Go.Proofs.Ytnibjclemfionaa.Pure
