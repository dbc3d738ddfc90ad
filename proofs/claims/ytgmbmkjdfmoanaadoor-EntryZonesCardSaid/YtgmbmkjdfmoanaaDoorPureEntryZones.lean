/- The zone of two texts put together is the sum of theirs, by rests: the pure law of EntryZones. -/
import Derived.Test.YtgmbmkjdfmoanaaDoorQx10
import Derived.Test.YtgmbmkjdfmoanaaDoorEnA
namespace Go.Proofs.YtgmbmkjdfmoanaaDoor.Pure
open Go.RowKit Go.Proofs.YtgmbmkjdfmoanaaDoor.Q Go.Proofs.YtgmbmkjdfmoanaaDoor.By Go.Proofs.YtgmbmkjdfmoanaaDoor.Bm Go.Proofs.YtgmbmkjdfmoanaaDoorW.PrintWords Go.Proofs.YtgmbmkjdfmoanaaDoorW.PrintLast Go.Proofs.YtgmbmkjdfmoanaaDoorW.PrintMore
set_option linter.unusedVariables false
theorem EntryZones : lockgatelaw15_EntryZones.Pure := by
  intro s t w0 w1
  obtain ⟨k, hk⟩ : ∃ k : Nat, 1000 ≤ k := ⟨1000, Nat.le_refl _⟩
  refine ⟨k, ?_⟩
  unfold lockgatelaw15_EntryZones.f
  rw [awake_ok k (by omega)]
  simp only [Option.bind_some]
  rw [show (100 : Int) = ((100 : Nat) : Int) from rfl, short_ok _ 100 w0, short_ok _ 100 w1]
  have hs := cutTo_size s 100
  have ht := cutTo_size t 100
  generalize cutTo s 100 = s at hs
  generalize cutTo t 100 = t at ht
  simp only [Option.bind_some]
  have z1 := app_size s t
  have z2 := app_size t s
  rw [if_pos (by omega), zone_ok (s ++ t) (by omega) k (by omega)]
  simp only [Option.bind_some, if_true]
  rw [zone_ok s (by omega) k (by omega), zone_ok t (by omega) k (by omega)]
  simp only [Option.bind_some]
  rw [zone_ok (t ++ s) (by omega) k (by omega)]
  simp only [Option.bind_some]
  rw [sumB_app, sumB_app, w64 (by omega) (by omega), Int.tmod_eq_emod_of_nonneg (by omega), if_pos (by omega), if_pos (by omega), if_pos (by omega), if_pos (by omega), Int.add_comm (sumB t) (sumB s)]
  simp
end Go.Proofs.YtgmbmkjdfmoanaaDoor.Pure
