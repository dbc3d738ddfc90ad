/- Lists are measured and written, and any bytes read, as the reference says; what was written is read again: the pure law of EntryBytes. -/
import Derived.Test.YtgmbmkjdfmoanaaDoorEnT
import Derived.Test.YtgmbmkjdfmoanaaDoorSayEntryBytes
namespace Go.Proofs.YtgmbmkjdfmoanaaDoor.Pure
open Go.RowKit Go.Proofs.YtgmbmkjdfmoanaaDoor.Q Go.Proofs.YtgmbmkjdfmoanaaDoor.By Go.Proofs.YtgmbmkjdfmoanaaDoor.Bm Go.Proofs.YtgmbmkjdfmoanaaDoorW.PrintWords Go.Proofs.YtgmbmkjdfmoanaaDoorW.PrintLast Go.Proofs.YtgmbmkjdfmoanaaDoorW.PrintMore
set_option linter.unusedVariables false
theorem bytes_gen (k : Nat) (l L : List S43) (s S A : ByteArray) (e f z : Int) (R : List S43) (h0 : lockgatelaw15_awake.f (k + 1) = some true) (h1 : lockgatelaw15_few.f (k + 1) l = some L) (h2 : lockgatelaw15_short.f s 400 = some S)
    (h3 : entry_Bytes.f (k + 1) L = some (A, e)) (h4 : lockgateref15_Bytes.f (k + 1) L = some (A, e)) (h5 : entry_Read.f (k + 1) S = some (R, f)) (h6 : lockgateref15_Read.f (k + 1) S = some (R, f)) (h7 : lockgateref15_Same.f (k + 1) R R = some true)
    (h8 : entry_Size.f (k + 1) L = some z) (h9 : lockgateref15_Size.f (k + 1) L = some z) (hj : e = 0 → entry_Read.f k A = some (L, 0) ∧ lockgateref15_Same.f k L L = some true ∧ entry_Size.f k L = some z ∧ (A.size : Int) = z) :
    lockgatelaw15_EntryBytes.f (k + 1) l s = some true := by
  unfold lockgatelaw15_EntryBytes.f
  rw [h0, Option.bind_some, h1, Option.bind_some, h2, Option.bind_some, h3, Option.bind_some, h4, Option.bind_some, h5, Option.bind_some, h6, Option.bind_some]
  dsimp only
  rw [h7, Option.bind_some, if_pos rfl, if_pos rfl, if_pos rfl, if_pos rfl, h8, Option.bind_some, h9, Option.bind_some, show (z != z) = false by simp, lockgatelaw15_EntryBytes.j0.eq_2, if_neg (by simp)]
  by_cases c : e = 0
  · obtain ⟨g1, g2, g3, g4⟩ := hj c
    rw [if_pos c, g1, Option.bind_some]
    dsimp only
    rw [g2, Option.bind_some, if_pos rfl, if_pos rfl, if_pos rfl, g3, Option.bind_some, g4, beq_self_eq_true]
  · rw [if_neg c]
theorem EntryBytes : lockgatelaw15_EntryBytes.Pure := by
  intro l s w0 w1
  obtain ⟨k, hk⟩ : ∃ k : Nat, 3000 ≤ k := ⟨3000, Nat.le_refl _⟩
  refine ⟨k + 1, ?_⟩
  have f1 := few_ok l (fun y hy => (w0.2.2 y hy).1) (k + 1) (by omega)
  obtain ⟨l1, l2⟩ := fewL_facts l
  generalize fewL l = L at f1 l1 l2
  have f2 := short_ok s 400 w1
  have hz := cutTo_size s 400
  rw [show (((400 : Nat)) : Int) = 400 from rfl] at f2
  generalize cutTo s 400 = S at f2 hz
  obtain ⟨⟨R, f⟩, r1, r2, r3⟩ := read2 S hz (k + 1) (by omega)
  have s1 := size2 L l1 l2 (k + 1) (by omega)
  have s2 := size2 L l1 l2 k (by omega)
  rcases bytes2 L l1 (k + 1) (by omega) with ⟨b1, b2, ok, hr⟩ | ⟨b1, b2⟩
  · refine bytes_gen k l L s S (catE L) 0 f _ R (awake_ok _ (by omega)) f1 f2 b1 b2 r1 r2 (same_self R r3 _ (by simp only at r3; omega)) s1.1 s1.2 (fun _ => ⟨?_, same_self L (by omega) k (by omega), s2.1, rfl⟩)
    have := read_cat L k [] (fun x hx => by obtain ⟨j, hj, rfl⟩ := List.mem_iff_getElem.1 hx; exact ok j hj) (by show 0 + L.length ≤ 30; omega) (by omega) hr
    unfold entry_Read.f pack_Read.f
    rw [Option.bind_some]
    exact this
  · exact bytes_gen k l L s S ⟨#[]⟩ 1 f _ R (awake_ok _ (by omega)) f1 f2 b1 b2 r1 r2 (same_self R r3 _ (by simp only at r3; omega)) s1.1 s1.2 (fun h => by cases h)
end Go.Proofs.YtgmbmkjdfmoanaaDoor.Pure
