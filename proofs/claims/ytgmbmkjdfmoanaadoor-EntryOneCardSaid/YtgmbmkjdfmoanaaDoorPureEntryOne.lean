/- No two folder's lists have the same bytes: the pure law of EntryOne. -/
import Derived.Test.YtgmbmkjdfmoanaaDoorEnB
import Derived.Test.YtgmbmkjdfmoanaaDoorSayEntryOne
namespace Go.Proofs.YtgmbmkjdfmoanaaDoor.Pure
open Go.RowKit Go.Proofs.YtgmbmkjdfmoanaaDoor.Q Go.Proofs.YtgmbmkjdfmoanaaDoor.By Go.Proofs.YtgmbmkjdfmoanaaDoor.Bm Go.Proofs.YtgmbmkjdfmoanaaDoorW.PrintWords Go.Proofs.YtgmbmkjdfmoanaaDoorW.PrintLast Go.Proofs.YtgmbmkjdfmoanaaDoorW.PrintMore
set_option linter.unusedVariables false
theorem one_gen (k : Nat) (l m : List S43) (L M : List S43) (A B : ByteArray) (e f : Int) (b : Bool) (h0 : lockgatelaw15_awake.f k = some true) (h1 : lockgatelaw15_few.f k l = some L) (h2 : lockgatelaw15_few.f k m = some M)
    (h3 : entry_Bytes.f k L = some (A, e)) (h4 : entry_Bytes.f k M = some (B, f)) (h5 : lockgateref15_Same.f k L M = some b) (he : e ≠ 0 → A.toList = ([] : List UInt8)) (hf : f ≠ 0 → (B.toList == ([] : List UInt8)) = true) (hb : e = 0 → f = 0 → ((A.toList == B.toList) == b) = true) :
    lockgatelaw15_EntryOne.f k l m = some true := by
  unfold lockgatelaw15_EntryOne.f
  rw [h0, Option.bind_some, h1, Option.bind_some, h2, Option.bind_some, h3, Option.bind_some, h4, Option.bind_some]
  by_cases c1 : e = 0
  · rw [if_pos c1]
    by_cases c2 : f = 0
    · rw [if_pos c2, h5, Option.bind_some, if_pos rfl, hb c1 c2]
    · rw [if_neg c2, if_pos rfl, hf c2]
  · rw [if_neg c1, if_pos rfl, if_pos (he c1)]
    by_cases c2 : f = 0
    · rw [if_pos c2]
    · rw [if_neg c2, hf c2]
theorem EntryOne : lockgatelaw15_EntryOne.Pure := by
  intro l m w0 w1
  obtain ⟨k, hk⟩ : ∃ k : Nat, 100 ≤ k := ⟨100, Nat.le_refl _⟩
  refine ⟨k, ?_⟩
  have f1 := few_ok l (fun y hy => (w0.2.2 y hy).1) k (by omega)
  have f2 := few_ok m (fun y hy => (w1.2.2 y hy).1) k (by omega)
  obtain ⟨l1, l2⟩ := fewL_facts l
  obtain ⟨m1, m2⟩ := fewL_facts m
  generalize fewL l = L at f1 l1 l2
  generalize fewL m = M at f2 m1 m2
  obtain ⟨b, hb, hiff⟩ := same43 L M l1 m1 k (by omega)
  have nil1 : (⟨#[]⟩ : ByteArray).toList = ([] : List UInt8) := toList_nil.2 rfl
  have nil2 : ((⟨#[]⟩ : ByteArray).toList == ([] : List UInt8)) = true := by rw [nil1]; rfl
  have go : ∀ (A B : ByteArray) (e f : Int), entry_Bytes.f k L = some (A, e) → entry_Bytes.f k M = some (B, f) → (e ≠ 0 → A.toList = ([] : List UInt8)) → (f ≠ 0 → (B.toList == ([] : List UInt8)) = true) → (e = 0 → f = 0 → ((A.toList == B.toList) == b) = true) → lockgatelaw15_EntryOne.f k l m = some true :=
    fun A B e f h3 h4 he hf h => one_gen k l m L M A B e f b (awake_ok k (by omega)) f1 f2 h3 h4 hb he hf h
  rcases bytes_case L l1 l2 k (by omega) with ⟨e1, o1⟩ | e1
  · rcases bytes_case M m1 m2 k (by omega) with ⟨e2, o2⟩ | e2
    · refine go _ _ _ _ e1 e2 (fun h => absurd rfl h) (fun h => absurd rfl h) (fun _ _ => ?_)
      have hinj : catE L = catE M ↔ L = M := ⟨fun h => catE_inj L M (fun x hx => by obtain ⟨j, hj, rfl⟩ := List.mem_iff_getElem.1 hx; exact o1 j hj) (fun x hx => by obtain ⟨j, hj, rfl⟩ := List.mem_iff_getElem.1 hx; exact o2 j hj) h, fun h => by rw [h]⟩
      rw [beq_iff_eq, Bool.eq_iff_iff, hiff, ← hinj, beq_iff_eq]
      exact Bm.toList_ext
    · exact go _ _ _ _ e1 e2 (fun h => absurd rfl h) (fun _ => nil2) (fun _ h => by cases h)
  · rcases bytes_case M m1 m2 k (by omega) with ⟨e2, o2⟩ | e2
    · exact go _ _ _ _ e1 e2 (fun _ => nil1) (fun h => absurd rfl h) (fun h => by cases h)
    · exact go _ _ _ _ e1 e2 (fun _ => nil1) (fun _ => nil2) (fun h => by cases h)
end Go.Proofs.YtgmbmkjdfmoanaaDoor.Pure
