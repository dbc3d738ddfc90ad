/- Those that are told as taken rise, are taken, are as many as are counted, and a bitmap made of them is the same: the pure law of BitmapLists, for every text. -/
import Derived.Test.YtnibjclemfionaaQx1
import Derived.Test.YtnibjclemfionaaQx8
import Derived.Test.YtnibjclemfionaaBmL
import Derived.Test.YtnibjclemfionaaBmE
namespace Go.Proofs.Ytnibjclemfionaa.Pure
open Go.RowKit Go.Proofs.Ytnibjclemfionaa.Q Go.Proofs.Ytnibjclemfionaa.Bm Go.Proofs.YtnibjclemfionaaW.PrintWords Go.Proofs.YtnibjclemfionaaW.PrintLast Go.Proofs.YtnibjclemfionaaW.PrintMore
set_option linter.unusedVariables false
theorem taken_mem (s : ByteArray) (n : Nat) (x : Int) : x ∈ takenTo s n ↔ ∃ i : Nat, i < n ∧ bitOf s i = true ∧ x = i := by
  unfold takenTo
  rw [List.mem_map]
  constructor
  · rintro ⟨i, hi, rfl⟩
    rw [List.mem_filter, List.mem_range] at hi
    exact ⟨i, hi.1, hi.2, rfl⟩
  · rintro ⟨i, h1, h2, rfl⟩
    exact ⟨i, List.mem_filter.2 ⟨List.mem_range.2 h1, h2⟩, rfl⟩
theorem taken_rise (s : ByteArray) (n : Nat) : (takenTo s n).Pairwise (· < ·) := by
  induction n with
  | zero => exact List.Pairwise.nil
  | succ n ih =>
    rw [takenTo_succ]
    split
    · rw [List.pairwise_append]
      refine ⟨ih, List.pairwise_singleton _ _, fun a ha b hb => ?_⟩
      rw [taken_mem] at ha
      obtain ⟨i, h1, _, rfl⟩ := ha
      rw [List.mem_singleton] at hb
      omega
    · exact ih
theorem rd_at (l : List Int) (i : Nat) (h : i < l.length) : rd l i = l[i] := by
  unfold rd
  rw [Int.toNat_natCast, List.getD_eq_getElem?_getD, List.getElem?_eq_getElem h]; rfl
theorem lists (s : ByteArray) (hs : s.size ≤ 100) (d : Nat) : ∀ (k i : Nat) (t : ByteArray), t.size = s.size → i + d = (takenTo s (8 * s.size)).length → d + 200 < k →
    (∀ j, j < 8 * s.size → (bitOf t j = true ↔ (j : Int) ∈ (takenTo s (8 * s.size)).take i)) →
    lockgatelaw03_BitmapLists.l0 k s true (takenTo s (8 * s.size)) t i = some true := by
  have hl := takenTo_length s (8 * s.size)
  have hc := cnt_le s (8 * s.size)
  have hp := taken_rise s (8 * s.size)
  have hm := taken_mem s (8 * s.size)
  generalize takenTo s (8 * s.size) = L at hl hp hm
  induction d with
  | zero =>
    intro k i t ht hi hk hb
    obtain ⟨k, rfl⟩ : ∃ q, k = q + 1 := ⟨k - 1, by omega⟩
    simp only [lockgatelaw03_BitmapLists.l0]
    rw [if_neg (by omega), if_pos trivial, count_ok s (by omega) k (by omega)]
    simp only [Option.bind_some]
    rw [if_pos (by omega)]
    have : t = s := by
      refine bits_ext ht fun j hj => ?_
      rw [Bool.eq_iff_iff, hb j (by omega), List.take_of_length_le (by omega), hm]
      constructor
      · rintro ⟨q, _, h, e⟩
        obtain rfl : q = j := by omega
        exact h
      · intro h; exact ⟨j, by omega, h, rfl⟩
    rw [this]; simp
  | succ d ih =>
    intro k i t ht hi hk hb
    obtain ⟨k, rfl⟩ : ∃ q, k = q + 1 := ⟨k - 1, by omega⟩
    have hil : i < L.length := by omega
    obtain ⟨x, hx1, hx2, hx3⟩ := (hm L[i]).1 (List.getElem_mem hil)
    have ri : rd L i = (x : Int) := by rw [rd_at L i hil, hx3]
    have next := ih k (i + 1) (setBit t x true) (by rw [setBit_size]; exact ht) (by omega) (by omega) (fun j hj => by
      rw [setBit_bit t x true (by omega), List.take_succ_eq_append_getElem hil, List.mem_append, List.mem_singleton, hx3]
      by_cases e : j = x
      · rw [if_pos e]; simp [e]
      · rw [if_neg e, hb j hj]
        constructor
        · intro h; exact .inl h
        · rintro (h | h)
          · exact h
          · omega)
    simp only [lockgatelaw03_BitmapLists.l0]
    rw [if_pos (by omega), if_pos (by omega), ri, has_nat s (by omega), hx2]
    simp only [Option.bind_some, if_true]
    have st : bitmap_Set.f t x true = some (setBit t x true) := set_in t (by omega) x (by omega) true
    by_cases h0 : i = 0
    · rw [if_neg (by omega), st]
      simp only [Option.bind_some]
      rw [w64 (x := (i : Int) + 1) (by omega) (by omega)]
      exact next
    · have hpi : L[i - 1] < L[i] := List.pairwise_iff_getElem.1 hp (i - 1) i (by omega) hil (by omega)
      have r1 : rd L ((i : Int) - 1) = L[i - 1] := by rw [show (i : Int) - 1 = ((i - 1 : Nat) : Int) by omega, rd_at L (i - 1) (by omega)]
      rw [if_pos (by omega), w64 (x := (i : Int) - 1) (by omega) (by omega), if_pos (by omega), if_pos (by omega), r1, if_neg (by omega), st]
      simp only [Option.bind_some]
      rw [w64 (x := (i : Int) + 1) (by omega) (by omega)]
      exact next
theorem need_all (n : Nat) (hn : n ≤ 100) : need (8 * (n : Int)) = n := by unfold need; omega
theorem BitmapLists : lockgatelaw03_BitmapLists.Pure := by
  intro a0 ha
  obtain ⟨K, hK⟩ : ∃ K : Nat, 3000 ≤ K := ⟨3000, Nat.le_refl _⟩
  refine ⟨K, ?_⟩
  unfold lockgatelaw03_BitmapLists.f
  obtain ⟨s, hs, hle⟩ : ∃ s, lockgatelaw03_short.f a0 = some s ∧ s.size ≤ 100 := ⟨_, short_ok a0 ha, shorten_size a0⟩
  have hc := cnt_le s (8 * s.size)
  have hl := takenTo_length s (8 * s.size)
  rw [awake_ok K (by omega), hs]
  simp only [Option.bind_some]
  rw [each_ok s (by omega) K (by omega), w64 (x := 8 * (s.size : Int)) (by omega) (by omega), new_ok, need_all s.size hle]
  simp only [Option.bind_some]
  exact lists s hle (takenTo s (8 * s.size)).length K 0 (zeros s.size) (zeros_size _) (by omega) (by omega) (fun j hj => by rw [zeros_bit]; simp)
end Go.Proofs.Ytnibjclemfionaa.Pure
