/- Chapter 15: a text's parts between the slashes; what strings.Split and entry.Split tell. -/
import Derived.Test.YtgmbmkjdfmoanaaDoorQx2
import Derived.Test.YtgmbmkjdfmoanaaDoorQx3
import Derived.Test.YtgmbmkjdfmoanaaDoorEnA
namespace Go.Proofs.YtgmbmkjdfmoanaaDoor.By
open Go.RowKit Go.Proofs.YtgmbmkjdfmoanaaDoor.Bm Go.Proofs.YtgmbmkjdfmoanaaDoor.Q Go.Proofs.YtgmbmkjdfmoanaaDoorW.PrintWords Go.Proofs.YtgmbmkjdfmoanaaDoorW.PrintMore
set_option linter.unusedVariables false
def ba (l : List UInt8) : ByteArray := ⟨l.toArray⟩
theorem ba_data (l : List UInt8) : (ba l).data.toList = l := rfl
theorem ba_of (s : ByteArray) : ba s.data.toList = s := rfl
theorem ba_size (l : List UInt8) : (ba l).size = l.length := rfl
theorem ext_data (s : ByteArray) (a b : Nat) : (s.extract a b).data.toList = (s.data.toList.drop a).take (b - a) := by
  rw [ByteArray.data_extract, Array.toList_extract, List.extract_eq_take_drop]
theorem app_data (s t : ByteArray) : (s ++ t).data.toList = s.data.toList ++ t.data.toList := by rw [ByteArray.data_append, Array.toList_append]
theorem data_ext {s t : ByteArray} (h : s.data.toList = t.data.toList) : s = t := by
  rw [← ba_of s, ← ba_of t, h]
theorem size_data (s : ByteArray) : s.data.toList.length = s.size := by rw [Array.length_toList]; rfl
/-- What stands between the slashes. -/
def splitL : List UInt8 → List (List UInt8)
  | [] => [[]]
  | b :: t => if b = 47 then [] :: splitL t else match splitL t with
    | [] => [[b]]
    | h :: r => (b :: h) :: r
theorem splitL_cat (x t : List UInt8) (h : (47 : UInt8) ∉ x) : splitL (x ++ 47 :: t) = x :: splitL t := by
  induction x with
  | nil => simp [splitL]
  | cons b x ih =>
    have hb : ¬ b = 47 := fun e => h (by simp [e])
    have ih := ih (fun g => h (by simp [g]))
    rw [List.cons_append, splitL, if_neg hb, ih]
theorem splitL_one (x : List UInt8) (h : (47 : UInt8) ∉ x) : splitL x = [x] := by
  induction x with
  | nil => rfl
  | cons b x ih =>
    have hb : ¬ b = 47 := fun e => h (by simp [e])
    have ih := ih (fun g => h (by simp [g]))
    rw [splitL, if_neg hb, ih]
theorem first_slash (l : List UInt8) : ((47 : UInt8) ∉ l) ∨ ∃ x t, l = x ++ 47 :: t ∧ (47 : UInt8) ∉ x ∧ Go.Lib.indexByte l 47 = x.length := by
  induction l with
  | nil => left; simp
  | cons b l ih =>
    by_cases hb : b = 47
    · right
      subst hb
      exact ⟨[], l, rfl, by simp, by unfold Go.Lib.indexByte; simp⟩
    · rcases ih with h | ⟨x, t, rfl, hx, hi⟩
      · left
        intro g
        rcases List.mem_cons.1 g with g | g
        · exact hb g.symm
        · exact h g
      · right
        refine ⟨b :: x, t, rfl, ?_, ?_⟩
        · intro g
          rcases List.mem_cons.1 g with g | g
          · exact hb g.symm
          · exact hx g
        · unfold Go.Lib.indexByte
          rw [if_neg (by simpa using hb), hi, if_neg (by simp), List.length_cons]
          omega
theorem splitL_facts (n : Nat) : ∀ l : List UInt8, l.length ≤ n → (splitL l).length = l.count 47 + 1 ∧ ((splitL l).map List.length).sum + l.count 47 = l.length ∧ ∀ x ∈ splitL l, (47 : UInt8) ∉ x := by
  induction n with
  | zero =>
    intro l hl
    obtain rfl : l = [] := List.eq_nil_of_length_eq_zero (by omega)
    refine ⟨rfl, rfl, ?_⟩
    intro x hx
    simp [splitL] at hx
    simp [hx]
  | succ n ih =>
    intro l hl
    rcases first_slash l with h | ⟨x, t, rfl, hx, _⟩
    · rw [splitL_one l h]
      have hc : l.count 47 = 0 := List.count_eq_zero.2 h
      refine ⟨by simp [hc], by simp [hc], ?_⟩
      intro y hy
      simp at hy
      rwa [hy]
    · have hc : x.count 47 = 0 := List.count_eq_zero.2 hx
      rw [List.length_append, List.length_cons] at hl
      obtain ⟨a, b, c⟩ := ih t (by omega)
      rw [splitL_cat x t hx]
      refine ⟨?_, ?_, ?_⟩
      · rw [List.length_cons, a, List.count_append, hc, List.count_cons_self]; omega
      · rw [List.map_cons, List.sum_cons, List.count_append, hc, List.count_cons_self, List.length_append, List.length_cons]; omega
      · intro y hy
        rcases List.mem_cons.1 hy with hy | hy
        · rwa [hy]
        · exact c y hy
def parts (s : ByteArray) : List ByteArray := (splitL s.data.toList).map ba
theorem take_set_succ {α : Type} (l : List α) (i : Nat) (x : α) (h : i < l.length) : (l.set i x).take (i + 1) = l.take i ++ [x] := by
  have hl : i < (l.set i x).length := by rw [List.length_set]; exact h
  rw [List.take_succ_eq_append_getElem hl, List.getElem_set_self, List.take_set, List.set_eq_of_length_le (by rw [List.length_take]; omega)]
def slash : ByteArray := ⟨#[47]⟩
theorem slash_size : slash.size = 1 := rfl
theorem split_loop (B : ByteArray) (hB : B.size = 1) (hI : ∀ x, strings_Index.f x B = some (Go.Lib.indexByte x.data.toList 47)) (c : Nat) : ∀ (k : Nat) (x0 : ByteArray) (x9 : List ByteArray) (i : Nat), x0.data.toList.count 47 = c → x9.length = i + c + 1 → x9.length ≤ 1000000 → x0.size ≤ 1000000 → c < k →
    strings_genSplit.l0 k x0 B 0 ((i + c : Nat) : Int) x9 i = some (x9.take i ++ parts x0) := by
  induction c with
  | zero =>
    intro k x0 x9 i hc h9 h9' h0 hk
    obtain ⟨k, rfl⟩ : ∃ q, k = q + 1 := ⟨k - 1, by omega⟩
    rw [strings_genSplit.l0.eq_2, if_neg (by omega), w64 (x := (i : Int) + 1) (by omega) (by omega), if_pos (by omega), if_pos (by omega), if_pos (by omega), if_pos (by omega), Int.toNat_natCast, show ((i : Int) + 1).toNat = i + 1 by omega, take_set_succ _ _ _ (by omega)]
    unfold parts
    rw [splitL_one _ (List.count_eq_zero.1 hc)]
    rfl
  | succ c ih =>
    intro k x0 x9 i hc h9 h9' h0 hk
    obtain ⟨k, rfl⟩ : ∃ q, k = q + 1 := ⟨k - 1, by omega⟩
    rcases first_slash x0.data.toList with h | ⟨x, t, e, hx, hi⟩
    · have := List.count_eq_zero.2 h; omega
    · have hs := size_data x0
      rw [e, List.length_append, List.length_cons] at hs
      have hcx : x.count 47 = 0 := List.count_eq_zero.2 hx
      have hct : t.count 47 = c := by rw [e, List.count_append, hcx, List.count_cons_self] at hc; omega
      have e1 : x0.extract 0 x.length = ba x := data_ext (by rw [ext_data, e, ba_data, List.drop_zero, Nat.sub_zero, List.take_left'] <;> rfl)
      have e2 : x0.extract (x.length + 1) x0.size = ba t := by
        refine data_ext ?_
        rw [ext_data, e, ba_data, ← List.drop_drop, List.drop_left' rfl, List.drop_one, List.tail_cons, List.take_of_length_le (by omega)]
      have next := ih k (ba t) (x9.set i (ba x)) (i + 1) hct (by rw [List.length_set]; omega) (by rw [List.length_set]; omega) (by rw [ba_size]; omega) (by omega)
      rw [strings_genSplit.l0.eq_2, if_pos (by omega)]
      rw [hI, hi, Option.bind_some, hB, if_neg (by omega), w64 (x := (x.length : Int) + 0) (by omega) (by omega), w64 (x := (x.length : Int) + ((1 : Nat) : Int)) (by omega) (by omega), w64 (x := (i : Int) + 1) (by omega) (by omega), if_pos (by omega), if_pos (by omega), if_pos (by omega), if_pos (by omega), if_pos (by omega), if_pos (by omega),
        show ((x.length : Int) + ((1 : Nat) : Int)).toNat = x.length + 1 by omega, show ((x.length : Int) + 0).toNat = x.length by omega, Int.toNat_natCast, e1, e2, show (i : Int) + 1 = ((i + 1 : Nat) : Int) by omega, show ((i + (c + 1) : Nat) : Int) = ((i + 1 + c : Nat) : Int) by omega, next, take_set_succ _ _ _ (by omega), List.append_assoc]
      congr 2
      unfold parts
      rw [e, splitL_cat x t hx, ba_data]
      rfl
theorem split_gen (B : ByteArray) (hB : B.size = 1) (hne : ¬ B.toList = ([] : List UInt8)) (hI : ∀ x, strings_Index.f x B = some (Go.Lib.indexByte x.data.toList 47)) (hC : ∀ x, strings_Count.f x B = some ((x.data.toList.count 47 : Nat) : Int)) (s : ByteArray) (hs : s.size ≤ 100000) : ∀ k, s.size + 5 ≤ k → strings_Split.f k s B = some (parts s) := by
  intro k hk
  have hcl : s.data.toList.count 47 ≤ s.size := by rw [← size_data]; exact List.count_le_length
  unfold strings_Split.f strings_genSplit.f
  rw [if_neg (by omega), if_neg hne, if_pos (by omega), hC, Option.bind_some]
  obtain ⟨k, rfl⟩ : ∃ q, k = q + 1 := ⟨k - 1, by omega⟩
  obtain ⟨c, hc⟩ : ∃ c, c = s.data.toList.count 47 := ⟨_, rfl⟩
  rw [← hc] at hcl ⊢
  have hm : mn ((c : Int) + 1) ((s.size : Int) + 1) = (c : Int) + 1 := by unfold mn; split <;> omega
  rw [w64 (x := (c : Int) + 1) (by omega) (by omega), strings_genSplit.j0.eq_2, w64 (x := (s.size : Int) + 1) (by omega) (by omega), hm, w64 (x := (c : Int) + 1 - 1) (by omega) (by omega), if_pos (by omega), if_pos (by omega), show ((c : Int) + 1).toNat = c + 1 by omega]
  have := split_loop B hB hI c k s (List.replicate (c + 1) (⟨#[]⟩ : ByteArray)) 0 hc.symm (by rw [List.length_replicate]; omega) (by rw [List.length_replicate]; omega) (by omega) (by omega)
  rw [Nat.zero_add, show ((0 : Nat) : Int) = 0 from rfl] at this
  rw [show (c : Int) + 1 - 1 = (c : Int) by omega, this]
  rfl
theorem index_slash (x : ByteArray) : strings_Index.f x slash = some (Go.Lib.indexByte x.data.toList 47) := by
  unfold strings_Index.f; rw [if_pos (show slash = ⟨#[47]⟩ from rfl)]
theorem count_slash (x : ByteArray) : strings_Count.f x slash = some ((x.data.toList.count 47 : Nat) : Int) := by
  unfold strings_Count.f; rw [if_pos (show slash = ⟨#[47]⟩ from rfl)]; rfl
theorem split_ok (s : ByteArray) (hs : s.size ≤ 100000) : ∀ k, s.size + 5 ≤ k → strings_Split.f k s slash = some (parts s) :=
  split_gen slash slash_size (by decide +kernel) index_slash count_slash s hs
end Go.Proofs.YtgmbmkjdfmoanaaDoor.By
