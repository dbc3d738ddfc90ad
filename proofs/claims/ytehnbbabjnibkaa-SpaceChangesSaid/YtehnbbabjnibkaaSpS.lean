/- Chapter 17's laws take at most six maps, of 40 bytes at most. -/
import Derived.Test.YtehnbbabjnibkaaQx7
import Derived.Test.YtehnbbabjnibkaaSpA
namespace Go.Proofs.Ytehnbbabjnibkaa.Sp
open Go.RowKit Go.Proofs.Ytehnbbabjnibkaa.Q Go.Proofs.Ytehnbbabjnibkaa.Bm Go.Proofs.Ytehnbbabjnibkaa.Ly Go.Proofs.YtehnbbabjnibkaaW.PrintWords Go.Proofs.YtehnbbabjnibkaaW.PrintLast Go.Proofs.YtehnbbabjnibkaaW.PrintMore
set_option linter.unusedVariables false
def sh (s : ByteArray) : ByteArray := if 40 < s.size then s.extract 0 40 else s
theorem sh_size (s : ByteArray) : (sh s).size ≤ 40 := by
  unfold sh; split
  · rw [ByteArray.size_extract]; omega
  · omega
def smallM (l : List ByteArray) : List ByteArray := (l.take 6).map sh
theorem smallM_size (l : List ByteArray) : ∀ m ∈ smallM l, m.size ≤ 1000 := by
  intro m hm
  obtain ⟨x, _, rfl⟩ := List.mem_map.1 hm
  have := sh_size x
  omega
theorem smallM_len (l : List ByteArray) : (smallM l).length ≤ 6 := by unfold smallM; rw [List.length_map, List.length_take]; omega
theorem small_loop (l : List ByteArray) (hl : l.length ≤ 140737488351232) (m : Nat) (hm : m = min l.length 6) (d : Nat) : ∀ (k i : Nat), i + d = m → 2 * d + 2 < k → lockgatelaw17_small.l0 k l ((l.take i).map sh) i = some (smallM l) := by
  induction d with
  | zero =>
    intro k i hi hk
    obtain ⟨k, rfl⟩ : ∃ j, k = j + 2 := ⟨k - 2, by omega⟩
    have e : (l.take i).map sh = smallM l := by
      unfold smallM
      congr 1
      by_cases h : l.length ≤ 6
      · rw [List.take_of_length_le (by omega), List.take_of_length_le h]
      · rw [show i = 6 by omega]
    rw [lockgatelaw17_small.l0]
    by_cases h : i < l.length
    · rw [if_pos (by omega), decide_eq_false (by omega), lockgatelaw17_small.j1, if_neg (by decide), e]
    · rw [if_neg (by omega), lockgatelaw17_small.j1, if_neg (by decide), e]
  | succ d ih =>
    intro k i hi hk
    obtain ⟨k, rfl⟩ : ∃ j, k = j + 2 := ⟨k - 2, by omega⟩
    have hlt : i < l.length := by omega
    have ht : (l.take (i + 1)).map sh = (l.take i).map sh ++ [sh l[i]] := by rw [List.take_succ_eq_append_getElem hlt, List.map_append]; rfl
    have hlen : ((l.take i).map sh).length < 8796093022208 := by rw [List.length_map, List.length_take]; omega
    have hn : wrap64 ((i : Int) + 1) = ((i + 1 : Nat) : Int) := by rw [Bm.w64 (by omega) (by omega)]; omega
    rw [lockgatelaw17_small.l0, if_pos (by omega), decide_eq_true (by omega), lockgatelaw17_small.j1, if_pos rfl, if_pos (by omega), if_pos (by omega), rd_get l i hlt]
    by_cases h : 40 < l[i].size
    · have e : sh l[i] = l[i].extract 0 40 := by unfold sh; rw [if_pos h]
      rw [if_pos (by omega), if_pos (by omega), if_pos (by omega), if_pos hlen, ← e, ← ht, hn]
      exact ih k (i + 1) (by omega) (by omega)
    · have e : sh l[i] = l[i] := by unfold sh; rw [if_neg h]
      rw [if_neg (by omega), if_pos hlen, hn]
      have := ih k (i + 1) (by omega) (by omega)
      rw [ht, e] at this
      exact this
theorem small_val (l : List ByteArray) (hl : l.length ≤ 140737488351232) : ∀ k, 20 ≤ k → lockgatelaw17_small.f k l = some (smallM l) := by
  intro k hk
  exact small_loop l hl _ rfl (min l.length 6) k 0 (by omega) (by omega)
end Go.Proofs.Ytehnbbabjnibkaa.Sp
