/- The pack laws' own helpers: awake and short. -/
import Derived.Test.YtfphaiobbpjpkaaQx2
import Derived.Test.YtfphaiobbpjpkaaPkR
namespace Go.Proofs.Ytfphaiobbpjpkaa.By
open Go.RowKit Go.Proofs.Ytfphaiobbpjpkaa.Bm Go.Proofs.Ytfphaiobbpjpkaa.Q Go.Proofs.YtfphaiobbpjpkaaW.PrintWords Go.Proofs.YtfphaiobbpjpkaaW.PrintMore
set_option linter.unusedVariables false
theorem zeros_byte (n k : Nat) : byteAt (zeros n) k = 0 := by
  unfold byteAt zeros
  simp only [List.getD_eq_getElem?_getD]
  cases e : (List.replicate n (0 : UInt8))[k]? with
  | none => rfl
  | some x =>
    have := List.mem_of_getElem? e
    rw [List.mem_replicate] at this
    rw [this.2]; rfl
theorem fill_nil : zeros 512 = fillS ⟨#[]⟩ := by
  have h0 : (⟨#[]⟩ : ByteArray).size = 0 := rfl
  have hz := fillS_size ⟨#[]⟩ (by omega)
  refine bytes_ext (by rw [zeros_size, hz]) fun k hk => ?_
  rw [zeros_byte]
  unfold fillS
  rw [h0, app_nil, app_byte, beS_size]
  by_cases c : k < 2
  · rw [if_pos c]
    have e : beS ((0 : Nat) : Int) 2 = strOfNums [0, 0] := rfl
    rw [e]
    obtain rfl | rfl : k = 0 ∨ k = 1 := by omega
    · rfl
    · rfl
  · rw [if_neg c, zeros_byte]
theorem awake_ok : lockgatelaw01_awake.f = some true := by
  have a1 : pack_Text.f (⟨#[97, 98]⟩ : ByteArray) = some (⟨#[0, 2, 97, 98]⟩, 0) := by
    rw [text_ok _ (by decide)]
    congr 1
  have a2 : pack_Fill.f (⟨#[97]⟩ : ByteArray) = some (fillS ⟨#[97]⟩, 0) := fill_ok _ (by decide)
  have a3 : pack_Open.f (fillS ⟨#[97]⟩) = some (⟨#[97]⟩, true) := by
    rw [open_ok _ (by rw [fillS_size _ (by decide)]; omega), open_fill _ (by decide)]
  have a4 : pack_Open.f (strOfNums (List.replicate 512 0)) = some (⟨#[]⟩, true) := by
    rw [zeros_nums, fill_nil, open_ok _ (by rw [fillS_size _ (by decide)]; omega), open_fill _ (by decide)]
  have a5 : pack_Reader_Text.f (⟨#[0, 5, 97]⟩ : ByteArray) false = some (⟨#[]⟩, ⟨#[97]⟩, true) := by
    rw [rtext_general _ (by decide) (by decide)]
    decide +kernel
  have a6 : pack_Four.f 258 = some (beS 258 4) := four_ok _ (by decide) (by decide)
  unfold lockgatelaw01_awake.f
  generalize strOfNums (List.replicate 512 0) = R at a4 ⊢
  rw [a1, a2, Option.bind_some, Option.bind_some, a3, Option.bind_some, if_pos (by omega), a4]
  unfold pack_Read.f
  simp only [Option.bind_some]
  rw [a5, a6]
  simp only [Option.bind_some]
  rw [rend_ok]
  simp only [Option.bind_some]
  decide +kernel
/-- At most so many bytes. -/
def cutTo (s : ByteArray) (n : Nat) : ByteArray := if n < s.size then s.extract 0 n else s
theorem cutTo_size (s : ByteArray) (n : Nat) : (cutTo s n).size ≤ n := by
  unfold cutTo; split
  · rw [ext_size _ _ _ (by omega)]; omega
  · omega
theorem short_ok (s : ByteArray) (n : Nat) (hs : s.size ≤ 140737488351232) : lockgatelaw01_short.f s n = some (cutTo s n) := by
  unfold lockgatelaw01_short.f cutTo
  by_cases h : n < s.size
  · rw [if_pos (by omega), if_pos (by omega), if_pos (by omega), if_pos h, Int.toNat_natCast]
  · rw [if_neg (by omega), if_neg h]
theorem short_some (s : ByteArray) (n : Nat) (hs : s.size ≤ 140737488351232) : ∃ t, lockgatelaw01_short.f s n = some t ∧ t.size ≤ n := ⟨_, short_ok s n hs, cutTo_size s n⟩
end Go.Proofs.Ytfphaiobbpjpkaa.By
