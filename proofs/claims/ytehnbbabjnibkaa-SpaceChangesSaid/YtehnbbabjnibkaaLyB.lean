/- Layouts' bytes: what Bytes and Read tell of a layout that is right. -/
import Derived.Test.YtehnbbabjnibkaaQx3
import Derived.Test.YtehnbbabjnibkaaLyF
import Derived.Test.YtehnbbabjnibkaaPkN
namespace Go.Proofs.Ytehnbbabjnibkaa.Ly
open Go.RowKit Go.Proofs.Ytehnbbabjnibkaa.Q Go.Proofs.Ytehnbbabjnibkaa.By Go.Proofs.YtehnbbabjnibkaaW.PrintWords Go.Proofs.YtehnbbabjnibkaaW.PrintLast Go.Proofs.YtehnbbabjnibkaaW.PrintMore
set_option linter.unusedVariables false
def markS : ByteArray := ⟨#[76, 71, 83, 49]⟩
theorem mark_size : markS.size = 4 := rfl
/-- A layout's bytes. -/
def bytesL (s n : Int) : ByteArray := markS ++ beS s 4 ++ beS n 2
theorem bytesL_size (s n : Int) : (bytesL s n).size = 10 := by unfold bytesL; rw [app_size, app_size, beS_size, beS_size, mark_size]
theorem wrap16L (n : Int) (h0 : 0 ≤ n) (h1 : n < 65536) : IntKind.u16.wrap n = n := IntWalk.u16_in _ ⟨by omega, by omega⟩
theorem bytes_ok {s n f z : Int} (h : IsL s n f z) : ∀ k, 1 ≤ k → layout_Bytes.f k s n f z = some (bytesL s n, 0) := by
  intro k hk
  have := h.n8; have := h.hf; have := h.n1; have := h.smax; have := h.hs
  unfold layout_Bytes.f
  rw [is_ok h k hk]
  simp only [Option.bind_some, if_true]
  rw [show s % 4294967296 = s by omega, four_ok s (by omega) (by omega)]
  simp only [Option.bind_some]
  rw [beS_size, if_pos (by omega), wrap16L n (by omega) (by omega), two_ok n (by omega) (by omega)]
  simp only [Option.bind_some]
  rw [if_pos (by rw [app_size, beS_size, beS_size]; show 4 + 4 + 2 ≤ _; omega)]
  rfl
theorem bytes_bad {s n f z : Int} (h : ¬ IsL s n f z) (hs : -9223372036854775808 ≤ s) : ∀ k, 1 ≤ k → layout_Bytes.f k s n f z = some (⟨#[]⟩, 1) := by
  intro k hk
  unfold layout_Bytes.f
  rw [is_val s n f z hs k hk, decide_eq_false h]
  simp
theorem cut_mark (s n : Int) : (bytesL s n).extract 4 (bytesL s n).size = beS s 4 ++ (beS n 2 ++ ⟨#[]⟩) := by
    have := ext_cut markS (beS s 4 ++ beS n 2)
    rw [mark_size] at this
    unfold bytesL
    rw [app_assoc, app_nil]
    exact this
theorem beS_inj_ (a b : Int) (k : Nat) (ha : 0 ≤ a ∧ a < 256 ^ k) (hb : 0 ≤ b ∧ b < 256 ^ k) (h : beS a k = beS b k) : a = b := by
  have h1 := bytesOf_nums _ (be_range a k)
  have h2 := bytesOf_nums _ (be_range b k)
  have h3 := num_be a k
  have h4 := num_be b k
  rw [Int.emod_eq_of_lt ha.1 ha.2] at h3
  rw [Int.emod_eq_of_lt hb.1 hb.2] at h4
  unfold beS at h
  rw [h, h2] at h1
  rw [← h1] at h3
  omega
theorem bytesL_inj {s n t m : Int} (h0 : 0 ≤ s ∧ s < 4294967296) (h1 : 0 ≤ n ∧ n < 65536) (h2 : 0 ≤ t ∧ t < 4294967296) (h3 : 0 ≤ m ∧ m < 65536) (h : bytesL s n = bytesL t m) : s = t ∧ n = m := by
  unfold bytesL at h
  obtain ⟨a, b⟩ := app_inj (by rw [app_size, app_size, beS_size, beS_size]) h
  obtain ⟨_, a⟩ := app_inj rfl a
  exact ⟨beS_inj_ s t 4 (by rw [pow4']; exact h0) (by rw [pow4']; exact h2) a, beS_inj_ n m 2 (by rw [pow2]; exact h1) (by rw [pow2]; exact h3) b⟩
end Go.Proofs.Ytehnbbabjnibkaa.Ly
