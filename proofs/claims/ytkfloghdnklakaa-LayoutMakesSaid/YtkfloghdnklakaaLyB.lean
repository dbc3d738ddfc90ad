/- Layouts' bytes: what Bytes and Read tell of a layout that is right. -/
import Derived.Test.YtkfloghdnklakaaQx7
import Derived.Test.YtkfloghdnklakaaQx8
import Derived.Test.YtkfloghdnklakaaLyF
import Derived.Test.YtkfloghdnklakaaPkN
namespace Go.Proofs.Ytkfloghdnklakaa.Ly
open Go.RowKit Go.Proofs.Ytkfloghdnklakaa.Q Go.Proofs.Ytkfloghdnklakaa.By Go.Proofs.YtkfloghdnklakaaW.PrintWords Go.Proofs.YtkfloghdnklakaaW.PrintLast Go.Proofs.YtkfloghdnklakaaW.PrintMore
set_option linter.unusedVariables false
def markS : ByteArray := ⟨#[76, 71, 83, 49]⟩
theorem mark_size : markS.size = 4 := rfl
/-- A layout's bytes. -/
def bytesL (s n : Int) : ByteArray := markS ++ beS s 4 ++ beS n 2
theorem bytesL_size (s n : Int) : (bytesL s n).size = 10 := by unfold bytesL; rw [app_size, app_size, beS_size, beS_size, mark_size]
theorem wrap16L (n : Int) (h0 : 0 ≤ n) (h1 : n < 65536) : IntKind.u16.wrap n = n := IntWalk.u16_in _ ⟨by omega, by omega⟩
theorem bytes_ok {s n f z : Int} (h : IsL s n f z) : ∀ k, 1 ≤ k → layout_Bytes.f k s n f z = some (bytesL s n, 0) := by
  intro k hk
  have := h.n8; have := h.hf; have := h.n1; have := h.smax; have := h.hs
  unfold layout_Bytes.f
  rw [is_ok h k hk]
  simp only [Option.bind_some, if_true]
  rw [show s % 4294967296 = s by omega, four_ok s (by omega) (by omega)]
  simp only [Option.bind_some]
  rw [beS_size, if_pos (by omega), wrap16L n (by omega) (by omega), two_ok n (by omega) (by omega)]
  simp only [Option.bind_some]
  rw [if_pos (by rw [app_size, beS_size, beS_size]; show 4 + 4 + 2 ≤ _; omega)]
  rfl
theorem bytes_bad {s n f z : Int} (h : ¬ IsL s n f z) (hs : -9223372036854775808 ≤ s) : ∀ k, 1 ≤ k → layout_Bytes.f k s n f z = some (⟨#[]⟩, 1) := by
  intro k hk
  unfold layout_Bytes.f
  rw [is_val s n f z hs k hk, decide_eq_false h]
  simp
theorem cut_mark (s n : Int) : (bytesL s n).extract 4 (bytesL s n).size = beS s 4 ++ (beS n 2 ++ ⟨#[]⟩) := by
    have := ext_cut markS (beS s 4 ++ beS n 2)
    rw [mark_size] at this
    unfold bytesL
    rw [app_assoc, app_nil]
    exact this
theorem tail_four (s n : Int) (h0 : 0 ≤ s) (h1 : s < 4294967296) : pack_Reader_Four.f (beS s 4 ++ (beS n 2 ++ ⟨#[]⟩)) false = some (s, beS n 2 ++ ⟨#[]⟩, false) := by
  have z0 : (⟨#[]⟩ : ByteArray).size = 0 := rfl
  exact rfour_fst s h0 h1 _ (by rw [app_size, beS_size]; omega)
theorem tail_two (n : Int) (h0 : 0 ≤ n) (h1 : n < 65536) : pack_Reader_Two.f (beS n 2 ++ ⟨#[]⟩) false = some (n, ⟨#[]⟩, false) := by
  have z0 : (⟨#[]⟩ : ByteArray).size = 0 := rfl
  exact rtwo_fst n h0 h1 _ (by omega)
theorem read_gen (B T U : ByteArray) (s n f z : Int) (k : Nat) (hz : B.size = 10) (e : B.extract 4 B.size = T) (e1 : pack_Reader_Four.f T false = some (s, U, false)) (e2 : pack_Reader_Two.f U false = some (n, ⟨#[]⟩, false))
    (e3 : layout_New.f k s n = some (s, n, f, z, 0)) (e4 : layout_Bytes.f k s n f z = some (B, 0)) : layout_Read.f k B = some (s, n, f, z, 0) := by
  unfold layout_Read.f
  rw [if_neg (by omega), if_pos (by omega), e]
  unfold pack_Read.f
  simp only [Option.bind_some]
  rw [e1]
  simp only [Option.bind_some]
  rw [e2]
  simp only [Option.bind_some]
  rw [e3]
  simp only [Option.bind_some]
  rw [e4]
  simp only [Option.bind_some]
  rw [if_pos trivial, if_pos trivial]
theorem read_bytes {s n f z : Int} (h : IsL s n f z) : ∀ k, 1 ≤ k → layout_Read.f k (bytesL s n) = some (s, n, f, z, 0) := by
  intro k hk
  have := h.n8; have := h.hf; have := h.n1; have := h.smax; have := h.hs
  have e3 := new_val s n (by omega) k hk
  rw [newL_ok h] at e3
  exact read_gen _ _ _ s n f z k (bytesL_size s n) (cut_mark s n) (tail_four s n (by omega) (by omega)) (tail_two n (by omega) (by omega)) e3 (bytes_ok h k hk)
theorem beS_inj_ (a b : Int) (k : Nat) (ha : 0 ≤ a ∧ a < 256 ^ k) (hb : 0 ≤ b ∧ b < 256 ^ k) (h : beS a k = beS b k) : a = b := by
  have h1 := bytesOf_nums _ (be_range a k)
  have h2 := bytesOf_nums _ (be_range b k)
  have h3 := num_be a k
  have h4 := num_be b k
  rw [Int.emod_eq_of_lt ha.1 ha.2] at h3
  rw [Int.emod_eq_of_lt hb.1 hb.2] at h4
  unfold beS at h
  rw [h, h2] at h1
  rw [← h1] at h3
  omega
theorem bytesL_inj {s n t m : Int} (h0 : 0 ≤ s ∧ s < 4294967296) (h1 : 0 ≤ n ∧ n < 65536) (h2 : 0 ≤ t ∧ t < 4294967296) (h3 : 0 ≤ m ∧ m < 65536) (h : bytesL s n = bytesL t m) : s = t ∧ n = m := by
  unfold bytesL at h
  obtain ⟨a, b⟩ := app_inj (by rw [app_size, app_size, beS_size, beS_size]) h
  obtain ⟨_, a⟩ := app_inj rfl a
  exact ⟨beS_inj_ s t 4 (by rw [pow4']; exact h0) (by rw [pow4']; exact h2) a, beS_inj_ n m 2 (by rw [pow2]; exact h1) (by rw [pow2]; exact h3) b⟩
end Go.Proofs.Ytkfloghdnklakaa.Ly
