-- Written by mp.py (a program of this repo, over the print) for this seat: functions, contracts, walks.
import Derived.Test.YtfphaiobbpjpkaaQx0
namespace Go.Proofs.Ytfphaiobbpjpkaa.Q
open Go.RowKit Go.Proofs.YtfphaiobbpjpkaaW.PrintWords Go.Proofs.YtfphaiobbpjpkaaW.PrintLast Go.Proofs.YtfphaiobbpjpkaaW.PrintMore
attribute [local go_sem] max2_int min2_int max_two min_two max_three min_three max_four min_four   -- for this text's walks alone
set_option linter.unusedVariables false
set_option linter.unusedSimpArgs false

/-! ### pack_number_uint64: function 39: by hand -/
/-- The bytes of a number, the greatest first: so many. -/
def pack_number_uint64.be (n : Int) (k : Nat) : List Int := (List.range k).map fun j => n / 2 ^ (8 * (k - 1 - j)) % 256
def pack_number_uint64.f (a0 a1 : Int) : Option ByteArray :=
  if 0 ≤ a0 ∧ a0 < 18446744073709551616 ∧ 0 ≤ a1 ∧ a1 ≤ 8 then some (strOfNums (pack_number_uint64.be a0 a1.toNat)) else none
def pack_number_uint64.cs (n : Int) (k : Nat) : Nat → Array Value
  | 0 => #[.int .u8 0, .int .u8 0, .int .u8 0, .int .u8 0, .int .u8 0, .int .u8 0, .int .u8 0, .int .u8 0]
  | i + 1 => (pack_number_uint64.cs n k i).setIfInBounds (k - 1 - i) (.int .u8 (n / 2 ^ (8 * i) % 256))
theorem pack_number_uint64.cs_size (n : Int) (k i : Nat) : (pack_number_uint64.cs n k i).size = 8 := by
  induction i with
  | zero => rfl
  | succ i ih => simp only [pack_number_uint64.cs, Array.size_setIfInBounds]; exact ih
theorem pack_number_uint64.cs_at (n : Int) (k i : Nat) (hk : k ≤ 8) (hi : i ≤ k) : ∀ j, k - i ≤ j → j < k → (pack_number_uint64.cs n k i)[j]? = some (.int .u8 (n / 2 ^ (8 * (k - 1 - j)) % 256)) := by
  induction i with
  | zero => intro j h1 h2; omega
  | succ i ih =>
    intro j h1 h2
    have hs := pack_number_uint64.cs_size n k i
    simp only [pack_number_uint64.cs]
    by_cases e : j = k - 1 - i
    · subst e
      rw [Array.getElem?_setIfInBounds_self_of_lt (by omega)]
      rw [show k - 1 - (k - 1 - i) = i by omega]
    · rw [Array.getElem?_setIfInBounds_ne (by omega)]
      exact ih (by omega) j (by omega) h2
theorem pack_number_uint64.reads (w : World) (n : Int) (k : Nat) (hk : k ≤ 8) : ReadsInt (w.alloc (.cells (pack_number_uint64.cs n k k) 75)) .u8 (some ⟨w.heap.size, 0, none⟩) k (pack_number_uint64.be n k) := by
  refine ⟨by simp [pack_number_uint64.be], by omega, fun h0 => ⟨_, rfl, fun j hj => ?_⟩⟩
  rw [add_plain]
  have e : (w.alloc (.cells (pack_number_uint64.cs n k k) 75)).heap[w.heap.size]? = some (.cells (pack_number_uint64.cs n k k) 75 (0, 0)) := heap_alloc_new w _
  simp only [World.cell?, e]
  have g := pack_number_uint64.cs_at n k k hk (Nat.le_refl _) j (by omega) hj
  simp only [Option.isSome_none, Bool.false_eq_true, if_false]
  rw [g, pack_number_uint64.be, List.getD_eq_getElem?_getD, List.getElem?_map, List.getElem?_range hj]
  rfl
theorem pack_number_uint64.cut_ (W : World) (b k : Nat) (hk : k ≤ 8) : (Instr.sliceAt 75 (.pointer (some ⟨b, 0, none⟩)) none (some (.int .i64 k)) none).run Try.prog W = .ok (.slice (some ⟨b, 0, none⟩) k 8) W := by
  have e1 : Try.prog.arrayLen 75 = 8 := by simp only [Program.arrayLen, Try.underlying75]
  have e2 : Try.prog.elem 75 = 5 := by simp only [Program.elem, Try.underlying75]
  rw [run_sliceAt_array_h W 75 ⟨b, 0, none⟩ (by rw [e1, e2]; exact Try.underlying75) .i64 (k : Int) (by omega) (by rw [e1]; omega), e1, e2]
  have e3 : (sizeOf 5).run Try.prog W = .ok 1 W := by kernel_rfl
  rw [e3]
  simp only [Result.andThen, slicedAt, Int.toNat_natCast]
  simp [add_plain]
set_option maxHeartbeats 1000000 in
theorem pack_number_uint64.walk (n : Int) (k : Nat) (w : World) (h0 : 0 ≤ n) (h1 : n < 18446744073709551616) (hk : k ≤ 8) :
    Calls Try.prog 39 #[.int .u64 n, .int .i64 k] w fun e w' => e = .returned (.string (strOfNums (pack_number_uint64.be n k))) ∧ Below w.heap.size w w' := by
  have hcb := Aside0.mk (string_of_reads (P := Try.prog) (c := 8) Try.underlying32 Try.underlying5 Try.underlying9 (pack_number_uint64.reads w n k (by omega)))
  go_enter Try.func39, Try.ntmps39
  go_wp2
  go_loopw [8] (fun v8 wr => ∃ i : Nat, i ≤ k ∧ v8 = .int .i64 i ∧ wr = w.alloc (.cells (pack_number_uint64.cs n k i) 75)) (fun v8 _ => k - (intOf v8).toNat)
  case atStart => exact ⟨0, Nat.zero_le _, rfl, rfl⟩
  case round =>
    obtain ⟨i, hi, rfl, rfl⟩ := hrel
    by_cases hlt : i < k
    · have hs := pack_number_uint64.cs_size n k i
      have hc0 : 0 ≤ 8 * (i : Int) := by omega
      have hc1 : 8 * (i : Int) ≤ 8 * 8 := by omega
      have hc2 : 8 * (i : Int) < 8 * 8 := by omega
      have hlt8 : k - 1 - i < (pack_number_uint64.cs n k i).size := by omega
      have hnew : (w.alloc (.cells (pack_number_uint64.cs n k i) 75)).heap[w.heap.size]? = some (.cells (pack_number_uint64.cs n k i) 75 (0, 0)) := heap_alloc_new w _
      have hcell : (w.alloc (.cells (pack_number_uint64.cs n k i) 75)).cell? ⟨w.heap.size, k - 1 - i, none⟩ = some ((pack_number_uint64.cs n k i)[k - 1 - i]'hlt8) := by
        simp only [World.cell?, hnew]
        simp [hlt8]
      have hfz : (w.alloc (.cells (pack_number_uint64.cs n k i) 75)).frozen? ⟨w.heap.size, k - 1 - i, none⟩ = false := by
        simp only [World.frozen?, hnew]
        simp
      clear hnew
      go_wp2
      go_roundw
      case rel => exact ⟨i + 1, by omega, by go_num, rfl⟩
      case measure => simp [intOf]; omega
    · obtain rfl : i = k := by omega
      have hcb' := hcb.out
      have hct := fun W => pack_number_uint64.cut_ W w.heap.size i (by omega)
      go_wp2
      go_ret
      exact ⟨rfl, (Below.refl _ _).alloc (Nat.le_refl _) _⟩
theorem pack_number_uint64.calls (a0 a1 : Int) (r : ByteArray) (w : World) (h : pack_number_uint64.f a0 a1 = some r) :
    Calls Try.prog 39 #[.int .u64 a0, .int .i64 a1] w fun e w' => e = .returned (.string r) ∧ Below w.heap.size w w' := by
  unfold pack_number_uint64.f at h
  by_cases hc : 0 ≤ a0 ∧ a0 < 18446744073709551616 ∧ 0 ≤ a1 ∧ a1 ≤ 8
  · rw [if_pos hc] at h
    injection h with h; subst h
    obtain ⟨h0, h1, h2, h3⟩ := hc
    obtain ⟨k, rfl⟩ : ∃ k : Nat, a1 = k := ⟨a1.toNat, by omega⟩
    rw [Int.toNat_natCast]
    exact pack_number_uint64.walk a0 k w h0 h1 (by omega)
  · rw [if_neg hc] at h; cases h


/-! ### pack_Eight: function 22 -/
def pack_Eight.f (a0 : Int) : Option (ByteArray) := (pack_number_uint64.f a0 8).bind fun t180 => (some t180)
set_option maxHeartbeats 8000000 in
set_option maxRecDepth 100000 in
theorem pack_Eight.calls (a0 : Int) (r : ByteArray) (w : World) (h : pack_Eight.f a0 = some r) :
    Calls Try.prog 22 #[.int .u64 a0] w fun e w' => e = .returned (.string r) ∧ Below w.heap.size w w' := by
  have HB := Aside0.mk (Below.refl w.heap.size w)
  have H : ((pack_number_uint64.f a0 8).bind fun t180 => (some t180)) = some r := h
  clear h
  replace H := Option.bind_eq_some_iff.mp H
  obtain ⟨t180, A20, H⟩ := H
  replace H : (some t180) = some r := H
  have A2 := Aside0.mk A20
  clear A20
  obtain rfl := Option.some.inj H
  go_enter Try.func22, Try.ntmps22
  go_wp2_with (first | ((with_reducible refine gate_callee (f := 39) rfl ?_); refine goesL_ (some 4) rfl rfl Try.func39 (by kernel_rfl) rfl #[.int .u64 a0, .int .i64 8] rfl (by (try simp only [List.map_toArray, List.map_cons, List.map_nil]); first | done | rfl | (simp only [List.length_drop, List.length_take]; rfl)) ?_; (with_reducible refine (pack_number_uint64.calls a0 8 t180 _ A2.out).mono ?_); rintro e w3 ⟨rfl, hb⟩; refine ⟨_, rfl, ?_⟩; have n0_ := Aside0.mk (below_step (by repeat (first | (with_reducible first | exact HB.out | apply below_alloc | apply pw_below_drewN | apply below_drew1) | exact HB.out)) hb); clear HB; have HB := n0_; clear n0_; (try clear hb); (try clear hb2); (try clear hk); (try clear hi)))
  go_ret
  exact ⟨by first | rfl | (simp [errW_none, errW_some] <;> rfl) | (simp [*, errW_none, errW_some] <;> rfl), by repeat (first | (with_reducible first | exact HB.out | apply below_alloc | apply pw_below_drewN | apply below_drew1) | exact HB.out)⟩

end Go.Proofs.Ytfphaiobbpjpkaa.Q
