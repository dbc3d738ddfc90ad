-- Written by mp.py (a program of this repo, over the print) for this seat: functions, contracts, walks.
import Derived.Test.YtfphaiobbpjpkaaQx0
namespace Go.Proofs.Ytfphaiobbpjpkaa.Q
open Go.RowKit Go.Proofs.YtfphaiobbpjpkaaW.PrintWords Go.Proofs.YtfphaiobbpjpkaaW.PrintLast Go.Proofs.YtfphaiobbpjpkaaW.PrintMore
attribute [local go_sem] max2_int min2_int max_two min_two max_three min_three max_four min_four   -- for this text's walks alone
set_option linter.unusedVariables false
set_option linter.unusedSimpArgs false

/-! ### pack_number_uint16: function 37: by hand -/
/-- The bytes of a number, the greatest first: so many. -/
def pack_number_uint16.be (n : Int) (k : Nat) : List Int := (List.range k).map fun j => n / 2 ^ (8 * (k - 1 - j)) % 256
def pack_number_uint16.f (a0 a1 : Int) : Option ByteArray :=
  if 0 ≤ a0 ∧ a0 < 65536 ∧ 0 ≤ a1 ∧ a1 ≤ 2 then some (strOfNums (pack_number_uint16.be a0 a1.toNat)) else none
def pack_number_uint16.cs (n : Int) (k : Nat) : Nat → Array Value
  | 0 => #[.int .u8 0, .int .u8 0, .int .u8 0, .int .u8 0, .int .u8 0, .int .u8 0, .int .u8 0, .int .u8 0]
  | i + 1 => (pack_number_uint16.cs n k i).setIfInBounds (k - 1 - i) (.int .u8 (n / 2 ^ (8 * i) % 256))
theorem pack_number_uint16.cs_size (n : Int) (k i : Nat) : (pack_number_uint16.cs n k i).size = 8 := by
  induction i with
  | zero => rfl
  | succ i ih => simp only [pack_number_uint16.cs, Array.size_setIfInBounds]; exact ih
theorem pack_number_uint16.cs_at (n : Int) (k i : Nat) (hk : k ≤ 8) (hi : i ≤ k) : ∀ j, k - i ≤ j → j < k → (pack_number_uint16.cs n k i)[j]? = some (.int .u8 (n / 2 ^ (8 * (k - 1 - j)) % 256)) := by
  induction i with
  | zero => intro j h1 h2; omega
  | succ i ih =>
    intro j h1 h2
    have hs := pack_number_uint16.cs_size n k i
    simp only [pack_number_uint16.cs]
    by_cases e : j = k - 1 - i
    · subst e
      rw [Array.getElem?_setIfInBounds_self_of_lt (by omega)]
      rw [show k - 1 - (k - 1 - i) = i by omega]
    · rw [Array.getElem?_setIfInBounds_ne (by omega)]
      exact ih (by omega) j (by omega) h2
theorem pack_number_uint16.reads (w : World) (n : Int) (k : Nat) (hk : k ≤ 8) : ReadsInt (w.alloc (.cells (pack_number_uint16.cs n k k) 75)) .u8 (some ⟨w.heap.size, 0, none⟩) k (pack_number_uint16.be n k) := by
  refine ⟨by simp [pack_number_uint16.be], by omega, fun h0 => ⟨_, rfl, fun j hj => ?_⟩⟩
  rw [add_plain]
  have e : (w.alloc (.cells (pack_number_uint16.cs n k k) 75)).heap[w.heap.size]? = some (.cells (pack_number_uint16.cs n k k) 75 (0, 0)) := heap_alloc_new w _
  simp only [World.cell?, e]
  have g := pack_number_uint16.cs_at n k k hk (Nat.le_refl _) j (by omega) hj
  simp only [Option.isSome_none, Bool.false_eq_true, if_false]
  rw [g, pack_number_uint16.be, List.getD_eq_getElem?_getD, List.getElem?_map, List.getElem?_range hj]
  rfl
theorem pack_number_uint16.cut_ (W : World) (b k : Nat) (hk : k ≤ 8) : (Instr.sliceAt 75 (.pointer (some ⟨b, 0, none⟩)) none (some (.int .i64 k)) none).run Try.prog W = .ok (.slice (some ⟨b, 0, none⟩) k 8) W := by
  have e1 : Try.prog.arrayLen 75 = 8 := by simp only [Program.arrayLen, Try.underlying75]
  have e2 : Try.prog.elem 75 = 5 := by simp only [Program.elem, Try.underlying75]
  rw [run_sliceAt_array_h W 75 ⟨b, 0, none⟩ (by rw [e1, e2]; exact Try.underlying75) .i64 (k : Int) (by omega) (by rw [e1]; omega), e1, e2]
  have e3 : (sizeOf 5).run Try.prog W = .ok 1 W := by kernel_rfl
  rw [e3]
  simp only [Result.andThen, slicedAt, Int.toNat_natCast]
  simp [add_plain]
set_option maxHeartbeats 1000000 in
theorem pack_number_uint16.walk (n : Int) (k : Nat) (w : World) (h0 : 0 ≤ n) (h1 : n < 65536) (hk : k ≤ 2) :
    Calls Try.prog 37 #[.int .u16 n, .int .i64 k] w fun e w' => e = .returned (.string (strOfNums (pack_number_uint16.be n k))) ∧ Below w.heap.size w w' := by
  have hcb := Aside0.mk (string_of_reads (P := Try.prog) (c := 8) Try.underlying32 Try.underlying5 Try.underlying9 (pack_number_uint16.reads w n k (by omega)))
  go_enter Try.func37, Try.ntmps37
  go_wp2
  go_loopw [8] (fun v8 wr => ∃ i : Nat, i ≤ k ∧ v8 = .int .i64 i ∧ wr = w.alloc (.cells (pack_number_uint16.cs n k i) 75)) (fun v8 _ => k - (intOf v8).toNat)
  case atStart => exact ⟨0, Nat.zero_le _, rfl, rfl⟩
  case round =>
    obtain ⟨i, hi, rfl, rfl⟩ := hrel
    by_cases hlt : i < k
    · have hs := pack_number_uint16.cs_size n k i
      have hc0 : 0 ≤ 8 * (i : Int) := by omega
      have hc1 : 8 * (i : Int) ≤ 8 * 2 := by omega
      have hc2 : 8 * (i : Int) < 8 * 2 := by omega
      have hlt8 : k - 1 - i < (pack_number_uint16.cs n k i).size := by omega
      have hnew : (w.alloc (.cells (pack_number_uint16.cs n k i) 75)).heap[w.heap.size]? = some (.cells (pack_number_uint16.cs n k i) 75 (0, 0)) := heap_alloc_new w _
      have hcell : (w.alloc (.cells (pack_number_uint16.cs n k i) 75)).cell? ⟨w.heap.size, k - 1 - i, none⟩ = some ((pack_number_uint16.cs n k i)[k - 1 - i]'hlt8) := by
        simp only [World.cell?, hnew]
        simp [hlt8]
      have hfz : (w.alloc (.cells (pack_number_uint16.cs n k i) 75)).frozen? ⟨w.heap.size, k - 1 - i, none⟩ = false := by
        simp only [World.frozen?, hnew]
        simp
      clear hnew
      go_wp2
      go_roundw
      case rel => exact ⟨i + 1, by omega, by go_num, rfl⟩
      case measure => simp [intOf]; omega
    · obtain rfl : i = k := by omega
      have hcb' := hcb.out
      have hct := fun W => pack_number_uint16.cut_ W w.heap.size i (by omega)
      go_wp2
      go_ret
      exact ⟨rfl, (Below.refl _ _).alloc (Nat.le_refl _) _⟩
theorem pack_number_uint16.calls (a0 a1 : Int) (r : ByteArray) (w : World) (h : pack_number_uint16.f a0 a1 = some r) :
    Calls Try.prog 37 #[.int .u16 a0, .int .i64 a1] w fun e w' => e = .returned (.string r) ∧ Below w.heap.size w w' := by
  unfold pack_number_uint16.f at h
  by_cases hc : 0 ≤ a0 ∧ a0 < 65536 ∧ 0 ≤ a1 ∧ a1 ≤ 2
  · rw [if_pos hc] at h
    injection h with h; subst h
    obtain ⟨h0, h1, h2, h3⟩ := hc
    obtain ⟨k, rfl⟩ : ∃ k : Nat, a1 = k := ⟨a1.toNat, by omega⟩
    rw [Int.toNat_natCast]
    exact pack_number_uint16.walk a0 k w h0 h1 (by omega)
  · rw [if_neg hc] at h; cases h


/-! ### pack_Two: function 19 -/
def pack_Two.f (a0 : Int) : Option (ByteArray) := (pack_number_uint16.f a0 2).bind fun t101 => (some t101)
set_option maxHeartbeats 8000000 in
set_option maxRecDepth 100000 in
theorem pack_Two.calls (a0 : Int) (r : ByteArray) (w : World) (h : pack_Two.f a0 = some r) :
    Calls Try.prog 19 #[.int .u16 a0] w fun e w' => e = .returned (.string r) ∧ Below w.heap.size w w' := by
  have HB := Aside0.mk (Below.refl w.heap.size w)
  have H : ((pack_number_uint16.f a0 2).bind fun t101 => (some t101)) = some r := h
  clear h
  replace H := Option.bind_eq_some_iff.mp H
  obtain ⟨t101, A20, H⟩ := H
  replace H : (some t101) = some r := H
  have A2 := Aside0.mk A20
  clear A20
  obtain rfl := Option.some.inj H
  go_enter Try.func19, Try.ntmps19
  go_wp2_with (first | ((with_reducible refine gate_callee (f := 37) rfl ?_); refine goesL_ (some 4) rfl rfl Try.func37 (by kernel_rfl) rfl #[.int .u16 a0, .int .i64 2] rfl (by (try simp only [List.map_toArray, List.map_cons, List.map_nil]); first | done | rfl | (simp only [List.length_drop, List.length_take]; rfl)) ?_; (with_reducible refine (pack_number_uint16.calls a0 2 t101 _ A2.out).mono ?_); rintro e w3 ⟨rfl, hb⟩; refine ⟨_, rfl, ?_⟩; have n0_ := Aside0.mk (below_step (by repeat (first | (with_reducible first | exact HB.out | apply below_alloc | apply pw_below_drewN | apply below_drew1) | exact HB.out)) hb); clear HB; have HB := n0_; clear n0_; (try clear hb); (try clear hb2); (try clear hk); (try clear hi)))
  go_ret
  exact ⟨by first | rfl | (simp [errW_none, errW_some] <;> rfl) | (simp [*, errW_none, errW_some] <;> rfl), by repeat (first | (with_reducible first | exact HB.out | apply below_alloc | apply pw_below_drewN | apply below_drew1) | exact HB.out)⟩

/-! ### strings_Repeat: function 36: by hand -/
def strings_Repeat.f (a0 : ByteArray) (a1 : Int) : Option ByteArray :=
  if 0 ≤ a1 ∧ a1 ≤ 9223372036854775807 ∧ a0.size * a1.toNat ≤ 140737488355328 then some ⟨(Go.Lib.repeatL a0.data.toList a1.toNat).toArray⟩ else none
theorem strings_Repeat.calls (a0 : ByteArray) (a1 : Int) (r : ByteArray) (w : World) (h : strings_Repeat.f a0 a1 = some r) :
    Calls Try.prog 36 #[.string a0, .int .i64 a1] w fun e w' => e = .returned (.string r) ∧ Below w.heap.size w w' := by
  unfold strings_Repeat.f at h
  by_cases hc : 0 ≤ a1 ∧ a1 ≤ 9223372036854775807 ∧ a0.size * a1.toNat ≤ 140737488355328
  · rw [if_pos hc] at h
    injection h with h; subst h
    obtain ⟨h0, h1, h2⟩ := hc
    obtain ⟨c, rfl⟩ : ∃ c : Nat, a1 = c := ⟨a1.toNat, by omega⟩
    rw [Int.toNat_natCast] at h2 ⊢
    exact Go.Proofs.Try.strings_Repeat a0 c w (by omega) h2
  · rw [if_neg hc] at h; cases h


/-! ### pack_Fill: function 13: by hand -/
def pack_Fill.f (a0 : ByteArray) : Option (ByteArray × Int) :=
  if a0.size ≤ 140737488355328 then
    if 510 < (a0.size : Int) then some (⟨#[]⟩, 11)
    else (pack_Two.f (a0.size : Int)).bind fun t => if t.size ≤ 100 then (strings_Repeat.f (⟨#[0]⟩ : ByteArray) (510 - (a0.size : Int))).bind fun z => if z.size ≤ 1000 then some (t ++ a0 ++ z, 0) else none else none
  else none
set_option maxHeartbeats 400000 in
theorem pack_Fill.calls (a0 : ByteArray) (r1 : ByteArray) (r2 : Int) (w : World) (h : pack_Fill.f a0 = some (r1, r2)) :
    Calls Try.prog 13 #[.string a0] w fun e w' => e = .returned (.tuple #[.string r1, .int .i64 r2]) ∧ Below w.heap.size w w' := by
  unfold pack_Fill.f at h
  by_cases hs : a0.size ≤ 140737488355328
  case neg => rw [if_neg hs] at h; cases h
  rw [if_pos hs] at h
  by_cases hc : 510 < (a0.size : Int)
  · rw [if_pos hc] at h
    simp only [Option.some.injEq, Prod.mk.injEq] at h
    obtain ⟨rfl, rfl⟩ := h
    have hb : decide (510 < a0.size) = true := decide_eq_true (by omega)
    go_enter Try.func13, Try.ntmps13
    go_wp2
    go_ret2
    exact ⟨rfl, Below.refl _ _⟩
  · rw [if_neg hc] at h
    obtain ⟨t, ht, h⟩ := Option.bind_eq_some_iff.mp h
    by_cases htz : t.size ≤ 100
    case neg => rw [if_neg htz] at h; cases h
    rw [if_pos htz] at h
    obtain ⟨z, hz, h⟩ := Option.bind_eq_some_iff.mp h
    by_cases hzz : z.size ≤ 1000
    case neg => rw [if_neg hzz] at h; cases h
    rw [if_pos hzz] at h
    simp only [Option.some.injEq, Prod.mk.injEq] at h
    obtain ⟨rfl, rfl⟩ := h
    have hb : decide (510 < a0.size) = false := decide_eq_false (by omega)
    have HT := Aside0.mk ht
    have HZ := Aside0.mk hz
    clear ht hz
    have hn1 : ¬ 9223372036854775807 < t.size + a0.size := by omega
    have hn2 : ¬ 9223372036854775807 < t.size + a0.size + z.size := by omega
    go_enter Try.func13, Try.ntmps13
    go_wp2_with fail
    refine (pack_Two.calls _ t _ HT.out).mono ?_
    rintro e w1 ⟨rfl, hb1⟩
    have HB1 := Aside0.mk hb1
    clear hb1
    go_wp2_with fail
    refine (strings_Repeat.calls _ _ z _ HZ.out).mono ?_
    rintro e w2 ⟨rfl, hb2⟩
    have HB2 := Aside0.mk hb2
    clear hb2
    go_wp2_with fail
    go_ret2
    exact ⟨rfl, HB1.out.trans (HB2.out.mono HB1.out.size)⟩

/-- A state of type 53 at block g of W; what its slices lead to came in by w0. -/
def IsS53 (w0 W : World) (g : Nat) (f0 : ByteArray) (f1 : Bool) : Prop := W.heap[g]? = some (.cells #[.string f0, .bool f1] 53 (0, 0)) ∧ w0.heap.size ≤ g
theorem IsS53.grown {w0 W : World} {g : Nat} {f0 : ByteArray} {f1 : Bool} {W1 : World} {row : Option Nat} (h : IsS53 w0 W g f0 f1) (hw : W.grownBy W1 row) (hne : some g ≠ row) : IsS53 w0 W1 g f0 f1 := by
  obtain ⟨hb, hg⟩ := h
  exact ⟨blk_grown hb hw hne, hg⟩
theorem IsS53.own_neN {w0 W : World} {g : Nat} {f0 : ByteArray} {f1 : Bool} {α : Type} {d : Kd α} {e : Nat} {base : Nat} {ok : Nat → Prop} {v : Value} {xs : List α} (h : IsS53 w0 W g f0 f1) (ho : Kd.N d e W base ok v xs) (ht : e ≠ 53) : some g ≠ v.ownBlock := by
  obtain ⟨hb, hg⟩ := h
  exact Kd.N_ne ho hb ht
theorem IsS53.fresh {w0 W : World} {g : Nat} {f0 : ByteArray} {f1 : Bool} (h : IsS53 w0 W g f0 f1) : ∀ k, W.heap.size ≤ k → k ≠ g := by
  obtain ⟨hb, hg⟩ := h
  exact Kd.freshB hb
theorem IsS53.kept {w0 W : World} {g : Nat} {f0 : ByteArray} {f1 : Bool} {W1 : World} {S : Nat → Prop} (h : IsS53 w0 W g f0 f1) (hk : Kept W W1 S) (hne : ¬ S g) : IsS53 w0 W1 g f0 f1 := by
  obtain ⟨hb, hg⟩ := h
  exact ⟨blk_kept hb hk hne, hg⟩
theorem IsS53.below {w0 W : World} {g : Nat} {f0 : ByteArray} {f1 : Bool} {W1 : World} (h : IsS53 w0 W g f0 f1) (hw : Below W.heap.size W W1) : IsS53 w0 W1 g f0 f1 := h.grown (grown_of_below hw none) (by simp)
theorem IsS53.alloc {w0 W : World} {g : Nat} {f0 : ByteArray} {f1 : Bool} (h : IsS53 w0 W g f0 f1) (o : Obj) : IsS53 w0 (W.alloc o) g f0 f1 := h.below (below_alloc (Below.refl _ _) o)
theorem IsS53.drewN {w0 W : World} {g : Nat} {f0 : ByteArray} {f1 : Bool} (h : IsS53 w0 W g f0 f1) (m : Nat) : IsS53 w0 (W.drewN m) g f0 f1 := h
theorem IsS53.drew {w0 W : World} {g : Nat} {f0 : ByteArray} {f1 : Bool} (h : IsS53 w0 W g f0 f1) : IsS53 w0 W.drew g f0 f1 := h
theorem IsS53.at_ {w0 W : World} {g : Nat} {f0 : ByteArray} {f1 : Bool} {w' : World} {m : Nat} (hq : W.drewN m = w') (h : IsS53 w0 W g f0 f1) : IsS53 w0 w' g f0 f1 := by subst hq; exact IsS53.drewN h m
theorem IsS53.apart {w0 W : World} {g : Nat} {f0 : ByteArray} {f1 : Bool} {α : Type} {d : Kd α} {e : Nat} {base : Nat} {ok : Nat → Prop} {v : Value} {xs : List α} (h : IsS53 w0 W g f0 f1) (ho : d.R e W base ok v xs) (ht : ∀ q, q ∈ e :: d.E → q ≠ 53) : d.R e W base (fun k => ok k ∧ k ≠ g) v xs := by
  obtain ⟨hb, hg⟩ := h
  exact Kd.R_types ho hb ht
theorem IsS53.own_ne {w0 W : World} {g : Nat} {f0 : ByteArray} {f1 : Bool} {α : Type} {d : Kd α} {e : Nat} {base : Nat} {ok : Nat → Prop} {v : Value} {xs : List α} (h : IsS53 w0 W g f0 f1) (ho : d.R e W base ok v xs) (ht : e ≠ 53) : some g ≠ v.ownBlock := by
  obtain ⟨hb, hg⟩ := h
  exact Kd.R_ne ho hb ht
theorem IsS53.apartQ {w0 W : World} {g : Nat} {f0 : ByteArray} {f1 : Bool} {α : Type} {d : Kd α} {e : Nat} {base : Nat} {ok : Nat → Prop} {v : Value} {xs : List α} (h : IsS53 w0 W g f0 f1) (ho : d.Q e W base ok v xs) (ht : ∀ q, q ∈ e :: d.E → q ≠ 53) : d.Q e W base (fun k => ok k ∧ k ≠ g) v xs := by
  obtain ⟨hb, hg⟩ := h
  exact Kd.Q_types ho hb ht
theorem IsS53.own_neQ {w0 W : World} {g : Nat} {f0 : ByteArray} {f1 : Bool} {α : Type} {d : Kd α} {e : Nat} {base : Nat} {ok : Nat → Prop} {v : Value} {xs : List α} (h : IsS53 w0 W g f0 f1) (ho : d.Q e W base ok v xs) (ht : e ≠ 53) : some g ≠ v.ownBlock := by
  obtain ⟨hb, hg⟩ := h
  exact Kd.Q_ne ho hb ht
theorem IsS53.apartS {w0 W : World} {g : Nat} {f0 : ByteArray} {f1 : Bool} {α : Type} {d : Kd α} {e : Nat} {base : Nat} {ok : Nat → Prop} {v : Value} {xs : List α} (h : IsS53 w0 W g f0 f1) (ho : d.S e W base ok v xs) (ht : ∀ q, q ∈ e :: d.E → q ≠ 53) : d.S e W base (fun k => ok k ∧ k ≠ g) v xs := by
  obtain ⟨hb, hg⟩ := h
  exact Kd.S_types ho hb ht
theorem IsS53.own_neS {w0 W : World} {g : Nat} {f0 : ByteArray} {f1 : Bool} {α : Type} {d : Kd α} {e : Nat} {base : Nat} {ok : Nat → Prop} {v : Value} {xs : List α} (h : IsS53 w0 W g f0 f1) (ho : d.S e W base ok v xs) (ht : e ≠ 53) : some g ≠ v.ownBlock := by
  obtain ⟨hb, hg⟩ := h
  exact Kd.S_ne ho hb ht
theorem IsS53.lt {w0 W : World} {g : Nat} {f0 : ByteArray} {f1 : Bool} (h : IsS53 w0 W g f0 f1) : g < W.heap.size := by
  obtain ⟨hb, hg⟩ := h
  exact blk_lt hb
theorem IsS53.ge {w0 W : World} {g : Nat} {f0 : ByteArray} {f1 : Bool} (h : IsS53 w0 W g f0 f1) : w0.heap.size ≤ g := by
  obtain ⟨hb, hg⟩ := h
  exact hg
theorem IsS53.ne_blk {w0 W : World} {g : Nat} {f0 : ByteArray} {f1 : Bool} {a : Nat} {cs : Array Value} {t : TypeId} {fr : Nat × Nat} (h : IsS53 w0 W g f0 f1) (hb2 : W.heap[a]? = some (.cells cs t fr)) (ht : t ≠ 53) : g ≠ a := by
  obtain ⟨hb, hg⟩ := h
  rintro rfl
  rw [hb] at hb2
  injection hb2 with hb2
  injection hb2 with _ ht2
  exact ht ht2.symm
theorem IsS53.far {w0 W : World} {g : Nat} {f0 : ByteArray} {f1 : Bool} {p : Addr} (h : IsS53 w0 W g f0 f1) (hne : g ≠ p.block) (u : Value) : IsS53 w0 (W.setCell p u) g f0 f1 := by
  obtain ⟨hb, hg⟩ := h
  exact ⟨blk_far hb hne u, hg⟩
theorem cellS53_0 {W : World} {g : Nat} {f0 : ByteArray} {f1 : Bool} (h : W.heap[g]? = some (.cells #[.string f0, .bool f1] 53 (0, 0))) : W.cell? ⟨g, 0, none⟩ = some (.string f0) := (blk_cell h 0).trans rfl
theorem IsS53.set_0 {w0 W : World} {g : Nat} {f0 : ByteArray} {f1 : Bool} (h : IsS53 w0 W g f0 f1) (x : ByteArray) : IsS53 w0 (W.setCell ⟨g, 0, none⟩ (.string x)) g x f1 := by
  obtain ⟨hb, hg⟩ := h
  exact ⟨by simpa using blk_set hb 0 (.string x), hg⟩
theorem cellS53_1 {W : World} {g : Nat} {f0 : ByteArray} {f1 : Bool} (h : W.heap[g]? = some (.cells #[.string f0, .bool f1] 53 (0, 0))) : W.cell? ⟨g, 1, none⟩ = some (.bool f1) := (blk_cell h 1).trans rfl
theorem IsS53.set_1 {w0 W : World} {g : Nat} {f0 : ByteArray} {f1 : Bool} (h : IsS53 w0 W g f0 f1) (x : Bool) : IsS53 w0 (W.setCell ⟨g, 1, none⟩ (.bool x)) g f0 x := by
  obtain ⟨hb, hg⟩ := h
  exact ⟨by simpa using blk_set hb 1 (.bool x), hg⟩
theorem IsS53.new (w0 W : World) (f0 : ByteArray) (f1 : Bool) (hB : Below w0.heap.size w0 W) : IsS53 w0 (W.alloc (.cells #[.string f0, .bool f1] 53)) W.heap.size f0 f1 := ⟨by simpa using heap_alloc_new W _, hB.size⟩

/-! ### pack_Read: function 23 -/
def pack_Read.f (a0 : ByteArray) : Option (ByteArray × Bool) := some (a0, false)
set_option maxHeartbeats 8000000 in
set_option maxRecDepth 100000 in
theorem pack_Read.calls (a0 : ByteArray) (r1 : ByteArray) (r2 : Bool) (w0 w : World) (hB : Below w0.heap.size w0 w) (h : pack_Read.f a0 = some (r1, r2)) :
    Calls Try.prog 23 #[.string a0] w fun e w' => ∃ g_ : Nat, e = .returned (.pointer (some ⟨g_, 0, none⟩)) ∧ IsS53 w0 w' g_ r1 r2 ∧ Below w0.heap.size w0 w' ∧ Below w.heap.size w w' := by
  have hu53 := Try.underlying53
  have HBW := Aside0.mk (Below.refl w.heap.size w)
  have HW0 := Aside0.mk hB.size
  have HB := Aside0.mk hB
  clear hB
  have H : (some (a0, false)) = some (r1, r2) := h
  clear h
  simp only [Option.some.injEq, Prod.mk.injEq] at H
  obtain ⟨rfl, rfl⟩ := H
  go_enter Try.func23, Try.ntmps23
  go_wp2_with (first | ((with_reducible refine gate_dst (N := 5) rfl ?_); refine box_event ?hg (N := 5) ?hd (cs := #[.string a0, .bool false]) (t := 53) ?hr ?_; (case hd => rfl); (case hg => rfl); (case hr => first | (go_simp; done) | (go_simp; rfl)); intro gb102 hg w2 hbox hb; have n0_ := Aside0.mk (below_step HBW.out hb); have n1_ := Aside0.mk (below_step (by repeat (first | (with_reducible first | exact HB.out | apply below_alloc | apply pw_below_drewN | apply below_drew1) | exact HB.out)) hb); have n2_ := Aside0.mk (hbox); have n3_ := Aside0.mk ((by rw [hg]; exact (below_size (by repeat (first | (with_reducible first | exact HBW.out | apply below_alloc | apply pw_below_drewN | apply below_drew1) | exact HBW.out))) : w.heap.size ≤ gb102)); have n4_ := Aside0.mk ((Nat.le_trans HW0.out (by rw [hg]; exact (below_size (by repeat (first | (with_reducible first | exact HBW.out | apply below_alloc | apply pw_below_drewN | apply below_drew1) | exact HBW.out))) : w.heap.size ≤ gb102) : w0.heap.size ≤ gb102)); clear HBW; clear HB; have HBW := n0_; have HB := n1_; have BK102 := n2_; have GW102 := n3_; have GE102 := n4_; clear n0_ n1_ n2_ n3_ n4_; clear hb hbox hg))
  go_ret
  exact ⟨_, rfl, (show IsS53 w0 _ gb102 a0 false from ⟨by (with_reducible repeat (first | refine blk_drewN ?_ _ | refine blk_drew ?_ | refine blk_alloc ?_ _)); exact BK102.out, GE102.out⟩), by repeat (first | (with_reducible first | exact HB.out | apply below_alloc | apply pw_below_drewN | apply below_drew1 | refine below_set ?_ GE102.out) | exact HB.out), by repeat (first | (with_reducible first | exact HBW.out | apply below_alloc | apply pw_below_drewN | apply below_drew1 | refine below_set ?_ GW102.out) | exact HBW.out)⟩

/-! ### pack_Reader_take: function 40 -/
def pack_Reader_take.f (s0_0 : ByteArray) (s0_1 : Bool) (a1 : Int) : Option (ByteArray × Bool × ByteArray × Bool) := if s0_1 = true then (some ((⟨#[]⟩ : ByteArray), false, s0_0, true)) else (if a1 < 0 then (some ((⟨#[]⟩ : ByteArray), false, s0_0, true)) else (if a1 > (s0_0.size : Int) then (some ((⟨#[]⟩ : ByteArray), false, s0_0, decide (a1 > (s0_0.size : Int)))) else (if 0 ≤ a1 then (if a1 ≤ (s0_0.size : Int) then (some (s0_0.extract 0 (a1 : Int).toNat, true, s0_0.extract (a1 : Int).toNat s0_0.size, decide (a1 > (s0_0.size : Int)))) else (none)) else (none))))
set_option maxHeartbeats 8000000 in
set_option maxRecDepth 100000 in
theorem pack_Reader_take.calls (g : Nat) (s0_0 : ByteArray) (s0_1 : Bool) (a1 : Int) (r1 : ByteArray) (r2 : Bool) (r3 : ByteArray) (r4 : Bool) (w0 w : World) (hI : IsS53 w0 w g s0_0 s0_1) (hB : Below w0.heap.size w0 w) (h : pack_Reader_take.f s0_0 s0_1 a1 = some (r1, r2, r3, r4)) :
    Calls Try.prog 40 #[.pointer (some ⟨g, 0, none⟩), .int .i64 a1] w fun e w' => e = .returned (.tuple #[.string r1, .bool r2]) ∧ IsS53 w0 w' g r3 r4 ∧ Below w0.heap.size w0 w' ∧ KeepBut w w' g none := by
  have HI0 := Aside0.mk hI
  have HK := Aside0.mk (KeepBut.refl w g none)
  have HL := Aside0.mk hB.size
  clear hI
  have HW0 := Aside0.mk hB.size
  have HB := Aside0.mk hB
  clear hB
  have H : (if s0_1 = true then (some ((⟨#[]⟩ : ByteArray), false, s0_0, true)) else (if a1 < 0 then (some ((⟨#[]⟩ : ByteArray), false, s0_0, true)) else (if a1 > (s0_0.size : Int) then (some ((⟨#[]⟩ : ByteArray), false, s0_0, decide (a1 > (s0_0.size : Int)))) else (if 0 ≤ a1 then (if a1 ≤ (s0_0.size : Int) then (some (s0_0.extract 0 (a1 : Int).toNat, true, s0_0.extract (a1 : Int).toNat s0_0.size, decide (a1 > (s0_0.size : Int)))) else (none)) else (none))))) = some (r1, r2, r3, r4) := h
  clear h
  by_cases c3 : s0_1 = true
  · subst c3
    have H1 : (some ((⟨#[]⟩ : ByteArray), false, s0_0, true)) = some (r1, r2, r3, r4) := by rw [if_pos rfl] at H; exact H
    clear H
    have H := H1
    clear H1
    simp only [Option.some.injEq, Prod.mk.injEq] at H
    obtain ⟨rfl, rfl, rfl, rfl⟩ := H
    obtain ⟨HGz4, hgz4⟩ := HI0.out
    have hcz4_0 := cellS53_0 HGz4
    have hcz4_1 := cellS53_1 HGz4
    have hfz4_0 := blk_frozen HGz4 0
    have hfz4_1 := blk_frozen HGz4 1
    clear HGz4 hgz4
    go_enter Try.func40, Try.ntmps40
    go_wp2
    go_ret2
    (try simp only [gt_iff_lt, ge_iff_le, c5b0]); (try simp only [gt_iff_lt, ge_iff_le, c7b0])
    exact ⟨by first | rfl | (simp [errW_none, errW_some] <;> rfl) | (simp [*, errW_none, errW_some] <;> rfl), by repeat (first | (with_reducible first | exact HI0.out | apply IsS53.alloc | apply IsS53.drewN | apply IsS53.drew | apply IsS53.set_0 | apply IsS53.set_1) | exact HI0.out), by repeat (first | (with_reducible first | exact HB.out | apply below_alloc | apply pw_below_drewN | apply below_drew1 | refine below_set ?_ (IsS53.ge HI0.out)) | exact HB.out), by repeat (first | (with_reducible first | exact HK.out | apply KeepBut.set_ | apply keep_drewN | apply keep_drew | apply keep_alloc) | exact HK.out)⟩
  · replace c3 := Bool.eq_false_iff.mpr c3
    subst c3
    have H1 : (if a1 < 0 then (some ((⟨#[]⟩ : ByteArray), false, s0_0, true)) else (if a1 > (s0_0.size : Int) then (some ((⟨#[]⟩ : ByteArray), false, s0_0, decide (a1 > (s0_0.size : Int)))) else (if 0 ≤ a1 then (if a1 ≤ (s0_0.size : Int) then (some (s0_0.extract 0 (a1 : Int).toNat, true, s0_0.extract (a1 : Int).toNat s0_0.size, decide (a1 > (s0_0.size : Int)))) else (none)) else (none)))) = some (r1, r2, r3, r4) := by rw [if_neg (show ¬ (false = true) by decide)] at H; exact H
    clear H
    have H := H1
    clear H1
    by_cases c5 : a1 < 0
    · rw [if_pos c5] at H
      have c5b0 : decide (a1 < 0) = true := decide_eq_true c5
      clear c5
      simp only [Option.some.injEq, Prod.mk.injEq] at H
      obtain ⟨rfl, rfl, rfl, rfl⟩ := H
      obtain ⟨HGz6, hgz6⟩ := HI0.out
      have hcz6_0 := cellS53_0 HGz6
      have hcz6_1 := cellS53_1 HGz6
      have hfz6_0 := blk_frozen HGz6 0
      have hfz6_1 := blk_frozen HGz6 1
      clear HGz6 hgz6
      go_enter Try.func40, Try.ntmps40
      go_wp2
      go_ret2
      (try simp only [gt_iff_lt, ge_iff_le, c5b0]); (try simp only [gt_iff_lt, ge_iff_le, c7b0])
      exact ⟨by first | rfl | (simp [errW_none, errW_some] <;> rfl) | (simp [*, errW_none, errW_some] <;> rfl), by repeat (first | (with_reducible first | exact HI0.out | apply IsS53.alloc | apply IsS53.drewN | apply IsS53.drew | apply IsS53.set_0 | apply IsS53.set_1) | exact HI0.out), by repeat (first | (with_reducible first | exact HB.out | apply below_alloc | apply pw_below_drewN | apply below_drew1 | refine below_set ?_ (IsS53.ge HI0.out)) | exact HB.out), by repeat (first | (with_reducible first | exact HK.out | apply KeepBut.set_ | apply keep_drewN | apply keep_drew | apply keep_alloc) | exact HK.out)⟩
    · rw [if_neg c5] at H
      have c5b0 : decide (a1 < 0) = false := decide_eq_false c5
      clear c5
      by_cases c7 : a1 > (s0_0.size : Int)
      · rw [if_pos c7] at H
        have c7b0 : decide ((s0_0.size : Int) < a1) = true := decide_eq_true c7
        clear c7
        simp only [Option.some.injEq, Prod.mk.injEq] at H
        obtain ⟨rfl, rfl, rfl, rfl⟩ := H
        obtain ⟨HGz8, hgz8⟩ := HI0.out
        have hcz8_0 := cellS53_0 HGz8
        have hcz8_1 := cellS53_1 HGz8
        have hfz8_0 := blk_frozen HGz8 0
        have hfz8_1 := blk_frozen HGz8 1
        clear HGz8 hgz8
        go_enter Try.func40, Try.ntmps40
        go_wp2
        go_ret2
        (try simp only [gt_iff_lt, ge_iff_le, c5b0]); (try simp only [gt_iff_lt, ge_iff_le, c7b0])
        exact ⟨by first | rfl | (simp [errW_none, errW_some] <;> rfl) | (simp [*, errW_none, errW_some] <;> rfl), by repeat (first | (with_reducible first | exact HI0.out | apply IsS53.alloc | apply IsS53.drewN | apply IsS53.drew | apply IsS53.set_0 | apply IsS53.set_1) | exact HI0.out), by repeat (first | (with_reducible first | exact HB.out | apply below_alloc | apply pw_below_drewN | apply below_drew1 | refine below_set ?_ (IsS53.ge HI0.out)) | exact HB.out), by repeat (first | (with_reducible first | exact HK.out | apply KeepBut.set_ | apply keep_drewN | apply keep_drew | apply keep_alloc) | exact HK.out)⟩
      · rw [if_neg c7] at H
        have c7b0 : decide ((s0_0.size : Int) < a1) = false := decide_eq_false c7
        clear c7
        by_cases c9 : 0 ≤ a1
        · rw [if_pos c9] at H
          have c9b0 := eq_true c9
          have c9b1 : decide (0 ≤ a1) = true := decide_eq_true c9
          clear c9
          by_cases c10 : a1 ≤ (s0_0.size : Int)
          · rw [if_pos c10] at H
            have c10b0 := eq_true c10
            have c10b1 : decide (a1 ≤ (s0_0.size : Int)) = true := decide_eq_true c10
            clear c10
            have c11b0 := eq_true (of_decide_eq_true (by first | (with_reducible assumption) | assumption) : 0 ≤ a1)
            have c12b0 := eq_true (of_decide_eq_true (by first | (with_reducible assumption) | assumption) : a1 ≤ (s0_0.size : Int))
            simp only [Option.some.injEq, Prod.mk.injEq] at H
            obtain ⟨rfl, rfl, rfl, rfl⟩ := H
            obtain ⟨HGz13, hgz13⟩ := HI0.out
            have hcz13_0 := cellS53_0 HGz13
            have hcz13_1 := cellS53_1 HGz13
            have hfz13_0 := blk_frozen HGz13 0
            have hfz13_1 := blk_frozen HGz13 1
            clear HGz13 hgz13
            go_enter Try.func40, Try.ntmps40
            go_wp2
            go_ret2
            (try simp only [gt_iff_lt, ge_iff_le, c5b0]); (try simp only [gt_iff_lt, ge_iff_le, c7b0])
            exact ⟨by first | rfl | (simp [errW_none, errW_some] <;> rfl) | (simp [*, errW_none, errW_some] <;> rfl), by repeat (first | (with_reducible first | exact HI0.out | apply IsS53.alloc | apply IsS53.drewN | apply IsS53.drew | apply IsS53.set_0 | apply IsS53.set_1) | exact HI0.out), by repeat (first | (with_reducible first | exact HB.out | apply below_alloc | apply pw_below_drewN | apply below_drew1 | refine below_set ?_ (IsS53.ge HI0.out)) | exact HB.out), by repeat (first | (with_reducible first | exact HK.out | apply KeepBut.set_ | apply keep_drewN | apply keep_drew | apply keep_alloc) | exact HK.out)⟩
          · rw [if_neg c10] at H
            exact absurd H (by simp)
        · rw [if_neg c9] at H
          exact absurd H (by simp)

/-! ### pack_Reader_number: function 41: by hand -/
/-- The number of bytes, as the loop makes it. -/
def pack_Reader_number.step (n b : Int) : Int := Go.bits .or .u64 (IntKind.u64.wrap (n * 256)) b
def pack_Reader_number.of (s : ByteArray) : Int := (bytesOf s).foldl pack_Reader_number.step 0
def pack_Reader_number.f (s0_0 : ByteArray) (s0_1 : Bool) (a1 : Int) : Option (Int × ByteArray × Bool) :=
  if s0_0.size ≤ 9223372036854775807 then (pack_Reader_take.f s0_0 s0_1 a1).bind fun r => some (pack_Reader_number.of r.1, r.2.2.1, r.2.2.2) else none
theorem pack_Reader_number.wrap_byte (b : UInt8) : IntKind.u64.wrap ((b.toNat : Nat) : Int) = (b.toNat : Int) := by
  have := b.toNat_lt
  unfold IntKind.wrap
  simp only [IntKind.signed, IntKind.bits, Bool.false_and, Bool.false_eq_true, if_false]
  omega
theorem pack_Reader_number.take_size (s : ByteArray) (b : Bool) (a : Int) (r1 : ByteArray) (r2 : Bool) (r3 : ByteArray) (r4 : Bool) (h : pack_Reader_take.f s b a = some (r1, r2, r3, r4)) : r1.size ≤ s.size := by
  unfold pack_Reader_take.f at h
  repeat' split at h
  all_goals first | (simp at h; obtain ⟨rfl, _⟩ := h; first | (rw [ByteArray.size_extract]; omega) | (show 0 ≤ _; omega)) | cases h
theorem pack_Reader_number.of_take (s : ByteArray) (i : Nat) (hi : i < s.size) : ((bytesOf s).take (i + 1)).foldl pack_Reader_number.step 0 = Go.bits .or .u64 (IntKind.u64.wrap (((bytesOf s).take i).foldl pack_Reader_number.step 0 * 256)) (bt s i) := by
  have hl : i < (bytesOf s).length := by rw [bytesOf_length]; exact hi
  rw [List.take_succ_eq_append_getElem hl, List.foldl_append]
  simp only [List.foldl_cons, List.foldl_nil, pack_Reader_number.step]
  congr 1
  have e : (bytesOf s)[i] = (bytesOf s).getD i 0 := by rw [List.getD_eq_getElem?_getD, List.getElem?_eq_getElem hl]; rfl
  rw [e]
  unfold bt
  rw [dif_pos (by omega)]
  simp only [bytesOf, List.getD_eq_getElem?_getD, List.getElem?_map]
  rw [List.getElem?_eq_getElem (by rw [Array.length_toList]; exact hi)]
  rfl
set_option maxHeartbeats 1000000 in
theorem pack_Reader_number.calls (g : Nat) (s0_0 : ByteArray) (s0_1 : Bool) (a1 : Int) (r1 : Int) (r2 : ByteArray) (r3 : Bool) (w0 w : World) (hI : IsS53 w0 w g s0_0 s0_1) (hB : Below w0.heap.size w0 w) (h : pack_Reader_number.f s0_0 s0_1 a1 = some (r1, r2, r3)) :
    Calls Try.prog 41 #[.pointer (some ⟨g, 0, none⟩), .int .i64 a1] w fun e w' => e = .returned (.int .u64 r1) ∧ IsS53 w0 w' g r2 r3 ∧ Below w0.heap.size w0 w' ∧ KeepBut w w' g none := by
  unfold pack_Reader_number.f at h
  by_cases hs : s0_0.size ≤ 9223372036854775807
  case neg => rw [if_neg hs] at h; cases h
  rw [if_pos hs] at h
  obtain ⟨⟨t, ok, l, bad⟩, ht, h⟩ := Option.bind_eq_some_iff.mp h
  simp only [Option.some.injEq, Prod.mk.injEq] at h
  obtain ⟨rfl, rfl, rfl⟩ := h
  have hts := pack_Reader_number.take_size _ _ _ _ _ _ _ ht
  have hC := Aside0.mk (pack_Reader_take.calls g s0_0 s0_1 a1 t ok l bad w0 w hI hB ht)
  clear ht hI hB
  go_enter Try.func41, Try.ntmps41
  go_wp2_with fail
  refine hC.out.mono ?_
  rintro e w' ⟨rfl, hI', hB', hK'⟩
  have hI1 := Aside0.mk hI'
  have hB1 := Aside0.mk hB'
  have hK1 := Aside0.mk hK'
  clear hI' hB' hK' hC
  go_wp2
  go_loop [8, 9, 20] (fun v8 _ v20 => ∃ i : Nat, i ≤ t.size ∧ v8 = .int .u64 (((bytesOf t).take i).foldl pack_Reader_number.step 0) ∧ v20 = .int .i64 i) (fun _ _ v20 => t.size - (intOf v20).toNat)
  case atStart => exact ⟨0, Nat.zero_le _, rfl, rfl⟩
  case round =>
    obtain ⟨i, hi, rfl, rfl⟩ := hrel
    by_cases hlt : i < t.size
    · have HS := Aside0.mk (pack_Reader_number.of_take t i hlt)
      have hb : bt t i = ((t[i]'hlt).toNat : Int) := by unfold bt; rw [dif_pos (by omega)]; rfl
      rw [hb] at HS
      clear hb
      go_wp2
      go_round
      case rel => exact ⟨i + 1, by omega, by rw [HS.out, pack_Reader_number.wrap_byte], by go_num⟩
      case measure => simp [intOf]; omega
    · obtain rfl : i = t.size := by omega
      go_wp2
      go_ret
      exact ⟨by rw [List.take_of_length_le (by rw [bytesOf_length]; omega)]; rfl, hI1.out, hB1.out, hK1.out⟩


/-! ### pack_Reader_Two: function 28 -/
def pack_Reader_Two.f (s0_0 : ByteArray) (s0_1 : Bool) : Option (Int × ByteArray × Bool) := (pack_Reader_number.f s0_0 s0_1 2).bind fun bt103 => (some (wrap64 (bt103.1), bt103.2.1, bt103.2.2))
set_option maxHeartbeats 8000000 in
set_option maxRecDepth 100000 in
theorem pack_Reader_Two.calls (g : Nat) (s0_0 : ByteArray) (s0_1 : Bool) (r1 : Int) (r2 : ByteArray) (r3 : Bool) (w0 w : World) (hI : IsS53 w0 w g s0_0 s0_1) (hB : Below w0.heap.size w0 w) (h : pack_Reader_Two.f s0_0 s0_1 = some (r1, r2, r3)) :
    Calls Try.prog 28 #[.pointer (some ⟨g, 0, none⟩)] w fun e w' => e = .returned (.int .i64 r1) ∧ IsS53 w0 w' g r2 r3 ∧ Below w0.heap.size w0 w' ∧ KeepBut w w' g none := by
  have HI0 := Aside0.mk hI
  have HK := Aside0.mk (KeepBut.refl w g none)
  have HL := Aside0.mk hB.size
  clear hI
  have HW0 := Aside0.mk hB.size
  have HB := Aside0.mk hB
  clear hB
  have H : ((pack_Reader_number.f s0_0 s0_1 2).bind fun bt103 => (some (wrap64 (bt103.1), bt103.2.1, bt103.2.2))) = some (r1, r2, r3) := h
  clear h
  replace H := Option.bind_eq_some_iff.mp H
  obtain ⟨⟨t103, t104, t105⟩, A20, H⟩ := H
  replace H : (some (wrap64 (t103), t104, t105)) = some (r1, r2, r3) := H
  have A2 := Aside0.mk A20
  clear A20
  simp only [Option.some.injEq, Prod.mk.injEq] at H
  obtain ⟨rfl, rfl, rfl⟩ := H
  go_enter Try.func28, Try.ntmps28
  go_wp2_with (first | ((with_reducible refine gate_callee (f := 41) rfl ?_); refine goesL_ (some 4) rfl rfl Try.func41 (by kernel_rfl) rfl #[.pointer (some ⟨g, 0, none⟩), .int .i64 2] rfl (by (try simp only [List.map_toArray, List.map_cons, List.map_nil]); first | done | rfl | (simp only [List.length_drop, List.length_take]; rfl)) ?_; (with_reducible refine (pack_Reader_number.calls g s0_0 s0_1 2 t103 t104 t105 w0 _ ?side1 ?side2 A2.out).mono ?_); (case side1 => repeat (first | (with_reducible first | exact HI0.out | apply IsS53.alloc | apply IsS53.drewN | apply IsS53.drew | apply IsS53.set_0 | apply IsS53.set_1) | exact HI0.out)); (case side2 => repeat (first | (with_reducible first | exact HB.out | apply below_alloc | apply pw_below_drewN | apply below_drew1 | refine below_set ?_ (IsS53.ge HI0.out)) | exact HB.out)); rintro e w3 ⟨rfl, hi, hb, hk⟩; refine ⟨_, rfl, ?_⟩; have n0_ := Aside0.mk (KeepBut.trans (by repeat (first | (with_reducible first | exact HK.out | apply KeepBut.set_ | apply keep_drewN | apply keep_drew | apply keep_alloc) | exact HK.out)) hk (.inl rfl)); have n1_ := Aside0.mk (hb); have n2_ := Aside0.mk (hi); clear HK; clear HB; clear HI0; have HK := n0_; have HB := n1_; have HI0 := n2_; clear n0_ n1_ n2_; (try clear hb); (try clear hb2); (try clear hk); (try clear hi)))
  go_ret
  exact ⟨by first | rfl | (simp [errW_none, errW_some] <;> rfl) | (simp [*, errW_none, errW_some] <;> rfl), by repeat (first | (with_reducible first | exact HI0.out | apply IsS53.alloc | apply IsS53.drewN | apply IsS53.drew | apply IsS53.set_0 | apply IsS53.set_1) | exact HI0.out), by repeat (first | (with_reducible first | exact HB.out | apply below_alloc | apply pw_below_drewN | apply below_drew1 | refine below_set ?_ (IsS53.ge HI0.out)) | exact HB.out), by repeat (first | (with_reducible first | exact HK.out | apply KeepBut.set_ | apply keep_drewN | apply keep_drew | apply keep_alloc) | exact HK.out)⟩

/-! ### pack_Reader_Text: function 24 -/
def pack_Reader_Text.f (s0_0 : ByteArray) (s0_1 : Bool) : Option (ByteArray × ByteArray × Bool) := (pack_Reader_Two.f s0_0 s0_1).bind fun bt106 => ((pack_Reader_take.f bt106.2.1 bt106.2.2 bt106.1).bind fun bt109 => (some (bt109.1, bt109.2.2.1, bt109.2.2.2)))
set_option maxHeartbeats 8000000 in
set_option maxRecDepth 100000 in
theorem pack_Reader_Text.calls (g : Nat) (s0_0 : ByteArray) (s0_1 : Bool) (r1 : ByteArray) (r2 : ByteArray) (r3 : Bool) (w0 w : World) (hI : IsS53 w0 w g s0_0 s0_1) (hB : Below w0.heap.size w0 w) (h : pack_Reader_Text.f s0_0 s0_1 = some (r1, r2, r3)) :
    Calls Try.prog 24 #[.pointer (some ⟨g, 0, none⟩)] w fun e w' => e = .returned (.string r1) ∧ IsS53 w0 w' g r2 r3 ∧ Below w0.heap.size w0 w' ∧ KeepBut w w' g none := by
  have HI0 := Aside0.mk hI
  have HK := Aside0.mk (KeepBut.refl w g none)
  have HL := Aside0.mk hB.size
  clear hI
  have HW0 := Aside0.mk hB.size
  have HB := Aside0.mk hB
  clear hB
  have H : ((pack_Reader_Two.f s0_0 s0_1).bind fun bt106 => ((pack_Reader_take.f bt106.2.1 bt106.2.2 bt106.1).bind fun bt109 => (some (bt109.1, bt109.2.2.1, bt109.2.2.2)))) = some (r1, r2, r3) := h
  clear h
  replace H := Option.bind_eq_some_iff.mp H
  obtain ⟨⟨t106, t107, t108⟩, A20, H⟩ := H
  replace H : ((pack_Reader_take.f t107 t108 t106).bind fun bt109 => (some (bt109.1, bt109.2.2.1, bt109.2.2.2))) = some (r1, r2, r3) := H
  have A2 := Aside0.mk A20
  clear A20
  replace H := Option.bind_eq_some_iff.mp H
  obtain ⟨⟨t109, t110, t111, t112⟩, A30, H⟩ := H
  replace H : (some (t109, t111, t112)) = some (r1, r2, r3) := H
  have A3 := Aside0.mk A30
  clear A30
  simp only [Option.some.injEq, Prod.mk.injEq] at H
  obtain ⟨rfl, rfl, rfl⟩ := H
  go_enter Try.func24, Try.ntmps24
  go_wp2_with (first | ((with_reducible refine gate_callee (f := 28) rfl ?_); refine goesL_ (some 8) rfl rfl Try.func28 (by kernel_rfl) rfl #[.pointer (some ⟨g, 0, none⟩)] rfl (by (try simp only [List.map_toArray, List.map_cons, List.map_nil]); first | done | rfl | (simp only [List.length_drop, List.length_take]; rfl)) ?_; (with_reducible refine (pack_Reader_Two.calls g s0_0 s0_1 t106 t107 t108 w0 _ ?side1 ?side2 A2.out).mono ?_); (case side1 => repeat (first | (with_reducible first | exact HI0.out | apply IsS53.alloc | apply IsS53.drewN | apply IsS53.drew | apply IsS53.set_0 | apply IsS53.set_1) | exact HI0.out)); (case side2 => repeat (first | (with_reducible first | exact HB.out | apply below_alloc | apply pw_below_drewN | apply below_drew1 | refine below_set ?_ (IsS53.ge HI0.out)) | exact HB.out)); rintro e w4 ⟨rfl, hi, hb, hk⟩; refine ⟨_, rfl, ?_⟩; have n0_ := Aside0.mk (KeepBut.trans (by repeat (first | (with_reducible first | exact HK.out | apply KeepBut.set_ | apply keep_drewN | apply keep_drew | apply keep_alloc) | exact HK.out)) hk (.inl rfl)); have n1_ := Aside0.mk (hb); have n2_ := Aside0.mk (hi); clear HK; clear HB; clear HI0; have HK := n0_; have HB := n1_; have HI0 := n2_; clear n0_ n1_ n2_; (try clear hb); (try clear hb2); (try clear hk); (try clear hi)) | ((with_reducible refine gate_callee (f := 40) rfl ?_); refine goesL_ (some 9) rfl rfl Try.func40 (by kernel_rfl) rfl #[.pointer (some ⟨g, 0, none⟩), .int .i64 t106] rfl (by (try simp only [List.map_toArray, List.map_cons, List.map_nil]); first | done | rfl | (simp only [List.length_drop, List.length_take]; rfl)) ?_; (with_reducible refine (pack_Reader_take.calls g t107 t108 t106 t109 t110 t111 t112 w0 _ ?side1 ?side2 A3.out).mono ?_); (case side1 => repeat (first | (with_reducible first | exact HI0.out | apply IsS53.alloc | apply IsS53.drewN | apply IsS53.drew | apply IsS53.set_0 | apply IsS53.set_1) | exact HI0.out)); (case side2 => repeat (first | (with_reducible first | exact HB.out | apply below_alloc | apply pw_below_drewN | apply below_drew1 | refine below_set ?_ (IsS53.ge HI0.out)) | exact HB.out)); rintro e w5 ⟨rfl, hi, hb, hk⟩; refine ⟨_, rfl, ?_⟩; have n0_ := Aside0.mk (KeepBut.trans (by repeat (first | (with_reducible first | exact HK.out | apply KeepBut.set_ | apply keep_drewN | apply keep_drew | apply keep_alloc) | exact HK.out)) hk (.inl rfl)); have n1_ := Aside0.mk (hb); have n2_ := Aside0.mk (hi); clear HK; clear HB; clear HI0; have HK := n0_; have HB := n1_; have HI0 := n2_; clear n0_ n1_ n2_; (try clear hb); (try clear hb2); (try clear hk); (try clear hi)))
  go_ret
  exact ⟨by first | rfl | (simp [errW_none, errW_some] <;> rfl) | (simp [*, errW_none, errW_some] <;> rfl), by repeat (first | (with_reducible first | exact HI0.out | apply IsS53.alloc | apply IsS53.drewN | apply IsS53.drew | apply IsS53.set_0 | apply IsS53.set_1) | exact HI0.out), by repeat (first | (with_reducible first | exact HB.out | apply below_alloc | apply pw_below_drewN | apply below_drew1 | refine below_set ?_ (IsS53.ge HI0.out)) | exact HB.out), by repeat (first | (with_reducible first | exact HK.out | apply KeepBut.set_ | apply keep_drewN | apply keep_drew | apply keep_alloc) | exact HK.out)⟩

/-! ### pack_Open: function 15 -/
def pack_Open.f (a0 : ByteArray) : Option (ByteArray × Bool) := if (a0.size : Int) = 512 then ((pack_Read.f a0).bind fun bt113 => ((pack_Reader_Text.f bt113.1 bt113.2).bind fun bt116 => ((pack_Fill.f bt116.1).bind fun bt119 => (if bt119.2 = 0 then (if bt119.1.toList = a0.toList then (some (bt116.1, true)) else (some ((⟨#[]⟩ : ByteArray), false))) else (some ((⟨#[]⟩ : ByteArray), false)))))) else (some ((⟨#[]⟩ : ByteArray), false))
set_option maxHeartbeats 8000000 in
set_option maxRecDepth 100000 in
theorem pack_Open.calls (a0 : ByteArray) (r1 : ByteArray) (r2 : Bool) (w : World) (h : pack_Open.f a0 = some (r1, r2)) :
    Calls Try.prog 15 #[.string a0] w fun e w' => e = .returned (.tuple #[.string r1, .bool r2]) ∧ Below w.heap.size w w' := by
  have HB := Aside0.mk (Below.refl w.heap.size w)
  have H : (if (a0.size : Int) = 512 then ((pack_Read.f a0).bind fun bt113 => ((pack_Reader_Text.f bt113.1 bt113.2).bind fun bt116 => ((pack_Fill.f bt116.1).bind fun bt119 => (if bt119.2 = 0 then (if bt119.1.toList = a0.toList then (some (bt116.1, true)) else (some ((⟨#[]⟩ : ByteArray), false))) else (some ((⟨#[]⟩ : ByteArray), false)))))) else (some ((⟨#[]⟩ : ByteArray), false))) = some (r1, r2) := h
  clear h
  by_cases c2 : (a0.size : Int) = 512
  · rw [if_pos c2] at H
    have c2b0 : ((a0.size : Int) == 512) = true := beq_iff_eq.mpr c2
    have c2b1 : ((a0.size : Int) != 512) = false := bne_eq_false_iff_eq.mpr c2
    clear c2
    replace H := Option.bind_eq_some_iff.mp H
    obtain ⟨⟨t113, t114⟩, A30, H⟩ := H
    replace H : ((pack_Reader_Text.f t113 t114).bind fun bt116 => ((pack_Fill.f bt116.1).bind fun bt119 => (if bt119.2 = 0 then (if bt119.1.toList = a0.toList then (some (bt116.1, true)) else (some ((⟨#[]⟩ : ByteArray), false))) else (some ((⟨#[]⟩ : ByteArray), false))))) = some (r1, r2) := H
    have A3 := Aside0.mk A30
    clear A30
    replace H := Option.bind_eq_some_iff.mp H
    obtain ⟨⟨t116, t117, t118⟩, A40, H⟩ := H
    replace H : ((pack_Fill.f t116).bind fun bt119 => (if bt119.2 = 0 then (if bt119.1.toList = a0.toList then (some (t116, true)) else (some ((⟨#[]⟩ : ByteArray), false))) else (some ((⟨#[]⟩ : ByteArray), false)))) = some (r1, r2) := H
    have A4 := Aside0.mk A40
    clear A40
    replace H := Option.bind_eq_some_iff.mp H
    obtain ⟨⟨t119, t120⟩, A50, H⟩ := H
    replace H : (if t120 = 0 then (if t119.toList = a0.toList then (some (t116, true)) else (some ((⟨#[]⟩ : ByteArray), false))) else (some ((⟨#[]⟩ : ByteArray), false))) = some (r1, r2) := H
    have A5 := Aside0.mk A50
    clear A50
    by_cases c6 : t120 = 0
    · rw [if_pos c6] at H
      have c6b0 : (t120 == 0) = true := beq_iff_eq.mpr c6
      have c6b1 : (t120 != 0) = false := bne_eq_false_iff_eq.mpr c6
      clear c6
      by_cases c7 : t119.toList = a0.toList
      · rw [if_pos c7] at H
        have c7b0 : (t119.toList == a0.toList) = true := beq_iff_eq.mpr c7
        have c7b1 : (t119.toList != a0.toList) = false := bne_eq_false_iff_eq.mpr c7
        clear c7
        simp only [Option.some.injEq, Prod.mk.injEq] at H
        obtain ⟨rfl, rfl⟩ := H
        go_enter Try.func15, Try.ntmps15
        go_wp2_with (first | ((with_reducible refine gate_callee (f := 23) rfl ?_); refine goesL_ (some 11) rfl rfl Try.func23 (by kernel_rfl) rfl #[.string a0] rfl (by (try simp only [List.map_toArray, List.map_cons, List.map_nil]); first | done | rfl | (simp only [List.length_drop, List.length_take]; rfl)) ?_; (with_reducible refine (pack_Read.calls a0 t113 t114 w _ ?side1 A3.out).mono ?_); (case side1 => repeat (first | (with_reducible first | exact HB.out | apply below_alloc | apply pw_below_drewN | apply below_drew1) | exact HB.out)); rintro e w8 ⟨g115, rfl, hi, hb, hb2⟩; refine ⟨_, rfl, ?_⟩; have n0_ := Aside0.mk (hb); have n1_ := Aside0.mk (hi); clear HB; have HB := n0_; have HI115 := n1_; clear n0_ n1_; (try clear hb); (try clear hb2); (try clear hk); (try clear hi)) | ((with_reducible refine gate_callee (f := 24) rfl ?_); refine goesL_ (some 12) rfl rfl Try.func24 (by kernel_rfl) rfl #[.pointer (some ⟨g115, 0, none⟩)] rfl (by (try simp only [List.map_toArray, List.map_cons, List.map_nil]); first | done | rfl | (simp only [List.length_drop, List.length_take]; rfl)) ?_; (with_reducible refine (pack_Reader_Text.calls g115 t113 t114 t116 t117 t118 w _ ?side1 ?side2 A4.out).mono ?_); (case side1 => repeat (first | (with_reducible first | exact HI115.out | apply IsS53.alloc | apply IsS53.drewN | apply IsS53.drew | apply IsS53.set_0 | apply IsS53.set_1) | exact HI115.out)); (case side2 => repeat (first | (with_reducible first | exact HB.out | apply below_alloc | apply pw_below_drewN | apply below_drew1 | refine below_set ?_ (IsS53.ge HI115.out)) | exact HB.out)); rintro e w9 ⟨rfl, hi, hb, hk⟩; refine ⟨_, rfl, ?_⟩; have n0_ := Aside0.mk (hb); have n1_ := Aside0.mk (hi); clear HB; clear HI115; have HB := n0_; have HI115 := n1_; clear n0_ n1_; (try clear hb); (try clear hb2); (try clear hk); (try clear hi)) | ((with_reducible refine gate_callee (f := 13) rfl ?_); refine goesL_ (some 15) rfl rfl Try.func13 (by kernel_rfl) rfl #[.string t116] rfl (by (try simp only [List.map_toArray, List.map_cons, List.map_nil]); first | done | rfl | (simp only [List.length_drop, List.length_take]; rfl)) ?_; (with_reducible refine (pack_Fill.calls t116 t119 t120 _ A5.out).mono ?_); rintro e w10 ⟨rfl, hb⟩; refine ⟨_, rfl, ?_⟩; have n0_ := Aside0.mk (IsS53.below (by repeat (first | (with_reducible first | exact HI115.out | apply IsS53.alloc | apply IsS53.drewN | apply IsS53.drew | apply IsS53.set_0 | apply IsS53.set_1) | exact HI115.out)) hb); have n1_ := Aside0.mk (below_step (by repeat (first | (with_reducible first | exact HB.out | apply below_alloc | apply pw_below_drewN | apply below_drew1 | refine below_set ?_ (IsS53.ge HI115.out)) | exact HB.out)) hb); clear HI115; clear HB; have HI115 := n0_; have HB := n1_; clear n0_ n1_; (try clear hb); (try clear hb2); (try clear hk); (try clear hi)))
        go_ret2
        exact ⟨by first | rfl | (simp [errW_none, errW_some] <;> rfl) | (simp [*, errW_none, errW_some] <;> rfl), by repeat (first | (with_reducible first | exact HB.out | apply below_alloc | apply pw_below_drewN | apply below_drew1 | refine below_set ?_ (IsS53.ge HI115.out)) | exact HB.out)⟩
      · rw [if_neg c7] at H
        have c7b0 : (t119.toList == a0.toList) = false := beq_eq_false_iff_ne.mpr c7
        have c7b1 : (t119.toList != a0.toList) = true := bne_iff_ne.mpr c7
        simp only [Option.some.injEq, Prod.mk.injEq] at H
        obtain ⟨rfl, rfl⟩ := H
        go_enter Try.func15, Try.ntmps15
        go_wp2_with (first | ((with_reducible refine gate_callee (f := 23) rfl ?_); refine goesL_ (some 11) rfl rfl Try.func23 (by kernel_rfl) rfl #[.string a0] rfl (by (try simp only [List.map_toArray, List.map_cons, List.map_nil]); first | done | rfl | (simp only [List.length_drop, List.length_take]; rfl)) ?_; (with_reducible refine (pack_Read.calls a0 t113 t114 w _ ?side1 A3.out).mono ?_); (case side1 => repeat (first | (with_reducible first | exact HB.out | apply below_alloc | apply pw_below_drewN | apply below_drew1) | exact HB.out)); rintro e w11 ⟨g115, rfl, hi, hb, hb2⟩; refine ⟨_, rfl, ?_⟩; have n0_ := Aside0.mk (hb); have n1_ := Aside0.mk (hi); clear HB; have HB := n0_; have HI115 := n1_; clear n0_ n1_; (try clear hb); (try clear hb2); (try clear hk); (try clear hi)) | ((with_reducible refine gate_callee (f := 24) rfl ?_); refine goesL_ (some 12) rfl rfl Try.func24 (by kernel_rfl) rfl #[.pointer (some ⟨g115, 0, none⟩)] rfl (by (try simp only [List.map_toArray, List.map_cons, List.map_nil]); first | done | rfl | (simp only [List.length_drop, List.length_take]; rfl)) ?_; (with_reducible refine (pack_Reader_Text.calls g115 t113 t114 t116 t117 t118 w _ ?side1 ?side2 A4.out).mono ?_); (case side1 => repeat (first | (with_reducible first | exact HI115.out | apply IsS53.alloc | apply IsS53.drewN | apply IsS53.drew | apply IsS53.set_0 | apply IsS53.set_1) | exact HI115.out)); (case side2 => repeat (first | (with_reducible first | exact HB.out | apply below_alloc | apply pw_below_drewN | apply below_drew1 | refine below_set ?_ (IsS53.ge HI115.out)) | exact HB.out)); rintro e w12 ⟨rfl, hi, hb, hk⟩; refine ⟨_, rfl, ?_⟩; have n0_ := Aside0.mk (hb); have n1_ := Aside0.mk (hi); clear HB; clear HI115; have HB := n0_; have HI115 := n1_; clear n0_ n1_; (try clear hb); (try clear hb2); (try clear hk); (try clear hi)) | ((with_reducible refine gate_callee (f := 13) rfl ?_); refine goesL_ (some 15) rfl rfl Try.func13 (by kernel_rfl) rfl #[.string t116] rfl (by (try simp only [List.map_toArray, List.map_cons, List.map_nil]); first | done | rfl | (simp only [List.length_drop, List.length_take]; rfl)) ?_; (with_reducible refine (pack_Fill.calls t116 t119 t120 _ A5.out).mono ?_); rintro e w13 ⟨rfl, hb⟩; refine ⟨_, rfl, ?_⟩; have n0_ := Aside0.mk (IsS53.below (by repeat (first | (with_reducible first | exact HI115.out | apply IsS53.alloc | apply IsS53.drewN | apply IsS53.drew | apply IsS53.set_0 | apply IsS53.set_1) | exact HI115.out)) hb); have n1_ := Aside0.mk (below_step (by repeat (first | (with_reducible first | exact HB.out | apply below_alloc | apply pw_below_drewN | apply below_drew1 | refine below_set ?_ (IsS53.ge HI115.out)) | exact HB.out)) hb); clear HI115; clear HB; have HI115 := n0_; have HB := n1_; clear n0_ n1_; (try clear hb); (try clear hb2); (try clear hk); (try clear hi)))
        go_ret2
        exact ⟨by first | rfl | (simp [errW_none, errW_some] <;> rfl) | (simp [*, errW_none, errW_some] <;> rfl), by repeat (first | (with_reducible first | exact HB.out | apply below_alloc | apply pw_below_drewN | apply below_drew1 | refine below_set ?_ (IsS53.ge HI115.out)) | exact HB.out)⟩
    · rw [if_neg c6] at H
      have c6b0 : (t120 == 0) = false := beq_eq_false_iff_ne.mpr c6
      have c6b1 : (t120 != 0) = true := bne_iff_ne.mpr c6
      simp only [Option.some.injEq, Prod.mk.injEq] at H
      obtain ⟨rfl, rfl⟩ := H
      go_enter Try.func15, Try.ntmps15
      go_wp2_with (first | ((with_reducible refine gate_callee (f := 23) rfl ?_); refine goesL_ (some 11) rfl rfl Try.func23 (by kernel_rfl) rfl #[.string a0] rfl (by (try simp only [List.map_toArray, List.map_cons, List.map_nil]); first | done | rfl | (simp only [List.length_drop, List.length_take]; rfl)) ?_; (with_reducible refine (pack_Read.calls a0 t113 t114 w _ ?side1 A3.out).mono ?_); (case side1 => repeat (first | (with_reducible first | exact HB.out | apply below_alloc | apply pw_below_drewN | apply below_drew1) | exact HB.out)); rintro e w14 ⟨g115, rfl, hi, hb, hb2⟩; refine ⟨_, rfl, ?_⟩; have n0_ := Aside0.mk (hb); have n1_ := Aside0.mk (hi); clear HB; have HB := n0_; have HI115 := n1_; clear n0_ n1_; (try clear hb); (try clear hb2); (try clear hk); (try clear hi)) | ((with_reducible refine gate_callee (f := 24) rfl ?_); refine goesL_ (some 12) rfl rfl Try.func24 (by kernel_rfl) rfl #[.pointer (some ⟨g115, 0, none⟩)] rfl (by (try simp only [List.map_toArray, List.map_cons, List.map_nil]); first | done | rfl | (simp only [List.length_drop, List.length_take]; rfl)) ?_; (with_reducible refine (pack_Reader_Text.calls g115 t113 t114 t116 t117 t118 w _ ?side1 ?side2 A4.out).mono ?_); (case side1 => repeat (first | (with_reducible first | exact HI115.out | apply IsS53.alloc | apply IsS53.drewN | apply IsS53.drew | apply IsS53.set_0 | apply IsS53.set_1) | exact HI115.out)); (case side2 => repeat (first | (with_reducible first | exact HB.out | apply below_alloc | apply pw_below_drewN | apply below_drew1 | refine below_set ?_ (IsS53.ge HI115.out)) | exact HB.out)); rintro e w15 ⟨rfl, hi, hb, hk⟩; refine ⟨_, rfl, ?_⟩; have n0_ := Aside0.mk (hb); have n1_ := Aside0.mk (hi); clear HB; clear HI115; have HB := n0_; have HI115 := n1_; clear n0_ n1_; (try clear hb); (try clear hb2); (try clear hk); (try clear hi)) | ((with_reducible refine gate_callee (f := 13) rfl ?_); refine goesL_ (some 15) rfl rfl Try.func13 (by kernel_rfl) rfl #[.string t116] rfl (by (try simp only [List.map_toArray, List.map_cons, List.map_nil]); first | done | rfl | (simp only [List.length_drop, List.length_take]; rfl)) ?_; (with_reducible refine (pack_Fill.calls t116 t119 t120 _ A5.out).mono ?_); rintro e w16 ⟨rfl, hb⟩; refine ⟨_, rfl, ?_⟩; have n0_ := Aside0.mk (IsS53.below (by repeat (first | (with_reducible first | exact HI115.out | apply IsS53.alloc | apply IsS53.drewN | apply IsS53.drew | apply IsS53.set_0 | apply IsS53.set_1) | exact HI115.out)) hb); have n1_ := Aside0.mk (below_step (by repeat (first | (with_reducible first | exact HB.out | apply below_alloc | apply pw_below_drewN | apply below_drew1 | refine below_set ?_ (IsS53.ge HI115.out)) | exact HB.out)) hb); clear HI115; clear HB; have HI115 := n0_; have HB := n1_; clear n0_ n1_; (try clear hb); (try clear hb2); (try clear hk); (try clear hi)))
      go_ret2
      exact ⟨by first | rfl | (simp [errW_none, errW_some] <;> rfl) | (simp [*, errW_none, errW_some] <;> rfl), by repeat (first | (with_reducible first | exact HB.out | apply below_alloc | apply pw_below_drewN | apply below_drew1 | refine below_set ?_ (IsS53.ge HI115.out)) | exact HB.out)⟩
  · rw [if_neg c2] at H
    have c2b0 : ((a0.size : Int) == 512) = false := beq_eq_false_iff_ne.mpr c2
    have c2b1 : ((a0.size : Int) != 512) = true := bne_iff_ne.mpr c2
    simp only [Option.some.injEq, Prod.mk.injEq] at H
    obtain ⟨rfl, rfl⟩ := H
    go_enter Try.func15, Try.ntmps15
    go_wp2
    go_ret2
    exact ⟨by first | rfl | (simp [errW_none, errW_some] <;> rfl) | (simp [*, errW_none, errW_some] <;> rfl), by repeat (first | (with_reducible first | exact HB.out | apply below_alloc | apply pw_below_drewN | apply below_drew1) | exact HB.out)⟩

/-! ### pack_Text: function 17 -/
def pack_Text.f (a0 : ByteArray) : Option (ByteArray × Int) := if (a0.size : Int) > 65535 then (some ((⟨#[]⟩ : ByteArray), 11)) else ((pack_Two.f (IntKind.u16.wrap ((a0.size : Int)))).bind fun t121 => (if t121.size + a0.size ≤ 9223372036854775807 then (some (t121 ++ a0, 0)) else (none)))
set_option maxHeartbeats 8000000 in
set_option maxRecDepth 100000 in
theorem pack_Text.calls (a0 : ByteArray) (r1 : ByteArray) (r2 : Int) (w : World) (h : pack_Text.f a0 = some (r1, r2)) :
    Calls Try.prog 17 #[.string a0] w fun e w' => e = .returned (.tuple #[.string r1, .int .i64 r2]) ∧ Below w.heap.size w w' := by
  have HB := Aside0.mk (Below.refl w.heap.size w)
  have H : (if (a0.size : Int) > 65535 then (some ((⟨#[]⟩ : ByteArray), 11)) else ((pack_Two.f (IntKind.u16.wrap ((a0.size : Int)))).bind fun t121 => (if t121.size + a0.size ≤ 9223372036854775807 then (some (t121 ++ a0, 0)) else (none)))) = some (r1, r2) := h
  clear h
  by_cases c2 : (a0.size : Int) > 65535
  · rw [if_pos c2] at H
    have c2b0 : decide (65535 < (a0.size : Int)) = true := decide_eq_true c2
    have c2b1 : decide (65535 < a0.size) = true := decide_eq_true (by omega)
    clear c2
    simp only [Option.some.injEq, Prod.mk.injEq] at H
    obtain ⟨rfl, rfl⟩ := H
    go_enter Try.func17, Try.ntmps17
    go_wp2
    go_ret2
    exact ⟨by first | rfl | (simp [errW_none, errW_some] <;> rfl) | (simp [*, errW_none, errW_some] <;> rfl), by repeat (first | (with_reducible first | exact HB.out | apply below_alloc | apply pw_below_drewN | apply below_drew1) | exact HB.out)⟩
  · rw [if_neg c2] at H
    have c2b0 : decide (65535 < (a0.size : Int)) = false := decide_eq_false c2
    have c2b1 : decide (65535 < a0.size) = false := decide_eq_false (by omega)
    clear c2
    replace H := Option.bind_eq_some_iff.mp H
    obtain ⟨t121, A30, H⟩ := H
    replace H : (if t121.size + a0.size ≤ 9223372036854775807 then (some (t121 ++ a0, 0)) else (none)) = some (r1, r2) := H
    have A3 := Aside0.mk A30
    clear A30
    by_cases c4 : t121.size + a0.size ≤ 9223372036854775807
    · rw [if_pos c4] at H
      have c4b0 := eq_true c4
      have c4b1 : decide (t121.size + a0.size ≤ 9223372036854775807) = true := decide_eq_true c4
      try have c4b2 : (9223372036854775807 < t121.size + a0.size) = False := eq_false (Nat.not_lt.2 c4)
      simp only [Option.some.injEq, Prod.mk.injEq] at H
      obtain ⟨rfl, rfl⟩ := H
      go_enter Try.func17, Try.ntmps17
      go_wp2_with (first | ((with_reducible refine gate_callee (f := 19) rfl ?_); refine goesL_ (some 10) rfl rfl Try.func19 (by kernel_rfl) rfl #[.int .u16 (IntKind.u16.wrap ((a0.size : Int)))] rfl (by (try simp only [List.map_toArray, List.map_cons, List.map_nil]); first | done | rfl | (simp only [List.length_drop, List.length_take]; rfl)) ?_; (with_reducible refine (pack_Two.calls (IntKind.u16.wrap ((a0.size : Int))) t121 _ A3.out).mono ?_); rintro e w5 ⟨rfl, hb⟩; refine ⟨_, rfl, ?_⟩; have n0_ := Aside0.mk (below_step (by repeat (first | (with_reducible first | exact HB.out | apply below_alloc | apply pw_below_drewN | apply below_drew1) | exact HB.out)) hb); clear HB; have HB := n0_; clear n0_; (try clear hb); (try clear hb2); (try clear hk); (try clear hi)) | ((with_reducible refine gate_callee (f := 19) rfl ?_); refine goesL_ (some 10) rfl rfl Try.func19 (by kernel_rfl) rfl #[.int .u16 ((a0.size : Int))] rfl (by (try simp only [List.map_toArray, List.map_cons, List.map_nil]); first | done | rfl | (simp only [List.length_drop, List.length_take]; rfl)) ?_; (have h_ := A3.out); (repeat (first | rw [IntWalk.u16_in _ ⟨by (try simp only [decide_eq_true_eq, decide_eq_false_iff_not] at *); omega, by (try simp only [decide_eq_true_eq, decide_eq_false_iff_not] at *); omega⟩] at h_)); (with_reducible refine (pack_Two.calls ((a0.size : Int)) t121 _ h_).mono ?_); clear h_; rintro e w5 ⟨rfl, hb⟩; refine ⟨_, rfl, ?_⟩; have n0_ := Aside0.mk (below_step (by repeat (first | (with_reducible first | exact HB.out | apply below_alloc | apply pw_below_drewN | apply below_drew1) | exact HB.out)) hb); clear HB; have HB := n0_; clear n0_; (try clear hb); (try clear hb2); (try clear hk); (try clear hi)))
      go_ret2
      exact ⟨by first | rfl | (simp [errW_none, errW_some] <;> rfl) | (simp [*, errW_none, errW_some] <;> rfl), by repeat (first | (with_reducible first | exact HB.out | apply below_alloc | apply pw_below_drewN | apply below_drew1) | exact HB.out)⟩
    · rw [if_neg c4] at H
      exact absurd H (by simp)

/-! ### pack_number_uint32: function 38: by hand -/
/-- The bytes of a number, the greatest first: so many. -/
def pack_number_uint32.be (n : Int) (k : Nat) : List Int := (List.range k).map fun j => n / 2 ^ (8 * (k - 1 - j)) % 256
def pack_number_uint32.f (a0 a1 : Int) : Option ByteArray :=
  if 0 ≤ a0 ∧ a0 < 4294967296 ∧ 0 ≤ a1 ∧ a1 ≤ 4 then some (strOfNums (pack_number_uint32.be a0 a1.toNat)) else none
def pack_number_uint32.cs (n : Int) (k : Nat) : Nat → Array Value
  | 0 => #[.int .u8 0, .int .u8 0, .int .u8 0, .int .u8 0, .int .u8 0, .int .u8 0, .int .u8 0, .int .u8 0]
  | i + 1 => (pack_number_uint32.cs n k i).setIfInBounds (k - 1 - i) (.int .u8 (n / 2 ^ (8 * i) % 256))
theorem pack_number_uint32.cs_size (n : Int) (k i : Nat) : (pack_number_uint32.cs n k i).size = 8 := by
  induction i with
  | zero => rfl
  | succ i ih => simp only [pack_number_uint32.cs, Array.size_setIfInBounds]; exact ih
theorem pack_number_uint32.cs_at (n : Int) (k i : Nat) (hk : k ≤ 8) (hi : i ≤ k) : ∀ j, k - i ≤ j → j < k → (pack_number_uint32.cs n k i)[j]? = some (.int .u8 (n / 2 ^ (8 * (k - 1 - j)) % 256)) := by
  induction i with
  | zero => intro j h1 h2; omega
  | succ i ih =>
    intro j h1 h2
    have hs := pack_number_uint32.cs_size n k i
    simp only [pack_number_uint32.cs]
    by_cases e : j = k - 1 - i
    · subst e
      rw [Array.getElem?_setIfInBounds_self_of_lt (by omega)]
      rw [show k - 1 - (k - 1 - i) = i by omega]
    · rw [Array.getElem?_setIfInBounds_ne (by omega)]
      exact ih (by omega) j (by omega) h2
theorem pack_number_uint32.reads (w : World) (n : Int) (k : Nat) (hk : k ≤ 8) : ReadsInt (w.alloc (.cells (pack_number_uint32.cs n k k) 75)) .u8 (some ⟨w.heap.size, 0, none⟩) k (pack_number_uint32.be n k) := by
  refine ⟨by simp [pack_number_uint32.be], by omega, fun h0 => ⟨_, rfl, fun j hj => ?_⟩⟩
  rw [add_plain]
  have e : (w.alloc (.cells (pack_number_uint32.cs n k k) 75)).heap[w.heap.size]? = some (.cells (pack_number_uint32.cs n k k) 75 (0, 0)) := heap_alloc_new w _
  simp only [World.cell?, e]
  have g := pack_number_uint32.cs_at n k k hk (Nat.le_refl _) j (by omega) hj
  simp only [Option.isSome_none, Bool.false_eq_true, if_false]
  rw [g, pack_number_uint32.be, List.getD_eq_getElem?_getD, List.getElem?_map, List.getElem?_range hj]
  rfl
theorem pack_number_uint32.cut_ (W : World) (b k : Nat) (hk : k ≤ 8) : (Instr.sliceAt 75 (.pointer (some ⟨b, 0, none⟩)) none (some (.int .i64 k)) none).run Try.prog W = .ok (.slice (some ⟨b, 0, none⟩) k 8) W := by
  have e1 : Try.prog.arrayLen 75 = 8 := by simp only [Program.arrayLen, Try.underlying75]
  have e2 : Try.prog.elem 75 = 5 := by simp only [Program.elem, Try.underlying75]
  rw [run_sliceAt_array_h W 75 ⟨b, 0, none⟩ (by rw [e1, e2]; exact Try.underlying75) .i64 (k : Int) (by omega) (by rw [e1]; omega), e1, e2]
  have e3 : (sizeOf 5).run Try.prog W = .ok 1 W := by kernel_rfl
  rw [e3]
  simp only [Result.andThen, slicedAt, Int.toNat_natCast]
  simp [add_plain]
set_option maxHeartbeats 1000000 in
theorem pack_number_uint32.walk (n : Int) (k : Nat) (w : World) (h0 : 0 ≤ n) (h1 : n < 4294967296) (hk : k ≤ 4) :
    Calls Try.prog 38 #[.int .u32 n, .int .i64 k] w fun e w' => e = .returned (.string (strOfNums (pack_number_uint32.be n k))) ∧ Below w.heap.size w w' := by
  have hcb := Aside0.mk (string_of_reads (P := Try.prog) (c := 8) Try.underlying32 Try.underlying5 Try.underlying9 (pack_number_uint32.reads w n k (by omega)))
  go_enter Try.func38, Try.ntmps38
  go_wp2
  go_loopw [8] (fun v8 wr => ∃ i : Nat, i ≤ k ∧ v8 = .int .i64 i ∧ wr = w.alloc (.cells (pack_number_uint32.cs n k i) 75)) (fun v8 _ => k - (intOf v8).toNat)
  case atStart => exact ⟨0, Nat.zero_le _, rfl, rfl⟩
  case round =>
    obtain ⟨i, hi, rfl, rfl⟩ := hrel
    by_cases hlt : i < k
    · have hs := pack_number_uint32.cs_size n k i
      have hc0 : 0 ≤ 8 * (i : Int) := by omega
      have hc1 : 8 * (i : Int) ≤ 8 * 4 := by omega
      have hc2 : 8 * (i : Int) < 8 * 4 := by omega
      have hlt8 : k - 1 - i < (pack_number_uint32.cs n k i).size := by omega
      have hnew : (w.alloc (.cells (pack_number_uint32.cs n k i) 75)).heap[w.heap.size]? = some (.cells (pack_number_uint32.cs n k i) 75 (0, 0)) := heap_alloc_new w _
      have hcell : (w.alloc (.cells (pack_number_uint32.cs n k i) 75)).cell? ⟨w.heap.size, k - 1 - i, none⟩ = some ((pack_number_uint32.cs n k i)[k - 1 - i]'hlt8) := by
        simp only [World.cell?, hnew]
        simp [hlt8]
      have hfz : (w.alloc (.cells (pack_number_uint32.cs n k i) 75)).frozen? ⟨w.heap.size, k - 1 - i, none⟩ = false := by
        simp only [World.frozen?, hnew]
        simp
      clear hnew
      go_wp2
      go_roundw
      case rel => exact ⟨i + 1, by omega, by go_num, rfl⟩
      case measure => simp [intOf]; omega
    · obtain rfl : i = k := by omega
      have hcb' := hcb.out
      have hct := fun W => pack_number_uint32.cut_ W w.heap.size i (by omega)
      go_wp2
      go_ret
      exact ⟨rfl, (Below.refl _ _).alloc (Nat.le_refl _) _⟩
theorem pack_number_uint32.calls (a0 a1 : Int) (r : ByteArray) (w : World) (h : pack_number_uint32.f a0 a1 = some r) :
    Calls Try.prog 38 #[.int .u32 a0, .int .i64 a1] w fun e w' => e = .returned (.string r) ∧ Below w.heap.size w w' := by
  unfold pack_number_uint32.f at h
  by_cases hc : 0 ≤ a0 ∧ a0 < 4294967296 ∧ 0 ≤ a1 ∧ a1 ≤ 4
  · rw [if_pos hc] at h
    injection h with h; subst h
    obtain ⟨h0, h1, h2, h3⟩ := hc
    obtain ⟨k, rfl⟩ : ∃ k : Nat, a1 = k := ⟨a1.toNat, by omega⟩
    rw [Int.toNat_natCast]
    exact pack_number_uint32.walk a0 k w h0 h1 (by omega)
  · rw [if_neg hc] at h; cases h


/-! ### pack_Four: function 21 -/
def pack_Four.f (a0 : Int) : Option (ByteArray) := (pack_number_uint32.f a0 4).bind fun t122 => (some t122)
set_option maxHeartbeats 8000000 in
set_option maxRecDepth 100000 in
theorem pack_Four.calls (a0 : Int) (r : ByteArray) (w : World) (h : pack_Four.f a0 = some r) :
    Calls Try.prog 21 #[.int .u32 a0] w fun e w' => e = .returned (.string r) ∧ Below w.heap.size w w' := by
  have HB := Aside0.mk (Below.refl w.heap.size w)
  have H : ((pack_number_uint32.f a0 4).bind fun t122 => (some t122)) = some r := h
  clear h
  replace H := Option.bind_eq_some_iff.mp H
  obtain ⟨t122, A20, H⟩ := H
  replace H : (some t122) = some r := H
  have A2 := Aside0.mk A20
  clear A20
  obtain rfl := Option.some.inj H
  go_enter Try.func21, Try.ntmps21
  go_wp2_with (first | ((with_reducible refine gate_callee (f := 38) rfl ?_); refine goesL_ (some 4) rfl rfl Try.func38 (by kernel_rfl) rfl #[.int .u32 a0, .int .i64 4] rfl (by (try simp only [List.map_toArray, List.map_cons, List.map_nil]); first | done | rfl | (simp only [List.length_drop, List.length_take]; rfl)) ?_; (with_reducible refine (pack_number_uint32.calls a0 4 t122 _ A2.out).mono ?_); rintro e w3 ⟨rfl, hb⟩; refine ⟨_, rfl, ?_⟩; have n0_ := Aside0.mk (below_step (by repeat (first | (with_reducible first | exact HB.out | apply below_alloc | apply pw_below_drewN | apply below_drew1) | exact HB.out)) hb); clear HB; have HB := n0_; clear n0_; (try clear hb); (try clear hb2); (try clear hk); (try clear hi)))
  go_ret
  exact ⟨by first | rfl | (simp [errW_none, errW_some] <;> rfl) | (simp [*, errW_none, errW_some] <;> rfl), by repeat (first | (with_reducible first | exact HB.out | apply below_alloc | apply pw_below_drewN | apply below_drew1) | exact HB.out)⟩

/-! ### pack_Reader_End: function 27 -/
def pack_Reader_End.f (s0_0 : ByteArray) (s0_1 : Bool) : Option (Int × ByteArray × Bool) := if s0_1 = true then (some (10, s0_0, s0_1)) else (if s0_0.toList = ([] : List UInt8) then (some (0, s0_0, s0_1)) else (some (10, s0_0, s0_1)))
set_option maxHeartbeats 8000000 in
set_option maxRecDepth 100000 in
theorem pack_Reader_End.calls (g : Nat) (s0_0 : ByteArray) (s0_1 : Bool) (r1 : Int) (r2 : ByteArray) (r3 : Bool) (w0 w : World) (hI : IsS53 w0 w g s0_0 s0_1) (hB : Below w0.heap.size w0 w) (h : pack_Reader_End.f s0_0 s0_1 = some (r1, r2, r3)) :
    Calls Try.prog 27 #[.pointer (some ⟨g, 0, none⟩)] w fun e w' => e = .returned (.int .i64 r1) ∧ IsS53 w0 w' g r2 r3 ∧ Below w0.heap.size w0 w' ∧ KeepBut w w' g none := by
  have HI0 := Aside0.mk hI
  have HK := Aside0.mk (KeepBut.refl w g none)
  have HL := Aside0.mk hB.size
  clear hI
  have HW0 := Aside0.mk hB.size
  have HB := Aside0.mk hB
  clear hB
  have H : (if s0_1 = true then (some (10, s0_0, s0_1)) else (if s0_0.toList = ([] : List UInt8) then (some (0, s0_0, s0_1)) else (some (10, s0_0, s0_1)))) = some (r1, r2, r3) := h
  clear h
  by_cases c2 : s0_1 = true
  · subst c2
    have H1 : (some (10, s0_0, true)) = some (r1, r2, r3) := by rw [if_pos rfl] at H; exact H
    clear H
    have H := H1
    clear H1
    simp only [Option.some.injEq, Prod.mk.injEq] at H
    obtain ⟨rfl, rfl, rfl⟩ := H
    obtain ⟨HGz3, hgz3⟩ := HI0.out
    have hcz3_0 := cellS53_0 HGz3
    have hcz3_1 := cellS53_1 HGz3
    have hfz3_0 := blk_frozen HGz3 0
    have hfz3_1 := blk_frozen HGz3 1
    clear HGz3 hgz3
    go_enter Try.func27, Try.ntmps27
    go_wp2
    go_ret
    exact ⟨by first | rfl | (simp [errW_none, errW_some] <;> rfl) | (simp [*, errW_none, errW_some] <;> rfl), by repeat (first | (with_reducible first | exact HI0.out | apply IsS53.alloc | apply IsS53.drewN | apply IsS53.drew | apply IsS53.set_0 | apply IsS53.set_1) | exact HI0.out), by repeat (first | (with_reducible first | exact HB.out | apply below_alloc | apply pw_below_drewN | apply below_drew1 | refine below_set ?_ (IsS53.ge HI0.out)) | exact HB.out), by repeat (first | (with_reducible first | exact HK.out | apply KeepBut.set_ | apply keep_drewN | apply keep_drew | apply keep_alloc) | exact HK.out)⟩
  · replace c2 := Bool.eq_false_iff.mpr c2
    subst c2
    have H1 : (if s0_0.toList = ([] : List UInt8) then (some (0, s0_0, false)) else (some (10, s0_0, false))) = some (r1, r2, r3) := by rw [if_neg (show ¬ (false = true) by decide)] at H; exact H
    clear H
    have H := H1
    clear H1
    by_cases c4 : s0_0.toList = ([] : List UInt8)
    · rw [if_pos c4] at H
      have c4b0 : (s0_0.toList == ([] : List UInt8)) = true := beq_iff_eq.mpr c4
      have c4b1 : (s0_0.toList != ([] : List UInt8)) = false := bne_eq_false_iff_eq.mpr c4
      clear c4
      simp only [Option.some.injEq, Prod.mk.injEq] at H
      obtain ⟨rfl, rfl, rfl⟩ := H
      obtain ⟨HGz5, hgz5⟩ := HI0.out
      have hcz5_0 := cellS53_0 HGz5
      have hcz5_1 := cellS53_1 HGz5
      have hfz5_0 := blk_frozen HGz5 0
      have hfz5_1 := blk_frozen HGz5 1
      clear HGz5 hgz5
      go_enter Try.func27, Try.ntmps27
      go_wp2
      go_ret
      exact ⟨by first | rfl | (simp [errW_none, errW_some] <;> rfl) | (simp [*, errW_none, errW_some] <;> rfl), by repeat (first | (with_reducible first | exact HI0.out | apply IsS53.alloc | apply IsS53.drewN | apply IsS53.drew | apply IsS53.set_0 | apply IsS53.set_1) | exact HI0.out), by repeat (first | (with_reducible first | exact HB.out | apply below_alloc | apply pw_below_drewN | apply below_drew1 | refine below_set ?_ (IsS53.ge HI0.out)) | exact HB.out), by repeat (first | (with_reducible first | exact HK.out | apply KeepBut.set_ | apply keep_drewN | apply keep_drew | apply keep_alloc) | exact HK.out)⟩
    · rw [if_neg c4] at H
      have c4b0 : (s0_0.toList == ([] : List UInt8)) = false := beq_eq_false_iff_ne.mpr c4
      have c4b1 : (s0_0.toList != ([] : List UInt8)) = true := bne_iff_ne.mpr c4
      simp only [Option.some.injEq, Prod.mk.injEq] at H
      obtain ⟨rfl, rfl, rfl⟩ := H
      obtain ⟨HGz6, hgz6⟩ := HI0.out
      have hcz6_0 := cellS53_0 HGz6
      have hcz6_1 := cellS53_1 HGz6
      have hfz6_0 := blk_frozen HGz6 0
      have hfz6_1 := blk_frozen HGz6 1
      clear HGz6 hgz6
      go_enter Try.func27, Try.ntmps27
      go_wp2
      go_ret
      exact ⟨by first | rfl | (simp [errW_none, errW_some] <;> rfl) | (simp [*, errW_none, errW_some] <;> rfl), by repeat (first | (with_reducible first | exact HI0.out | apply IsS53.alloc | apply IsS53.drewN | apply IsS53.drew | apply IsS53.set_0 | apply IsS53.set_1) | exact HI0.out), by repeat (first | (with_reducible first | exact HB.out | apply below_alloc | apply pw_below_drewN | apply below_drew1 | refine below_set ?_ (IsS53.ge HI0.out)) | exact HB.out), by repeat (first | (with_reducible first | exact HK.out | apply KeepBut.set_ | apply keep_drewN | apply keep_drew | apply keep_alloc) | exact HK.out)⟩

end Go.Proofs.Ytfphaiobbpjpkaa.Q
