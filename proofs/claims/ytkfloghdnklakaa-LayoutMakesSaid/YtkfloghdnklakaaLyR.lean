/- Layouts' bytes in general: what Bytes and Read tell of any layout and of any bytes; the reference's the same. -/
import Derived.Test.YtkfloghdnklakaaQx8
import Derived.Test.YtkfloghdnklakaaQx9
import Derived.Test.YtkfloghdnklakaaLyB
import Derived.Test.YtkfloghdnklakaaLyZ
import Derived.Test.YtkfloghdnklakaaPkT
import Derived.Test.YtkfloghdnklakaaPkU
namespace Go.Proofs.Ytkfloghdnklakaa.Ly
open Go.RowKit Go.Proofs.Ytkfloghdnklakaa.Q Go.Proofs.Ytkfloghdnklakaa.By Go.Proofs.YtkfloghdnklakaaW.PrintWords Go.Proofs.YtkfloghdnklakaaW.PrintLast Go.Proofs.YtkfloghdnklakaaW.PrintMore
set_option linter.unusedVariables false
def bytesV (s n f z : Int) : ByteArray × Int := if IsL s n f z then (bytesL s n, 0) else (⟨#[]⟩, 1)
theorem bytes_val (s n f z : Int) (hs : -9223372036854775808 ≤ s) : ∀ k, 1 ≤ k → layout_Bytes.f k s n f z = some (bytesV s n f z) := by
  intro k hk
  unfold bytesV
  by_cases h : IsL s n f z
  · rw [if_pos h]; exact bytes_ok h k hk
  · rw [if_neg h]; exact bytes_bad h hs k hk
theorem rbytes_val (s n f z : Int) (hs : -9223372036854775808 ≤ s) : ∀ k, 20 ≤ k → lockgateref13_Bytes.f k s n f z = some (bytesV s n f z) := by
  intro k hk
  unfold bytesV lockgateref13_Bytes.f
  rw [rIs_val s n f z hs k (by omega)]
  simp only [Option.bind_some]
  by_cases h : IsL s n f z
  · have := h.n8; have := h.hf; have := h.n1; have := h.smax; have := h.hs
    have e1 := rnum_ok s (by omega) (by omega) 4 (by omega) k hk
    have e2 := rnum_ok n (by omega) (by omega) 2 (by omega) k hk
    rw [show ((4 : Nat) : Int) = 4 from rfl] at e1
    rw [show ((2 : Nat) : Int) = 2 from rfl] at e2
    rw [if_pos h, if_pos (decide_eq_true h), show IntKind.u64.wrap s = s from IntWalk.u64_in _ ⟨by omega, by omega⟩, e1]
    simp only [Option.bind_some]
    rw [if_pos (by rw [beS_size]; omega), show IntKind.u64.wrap n = n from IntWalk.u64_in _ ⟨by omega, by omega⟩, e2]
    simp only [Option.bind_some]
    rw [if_pos (by rw [app_size, beS_size, beS_size]; show 4 + 4 + 2 ≤ _; omega)]
    rfl
  · rw [if_neg h, if_neg (by simpa using h)]
/-- What is read of bytes. -/
def readV (B : ByteArray) : Int × Int × Int × Int × Int :=
  if B.size = 10 ∧ B.extract 0 4 = markS ∧ (newL (num (bytesOf (B.extract 4 8))) (num (bytesOf (B.extract 8 10)))).2.2.2.2 = 0 then newL (num (bytesOf (B.extract 4 8))) (num (bytesOf (B.extract 8 10))) else (0, 0, 0, 0, 10)
theorem newL_cases (s n : Int) : (∃ f z, IsL s n f z ∧ newL s n = (s, n, f, z, 0)) ∨ (∃ e, e ≠ 0 ∧ newL s n = (0, 0, 0, 0, e)) := by
  unfold newL
  by_cases c1 : 1 ≤ n ∧ n ≤ 8 ∧ s ≤ 65536
  · rw [if_pos c1]
    by_cases c2 : 2 + 40 * n + 12 ≤ s
    · rw [if_pos c2]
      exact .inl ⟨_, _, ⟨c1.1, c1.2.1, c1.2.2, rfl, c2, rfl⟩, rfl⟩
    · rw [if_neg c2]; exact .inr ⟨_, by omega, rfl⟩
  · rw [if_neg c1]; exact .inr ⟨_, by omega, rfl⟩
theorem not_zero : ¬ IsL 0 0 0 0 := fun h => by have := h.n1; omega
theorem bytesOf_inj {s t : ByteArray} (h : bytesOf s = bytesOf t) : s = t := by
  have hl : s.size = t.size := by rw [← bytesOf_length, ← bytesOf_length, h]
  refine Bm.bytes_ext hl fun k hk => ?_
  have h1 := Bm.bytesOf_getD s k
  have h2 := Bm.bytesOf_getD t k
  rw [h, h2] at h1
  omega
theorem nums_bytes (x : ByteArray) : strOfNums (bytesOf x) = x := bytesOf_inj (bytesOf_nums _ (Bm.bytesOf_range _))
theorem mark_of (B : ByteArray) (hz : B.size = 10) (h : B.extract 0 4 = markS) : B = bytesL (num (bytesOf (B.extract 4 8))) (num (bytesOf (B.extract 8 10))) := by
  have e1 := be_num (bytesOf (B.extract 4 8)) (Bm.bytesOf_range _)
  have e2 := be_num (bytesOf (B.extract 8 10)) (Bm.bytesOf_range _)
  rw [bytesOf_length, ext_size _ _ _ (by omega)] at e1 e2
  rw [show 8 - 4 = 4 from rfl] at e1
  rw [show 10 - 8 = 2 from rfl] at e2
  unfold bytesL beS
  rw [e1, e2, ← h, nums_bytes, nums_bytes]
  refine Bm.bytes_ext (by rw [app_size, app_size, ext_size _ _ _ (by omega), ext_size _ _ _ (by omega), ext_size _ _ _ (by omega)]; omega) fun j hj => ?_
  rw [app_byte, app_byte, app_size, ext_size _ _ _ (by omega), ext_size _ _ _ (by omega)]
  by_cases c1 : j < 4
  · rw [if_pos (by omega), if_pos (by omega), ext_byte _ _ _ _ (by omega) (by omega), Nat.zero_add]
  · by_cases c2 : j < 8
    · rw [if_pos (by omega), if_neg (by omega), ext_byte _ _ _ _ (by omega) (by omega)]; congr 1; omega
    · rw [if_neg (by omega), ext_byte _ _ _ _ (by omega) (by omega)]; congr 1; omega
theorem bytesL_mark (s n : Int) : (bytesL s n).extract 0 4 = markS := by
  unfold bytesL
  rw [app_assoc]
  exact ext_fst markS (beS s 4 ++ beS n 2)
theorem four_any (s : ByteArray) (b : Bool) (hs : s.size ≤ 140737488355328) : ∃ v T b', pack_Reader_Four.f s b = some (v, T, b') ∧ (0 ≤ v ∧ v < 4294967296) ∧ T.size ≤ s.size ∧ (b = false → 4 ≤ s.size → v = num (bytesOf (s.extract 0 4)) ∧ T = s.extract 4 s.size ∧ b' = false) := by
  unfold pack_Reader_Four.f
  by_cases c : b = true ∨ s.size < 4
  · have e := number_bad s b 4 c (by omega)
    rw [show ((4 : Nat) : Int) = 4 from rfl] at e
    rw [e]
    simp only [Option.bind_some]
    refine ⟨_, _, _, rfl, by decide +kernel, Nat.le_refl _, fun h1 h2 => ?_⟩
    rcases c with c | c
    · rw [h1] at c; cases c
    · omega
  · have hb : b = false := by cases b with
      | false => rfl
      | true => exact absurd (.inl rfl) c
    subst hb
    have e := number_ok s 4 (by omega) (by omega) (by omega)
    rw [show ((4 : Nat) : Int) = 4 from rfl] at e
    have hn := num_lt s 4 (by omega)
    rw [pow4'] at hn
    rw [e]
    simp only [Option.bind_some]
    rw [w64 (by omega) (by omega)]
    exact ⟨_, _, _, rfl, hn, by rw [ext_size _ _ _ (Nat.le_refl _)]; omega, fun _ _ => ⟨rfl, rfl, rfl⟩⟩
theorem two_any (s : ByteArray) (b : Bool) (hs : s.size ≤ 140737488355328) : ∃ v T b', pack_Reader_Two.f s b = some (v, T, b') ∧ (0 ≤ v ∧ v < 65536) ∧ (b = false → 2 ≤ s.size → v = num (bytesOf (s.extract 0 2))) := by
  by_cases c : b = true ∨ s.size < 2
  · refine ⟨_, _, _, rtwo_bad s b c (by omega), by omega, fun h1 h2 => ?_⟩
    rcases c with c | c
    · rw [h1] at c; cases c
    · omega
  · have hb : b = false := by cases b with
      | false => rfl
      | true => exact absurd (.inl rfl) c
    subst hb
    have hn := num_lt s 2 (by omega)
    rw [pow2] at hn
    exact ⟨_, _, _, rtwo_ok s (by omega) (by omega), hn, fun _ _ => rfl⟩
/-- What layout.Read tells of any bytes. -/
theorem read_val (B : ByteArray) (hB : B.size ≤ 100000) : ∀ k, 20 ≤ k → layout_Read.f k B = some (readV B) := by
  intro k hk
  by_cases c4 : B.size < 4
  · unfold layout_Read.f readV
    rw [if_pos (by omega), if_neg (fun g => by omega)]
  have hR : Rel (B.extract 4 B.size) (B.extract 4 B.size) false 0 := ⟨by rw [ext_size _ _ _ (Nat.le_refl _)]; omega, Nat.zero_le _, Nat.le_refl _, .inr (ext_all _).symm⟩
  have hz : (B.extract 4 B.size).size = B.size - 4 := ext_size _ _ _ (Nat.le_refl _)
  -- the two numbers, whatever they are
  obtain ⟨v, T, b1, u, U, b2, e1, e2, hv, hu, full⟩ : ∃ v T b1 u U b2, pack_Reader_Four.f (B.extract 4 B.size) false = some (v, T, b1) ∧ pack_Reader_Two.f T b1 = some (u, U, b2) ∧ (0 ≤ v ∧ v < 4294967296) ∧ (0 ≤ u ∧ u < 65536) ∧ (10 ≤ B.size → v = num (bytesOf (B.extract 4 8)) ∧ u = num (bytesOf (B.extract 8 10))) := by
    obtain ⟨v, T, b1, e1, hv, hT, f1⟩ := four_any (B.extract 4 B.size) false (by omega)
    obtain ⟨u, U, b2, e2, hu, f2⟩ := two_any T b1 (by omega)
    refine ⟨v, T, b1, u, U, b2, e1, e2, hv, hu, fun h => ?_⟩
    obtain ⟨g1, g2, g3⟩ := f1 rfl (by omega)
    have g4 := f2 g3 (by rw [g2, ext_size _ _ _ (Nat.le_refl _)]; omega)
    rw [ext_ext B 4 0 4 (by omega) (by omega)] at g1
    refine ⟨g1, ?_⟩
    rw [g4, g2, hz, ext_ext B 4 4 (B.size - 4) (by omega) (by omega), show 4 + (B.size - 4) = B.size by omega, show 4 + 4 = 8 from rfl, ext_ext B 8 0 2 (by omega) (by omega)]
  unfold layout_Read.f
  rw [if_neg (by omega), if_pos (by omega)]
  unfold pack_Read.f
  simp only [Option.bind_some]
  rw [e1]
  simp only [Option.bind_some]
  rw [e2]
  simp only [Option.bind_some]
  rw [new_val v u (by omega) k (by omega)]
  simp only [Option.bind_some]
  obtain ⟨f, z, hL, e⟩ | ⟨e, he, hn⟩ := newL_cases v u
  · rw [e, bytes_ok hL k (by omega)]
    simp only [Option.bind_some, if_true]
    by_cases c : bytesL v u = B
    · have c10 : B.size = 10 := by rw [← c]; exact bytesL_size v u
      obtain ⟨f1, f2⟩ := full (by omega)
      rw [if_pos (Bm.toList_ext.2 c)]
      unfold readV
      rw [← f1, ← f2, e, if_pos ⟨c10, by rw [← c]; exact bytesL_mark v u, rfl⟩]
    · rw [if_neg (fun g => c (Bm.toList_ext.1 g))]
      unfold readV
      rw [if_neg]
      rintro ⟨c10, cm, _⟩
      obtain ⟨f1, f2⟩ := full (by omega)
      exact c (by rw [f1, f2]; exact (mark_of B c10 cm).symm)
  · rw [hn, bytes_bad not_zero (by omega) k (by omega)]
    simp only [Option.bind_some]
    rw [if_neg (by omega)]
    unfold readV
    rw [if_neg]
    rintro ⟨c10, cm, c0⟩
    obtain ⟨f1, f2⟩ := full (by omega)
    rw [← f1, ← f2, hn] at c0
    exact he c0
/-- What the reference's Read tells of any bytes: the same. -/
theorem rread_val (B : ByteArray) (hB : B.size ≤ 100000) : ∀ k, 21 ≤ k → lockgateref13_Read.f k B = some (readV B) := by
  intro k hk
  obtain ⟨k, rfl⟩ : ∃ q, k = q + 1 := ⟨k - 1, by omega⟩
  unfold lockgateref13_Read.f
  by_cases c10 : B.size = 10
  · rw [if_pos (by omega), if_pos (by omega), if_pos (by omega), lockgateref13_Read.j0.eq_2]
    have em : ([76, 71, 83, 49] : List UInt8) = markS.toList := by decide +kernel
    rw [em]
    by_cases cm : B.extract 0 4 = markS
    · rw [cm, if_neg (by simp), if_pos (by omega)]
      have hz : (B.extract 4 B.size).size = B.size - 4 := ext_size _ _ _ (Nat.le_refl _)
      have e1 := rrnum_ok (B.extract 4 B.size) 0 4 (by omega) (by omega) (by omega) k (by omega)
      have e2 := rrnum_ok (B.extract 4 B.size) 4 2 (by omega) (by omega) (by omega) k (by omega)
      have n1 := num_ext B 4 8 (by omega) (by omega)
      have n2 := num_ext B 8 10 (by omega) (by omega)
      rw [show 8 - 4 = 4 from rfl, pow4'] at n1
      rw [show 10 - 8 = 2 from rfl, pow2] at n2
      rw [ext_ext B 4 0 (0 + 4) (by omega) (by omega), show 4 + 0 = 4 from rfl, show 4 + (0 + 4) = 8 from rfl, show ((4 : Nat) : Int) = 4 from rfl] at e1
      rw [ext_ext B 4 4 (4 + 2) (by omega) (by omega), show 4 + 4 = 8 from rfl, show 4 + (4 + 2) = 10 from rfl, show ((2 : Nat) : Int) = 2 from rfl, show ((4 : Nat) : Int) = 4 from rfl] at e2
      rw [show ((0 : Nat) : Int) = 0 from rfl] at e1
      unfold lockgateref01_Reader_Four.f
      rw [e1]
      simp only [Option.bind_some]
      unfold lockgateref01_Reader_Two.f
      rw [e2]
      simp only [Option.bind_some]
      rw [w64 (x := num (bytesOf (B.extract 4 8))) (by omega) (by omega), w64 (x := num (bytesOf (B.extract 8 10))) (by omega) (by omega), rnew_val _ _ (by omega) k (by omega)]
      simp only [Option.bind_some]
      unfold readV
      obtain ⟨f, z, hL, e⟩ | ⟨e, he, hn⟩ := newL_cases (num (bytesOf (B.extract 4 8))) (num (bytesOf (B.extract 8 10)))
      · rw [e, if_pos rfl, if_pos ⟨c10, cm, rfl⟩]
      · rw [hn, if_neg he, if_neg (fun g => he g.2.2)]
    · have ne : ((B.extract 0 4).toList != markS.toList) = true := by
        rw [bne_iff_ne]; exact fun g => cm (Bm.toList_ext.1 g)
      rw [ne, if_pos rfl]
      unfold readV
      rw [if_neg (fun g => cm g.2.1)]
  · rw [if_neg (by omega), lockgateref13_Read.j0.eq_2, if_pos rfl]
    unfold readV
    rw [if_neg (fun g => c10 g.1)]
end Go.Proofs.Ytkfloghdnklakaa.Ly
