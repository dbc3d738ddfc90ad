/- Chapter 15: reading lists, the program's and the reference's; lists' bytes as the reference has them; sizes. -/
import Derived.Test.YtgmbmkjdfmoanaaDoorQx13
import Derived.Test.YtgmbmkjdfmoanaaDoorQx14
import Derived.Test.YtgmbmkjdfmoanaaDoorQx15
import Derived.Test.YtgmbmkjdfmoanaaDoorEnB
import Derived.Test.YtgmbmkjdfmoanaaDoorPkT
import Derived.Test.YtgmbmkjdfmoanaaDoorPkU
namespace Go.Proofs.YtgmbmkjdfmoanaaDoor.By
open Go.RowKit Go.Proofs.YtgmbmkjdfmoanaaDoor.Bm Go.Proofs.YtgmbmkjdfmoanaaDoor.Q Go.Proofs.YtgmbmkjdfmoanaaDoorW.PrintWords Go.Proofs.YtgmbmkjdfmoanaaDoorW.PrintMore
set_option linter.unusedVariables false
theorem rleftE (s : ByteArray) (b : Bool) : pack_Reader_Left.f s b = some (if b = true then (0 : Int) else (s.size : Int), s, b) := by
  unfold pack_Reader_Left.f
  cases b with
  | true => simp
  | false => simp
theorem rendE (s : ByteArray) (b : Bool) : pack_Reader_End.f s b = some (if b = true ∨ s.size ≠ 0 then 10 else 0, s, b) := by
  unfold pack_Reader_End.f
  cases b with
  | true => simp
  | false =>
    rw [if_neg (by simp)]
    by_cases h : s.size = 0
    · rw [if_pos (toList_nil.2 (nil_of_size h)), if_neg (by simp [h])]
    · rw [if_neg (fun e => h (by rw [toList_nil.1 e]; rfl)), if_pos (.inr h)]
theorem rtextE (s rest : ByteArray) (h : s.size ≤ 65535) (hs : rest.size ≤ 140737488355328) : pack_Reader_Text.f (beS s.size 2 ++ s ++ rest) false = some (s, rest, false) := by
  unfold pack_Reader_Text.f
  rw [app_assoc, rtwo_ok _ (by rw [app_size, beS_size]; omega) (by rw [app_size, app_size, beS_size]; omega), Option.bind_some]
  rw [num_beS _ _ _ (by omega) (by rw [pow2]; omega), rest_beS, take_ok _ _ (by rw [app_size]; omega), Option.bind_some, ext_fst, ext_cut]
/-- Text: the same; it takes two bytes at least, or breaks. -/
theorem text_relE (S l : ByteArray) (b : Bool) (a : Nat) (h : Rel S l b a) (K : Nat) (hK : 20 ≤ K) :
    ∃ t l' b' a', pack_Reader_Text.f l b = some (t, l', b') ∧ lockgateref01_Reader_Text.f K S a b = some (t, S, ((a' : Nat) : Int), b') ∧ Rel S l' b' a' ∧ a ≤ a' ∧ (b' = false → a + 2 ≤ a') ∧ t.size ≤ S.size := by
  obtain ⟨v, l', b', a', e1, e2, hR, h0, h1, hz⟩ := two_rel S l b a h K hK
  have hmono : a ≤ a' ∧ (b' = false → a + 2 ≤ a') := by
    unfold lockgateref01_Reader_Two.f at e2
    obtain ⟨hS, ha, hl, hh⟩ := h
    by_cases c : b = true ∨ S.size < a + 2
    · rw [show (2 : Int) = ((2 : Nat) : Int) from rfl, rrnum_bad S a 2 b c ha (by omega) hS K hK, Option.bind_some] at e2
      simp only [Option.some.injEq, Prod.mk.injEq] at e2
      obtain ⟨_, _, e3, e4⟩ := e2
      have : a = a' := by exact_mod_cast e3
      refine ⟨by omega, fun g => by rw [← e4] at g; cases g⟩
    · have hb : b = false := by cases b with
        | false => rfl
        | true => exact absurd (.inl rfl) c
      subst hb
      have c2 : ¬ S.size < a + 2 := fun g => c (.inr g)
      rw [show (2 : Int) = ((2 : Nat) : Int) from rfl, rrnum_ok S a 2 (by omega) (by omega) hS K hK, Option.bind_some] at e2
      simp only [Option.some.injEq, Prod.mk.injEq] at e2
      obtain ⟨_, _, e3, _⟩ := e2
      have : a + 2 = a' := by exact_mod_cast e3
      exact ⟨by omega, fun _ => by omega⟩
  have hT : Rel S l' true a' := ⟨hR.1, hR.2.1, hR.2.2.1, .inl rfl⟩
  unfold pack_Reader_Text.f lockgateref01_Reader_Text.f
  rw [e1, e2, Option.bind_some, Option.bind_some]
  dsimp only
  obtain ⟨n, rfl⟩ : ∃ n : Nat, v = n := ⟨v.toNat, by omega⟩
  cases b' with
  | true =>
    refine ⟨⟨#[]⟩, l', true, a', ?_, by rw [if_pos rfl], hT, hmono.1, fun g => (by cases g), Nat.zero_le _⟩
    rw [take_bad l' true n (.inl rfl)]
    rfl
  | false =>
    have e : l' = S.extract a' S.size := hR.2.2.2.resolve_left (by simp)
    have hz : l'.size = S.size - a' := by rw [e, ext_size _ _ _ (Nat.le_refl _)]
    obtain ⟨hS, ha, _, _⟩ := hR
    rw [if_neg (by simp), w64 (x := (S.size : Int) - (a' : Int)) (by omega) (by omega)]
    by_cases c : l'.size < n
    · refine ⟨⟨#[]⟩, l', true, a', ?_, by rw [if_pos (by omega)], hT, hmono.1, fun g => (by cases g), Nat.zero_le _⟩
      rw [take_bad l' false n (.inr (.inr (by omega)))]
      rfl
    · have e1 : l'.extract 0 n = S.extract a' (a' + n) := by rw [e, ext_ext S a' 0 n (by omega) (by omega), Nat.add_zero]
      have e2 : l'.extract n l'.size = S.extract (a' + n) S.size := by
        rw [hz, e, ext_ext S a' n (S.size - a') (by omega) (by omega)]
        congr 1; omega
      have hm2 := hmono.2 rfl
      refine ⟨S.extract a' (a' + n), S.extract (a' + n) S.size, false, a' + n, ?_, ?_, ⟨hS, by omega, by rw [ext_size _ _ _ (Nat.le_refl _)]; omega, .inr rfl⟩, by omega, fun _ => by omega, by rw [ext_size _ _ _ (by omega)]; omega⟩
      · rw [take_ok l' n (by omega), e1, e2]
        rfl
      · rw [if_neg (by omega), w64 (x := (a' : Int) + (n : Int)) (by omega) (by omega), if_pos (by omega), if_pos (by omega), if_pos (by omega), show ((a' : Int) + (n : Int)) = ((a' + n : Nat) : Int) by omega, Int.toNat_natCast, Int.toNat_natCast]
theorem four_relE (S l : ByteArray) (b : Bool) (a : Nat) (h : Rel S l b a) (K : Nat) (hK : 20 ≤ K) :
    ∃ v l' b' a', pack_Reader_Four.f l b = some (v, l', b') ∧ lockgateref01_Reader_Four.f K S a b = some (v, S, ((a' : Nat) : Int), b') ∧ Rel S l' b' a' ∧ a ≤ a' ∧ (b = true → b' = true) := by
  obtain ⟨v, l', b', a', e1, e2, hR⟩ := four_rel S l b a h K hK
  refine ⟨v, l', b', a', e1, e2, hR, ?_⟩
  unfold lockgateref01_Reader_Four.f at e2
  obtain ⟨hS, ha, hl, hh⟩ := h
  by_cases c : b = true ∨ S.size < a + 4
  · rw [show (4 : Int) = ((4 : Nat) : Int) from rfl, rrnum_bad S a 4 b c ha (by omega) hS K hK, Option.bind_some] at e2
    simp only [Option.some.injEq, Prod.mk.injEq] at e2
    obtain ⟨_, _, e3, e4⟩ := e2
    have : a = a' := by exact_mod_cast e3
    exact ⟨by omega, fun _ => e4.symm⟩
  · have hb : b = false := by cases b with
      | false => rfl
      | true => exact absurd (.inl rfl) c
    subst hb
    have c2 : ¬ S.size < a + 4 := fun g => c (.inr g)
    rw [show (4 : Int) = ((4 : Nat) : Int) from rfl, rrnum_ok S a 4 (by omega) (by omega) hS K hK, Option.bind_some] at e2
    simp only [Option.some.injEq, Prod.mk.injEq] at e2
    obtain ⟨_, _, e3, _⟩ := e2
    have : a + 4 = a' := by exact_mod_cast e3
    exact ⟨by omega, fun g => by cases g⟩
theorem left_relE (S l : ByteArray) (b : Bool) (a : Nat) (h : Rel S l b a) :
    pack_Reader_Left.f l b = some (if b = true then (0 : Int) else ((S.size - a : Nat) : Int), l, b) ∧ lockgateref01_Reader_Left.f S a b = some (if b = true then (0 : Int) else ((S.size - a : Nat) : Int), S, (a : Int), b) := by
  obtain ⟨hS, ha, hl, h⟩ := h
  rw [rleftE]
  unfold lockgateref01_Reader_Left.f
  cases b with
  | true => exact ⟨by simp, by simp⟩
  | false =>
    have e : l = S.extract a S.size := h.resolve_left (by simp)
    have hz : l.size = S.size - a := by rw [e, ext_size _ _ _ (Nat.le_refl _)]
    rw [if_neg (by simp), if_neg (by simp), if_neg (by simp), w64 (by omega) (by omega), hz]
    exact ⟨rfl, by rw [show (S.size : Int) - (a : Int) = ((S.size - a : Nat) : Int) by omega]⟩
theorem end_relE (S l : ByteArray) (b : Bool) (a : Nat) (h : Rel S l b a) :
    ∃ v, pack_Reader_End.f l b = some (v, l, b) ∧ lockgateref01_Reader_End.f S a b = some (v, S, (a : Int), b) := by
  obtain ⟨hS, ha, hl, h⟩ := h
  rw [rendE]
  unfold lockgateref01_Reader_End.f
  cases b with
  | true => exact ⟨10, by rw [if_pos (.inl rfl)], by rw [if_pos rfl]⟩
  | false =>
    have e : l = S.extract a S.size := h.resolve_left (by simp)
    have hz : l.size = S.size - a := by rw [e, ext_size _ _ _ (Nat.le_refl _)]
    rw [if_neg (show ¬ (false = true) by simp)]
    by_cases c : a < S.size
    · exact ⟨10, by rw [if_pos (.inr (by omega))], by rw [if_pos (by omega)]⟩
    · have hn : ¬ (false = true ∨ l.size ≠ 0) := fun g => (g.resolve_left (by simp)) (by omega)
      exact ⟨0, by rw [if_neg hn], by rw [if_neg (by omega)]⟩
/-! ### right -/
theorem right2_loop (m : List S43) (hl : m.length ≤ 1000) (d : Nat) : ∀ (k i : Nat), i + d = m.length → d + 50 < k →
    ∃ b, entry_right.l0 k m m m.length i = some b ∧ lockgateref15_Right.l0 k m i = some b ∧ (b = true → ∀ j (h : j < m.length), i ≤ j → okE m[j]) := by
  induction d with
  | zero =>
    intro k i hi hk
    obtain ⟨k, rfl⟩ : ∃ q, k = q + 1 := ⟨k - 1, by omega⟩
    exact ⟨true, by rw [entry_right.l0.eq_2, if_neg (by omega)], by rw [lockgateref15_Right.l0.eq_2, if_neg (by omega)], fun _ j h hj => by omega⟩
  | succ d ih =>
    intro k i hi hk
    obtain ⟨k, rfl⟩ : ∃ q, k = q + 1 := ⟨k - 1, by omega⟩
    obtain ⟨b, hb, hb2, hok⟩ := ih k (i + 1) (by omega) (by omega)
    have hli : i < m.length := by omega
    have hi1 : wrap64 ((i : Int) + 1) = ((i + 1 : Nat) : Int) := by rw [w64 (by omega) (by omega)]; omega
    have E1 : entry_right.l0 (k + 1) m m m.length i = (if entry_Name.is (m[i]).f0 = true then (if (m[i]).f1 < 0 then some false else (if (m[i]).f1 > 65535 then some false else (if (i : Int) > 0 then (if 0 ≤ wrap64 ((i : Int) - 1) then (if wrap64 ((i : Int) - 1) < (m.length : Int) then (if Op.bytesLess ((rd_T43 m (wrap64 ((i : Int) - 1))).f0).toList ((m[i]).f0).toList = true then some b else some false) else none) else none) else some b))) else some false) := by
      rw [entry_right.l0.eq_2, if_pos (by omega), if_pos (by omega), if_pos (by omega), rd_getE m i hli, hi1, hb]
      unfold entry_Name.f
      rw [Option.bind_some]
    have E2 : lockgateref15_Right.l0 (k + 1) m i = (if entry_Name.is (m[i]).f0 = true then (if (m[i]).f1 < 0 then some false else (if (m[i]).f1 > 65535 then some false else (if (i : Int) > 0 then (if 0 ≤ wrap64 ((i : Int) - 1) then (if wrap64 ((i : Int) - 1) < (m.length : Int) then (if Op.bytesLess ((rd_T43 m (wrap64 ((i : Int) - 1))).f0).toList ((m[i]).f0).toList = true then some b else some false) else none) else none) else some b))) else some false) := by
      rw [lockgateref15_Right.l0.eq_2, if_pos (by omega), if_pos (by omega), rd_getE m i hli, hi1, hb2, rname_ok _ k (by omega), Option.bind_some]
    rw [E1, E2]
    suffices h : ∃ b', (if entry_Name.is (m[i]).f0 = true then (if (m[i]).f1 < 0 then some false else (if (m[i]).f1 > 65535 then some false else (if (i : Int) > 0 then (if 0 ≤ wrap64 ((i : Int) - 1) then (if wrap64 ((i : Int) - 1) < (m.length : Int) then (if Op.bytesLess ((rd_T43 m (wrap64 ((i : Int) - 1))).f0).toList ((m[i]).f0).toList = true then some b else some false) else none) else none) else some b))) else some false) = some b' ∧ (b' = true → ∀ j (h : j < m.length), i ≤ j → okE m[j]) by
      obtain ⟨b', g1, g2⟩ := h
      exact ⟨b', g1, g1, g2⟩
    have fin : entry_Name.is (m[i]).f0 = true → ¬ (m[i]).f1 < 0 → ¬ (m[i]).f1 > 65535 → b = true → ∀ j (h : j < m.length), i ≤ j → okE m[j] := by
      intro c1 c2 c3 hbt j h hj
      by_cases e : j = i
      · subst e; exact ⟨by have := (is_size c1).2; omega, by omega, by omega⟩
      · exact hok hbt j h (by omega)
    by_cases c1 : entry_Name.is (m[i]).f0 = true
    case neg => exact ⟨false, by rw [if_neg c1], fun h => by cases h⟩
    by_cases c2 : (m[i]).f1 < 0
    · exact ⟨false, by rw [if_pos c1, if_pos c2], fun h => by cases h⟩
    by_cases c3 : (m[i]).f1 > 65535
    · exact ⟨false, by rw [if_pos c1, if_neg c2, if_pos c3], fun h => by cases h⟩
    by_cases c4 : (i : Int) > 0
    · have hw : wrap64 ((i : Int) - 1) = (i : Int) - 1 := w64 (by omega) (by omega)
      rw [if_pos c1, if_neg c2, if_neg c3, if_pos c4, hw, if_pos (by omega), if_pos (by omega)]
      generalize Op.bytesLess _ _ = q
      cases q with
      | true => exact ⟨b, by rw [if_pos rfl], fin c1 c2 c3⟩
      | false => exact ⟨false, by rw [if_neg (by simp)], fun h => by cases h⟩
    · exact ⟨b, by rw [if_pos c1, if_neg c2, if_neg c3, if_neg c4], fin c1 c2 c3⟩
theorem right2 (m : List S43) (hl : m.length ≤ 1000) (k : Nat) (hk : m.length + 51 ≤ k) :
    ∃ b, entry_right.f k m = some b ∧ lockgateref15_Right.f k m = some b ∧ (b = true → ∀ j (h : j < m.length), okE m[j]) := by
  obtain ⟨b, h1, h2, h3⟩ := right2_loop m hl m.length k 0 (by omega) (by omega)
  rw [show ((0 : Nat) : Int) = 0 from rfl] at h1 h2
  exact ⟨b, h1, h2, fun h j hj => h3 h j hj (Nat.zero_le _)⟩
theorem rtextrE (s : ByteArray) (h : s.size ≤ 65535) (k : Nat) (hk : 20 ≤ k) : lockgateref01_Text.f k s = some (beS s.size 2 ++ s, 0) := by
  unfold lockgateref01_Text.f
  have e := rnum_ok (s.size : Int) (by omega) (by omega) 2 (by omega) k hk
  rw [show ((2 : Nat) : Int) = 2 from rfl] at e
  rw [if_neg (by omega), show IntKind.u64.wrap (s.size : Int) = s.size from IntWalk.u64_in _ ⟨by omega, by omega⟩, e, Option.bind_some, if_pos (by rw [beS_size]; omega)]
theorem rbytes_loop (m : List S43) (hl : m.length ≤ 30) (hok : ∀ j (h : j < m.length), okE m[j]) (d : Nat) : ∀ (k i : Nat), i + d = m.length → d + 50 < k →
    lockgateref15_Bytes.l0 k m (catE (m.take i)) i = some (catE m, 0) := by
  induction d with
  | zero =>
    intro k i hi hk
    obtain ⟨k, rfl⟩ : ∃ q, k = q + 1 := ⟨k - 1, by omega⟩
    rw [lockgateref15_Bytes.l0.eq_2, if_neg (by omega), List.take_of_length_le (by omega)]
  | succ d ih =>
    intro k i hi hk
    obtain ⟨k, rfl⟩ : ∃ q, k = q + 1 := ⟨k - 1, by omega⟩
    have next := ih k (i + 1) (by omega) (by omega)
    have hli : i < m.length := by omega
    obtain ⟨h1, h2, h3⟩ := hok i hli
    have hz := catE_size (m.take i) (fun e he => by
      obtain ⟨j, hj, rfl⟩ := List.mem_iff_getElem.1 (List.mem_of_mem_take he)
      exact (hok j hj).1)
    rw [List.length_take] at hz
    rw [List.take_succ_eq_append_getElem hli, catE_snoc] at next
    rw [lockgateref15_Bytes.l0.eq_2, if_pos (by omega), if_pos (by omega), rd_getE m i hli]
    unfold encE at next
    generalize m[i] = e at h1 h2 h3 next ⊢
    generalize catE (m.take i) = C at hz next ⊢
    have en := rnum_ok e.f1 (by omega) (by omega) 4 (by omega) k (by omega)
    rw [show ((4 : Nat) : Int) = 4 from rfl] at en
    rw [rtextrE _ (by omega) k (by omega), Option.bind_some, if_pos (by simp only [app_size, beS_size]; omega), show IntKind.u64.wrap e.f1 = e.f1 from IntWalk.u64_in _ ⟨by omega, by omega⟩, en, Option.bind_some, if_pos (by simp only [app_size, beS_size]; omega), w64 (x := (i : Int) + 1) (by omega) (by omega), show (i : Int) + 1 = ((i + 1 : Nat) : Int) by omega, app_assoc]
    exact next
theorem bytes2 (m : List S43) (hl : m.length ≤ 30) (k : Nat) (hk : 120 ≤ k) :
    (entry_Bytes.f k m = some (catE m, 0) ∧ lockgateref15_Bytes.f k m = some (catE m, 0) ∧ (∀ j (h : j < m.length), okE m[j]) ∧ ∀ K, 100 ≤ K → entry_right.f K m = some true) ∨ (entry_Bytes.f k m = some (⟨#[]⟩, 1) ∧ lockgateref15_Bytes.f k m = some (⟨#[]⟩, 1)) := by
  obtain ⟨b, h1, h2, h3⟩ := right2 m (by omega) k (by omega)
  unfold entry_Bytes.f lockgateref15_Bytes.f
  rw [h1, h2, Option.bind_some, Option.bind_some]
  cases b with
  | true =>
    left
    have e1 := bytes_loop m hl (h3 rfl) m.length k 0 (by omega) (by omega)
    have e2 := rbytes_loop m hl (h3 rfl) m.length k 0 (by omega) (by omega)
    rw [List.take_zero, show catE [] = ⟨#[]⟩ from rfl, show ((0 : Nat) : Int) = 0 from rfl] at e1 e2
    refine ⟨by rw [if_pos rfl]; exact e1, by rw [if_pos rfl]; exact e2, h3 rfl, ?_⟩
    intro K hK
    obtain ⟨b', g1, _, _⟩ := right2 m (by omega) K (by omega)
    rcases Nat.le_total k K with c | c
    · have : entry_right.f K m = some true := at_rounds (fun k => entry_right.mono m k) c h1
      exact this
    · have h1' : entry_right.f k m = some b' := at_rounds (fun k => entry_right.mono m k) c g1
      rw [h1] at h1'
      injection h1' with h1'
      rw [g1, ← h1']
  | false => right; exact ⟨by rw [if_neg (by simp)], by rw [if_neg (by simp)]⟩
/-! ### reading -/
theorem read_end (S : ByteArray) (k : Nat) (out : List S43) (l : ByteArray) (b : Bool) (a : Nat) (hR : Rel S l b a) (hb : b = true ∨ S.size - a = 0) (ho : out.length ≤ 900) (hk : 1000 < k) :
    ∃ R, entry_Read.l0 k out l b = some R ∧ lockgateref15_Read.l0 k out S a b = some R ∧ R.1.length ≤ 1000 := by
  obtain ⟨k, rfl⟩ : ∃ q, k = q + 1 := ⟨k - 1, by omega⟩
  obtain ⟨e1, e2⟩ := left_relE S l b a hR
  obtain ⟨v, e3, e4⟩ := end_relE S l b a hR
  obtain ⟨r, e5, e6, _⟩ := right2 out (by omega) k (by omega)
  have hv : ¬ (if b = true then (0 : Int) else ((S.size - a : Nat) : Int)) > 0 := by
    cases b with
    | true => simp
    | false => have := hb.resolve_left (by simp); rw [if_neg (by simp)]; omega
  rw [entry_Read.l0.eq_2, lockgateref15_Read.l0.eq_2, e1, e2, Option.bind_some, Option.bind_some]
  dsimp only
  rw [if_neg hv, if_neg hv, e3, e4, e6, Option.bind_some, Option.bind_some, Option.bind_some]
  dsimp only
  by_cases c : v = 0
  · rw [if_pos c, if_pos c, e5, Option.bind_some]
    cases r with
    | true => exact ⟨(out, 0), by rw [if_pos rfl], by rw [if_pos rfl], by show out.length ≤ 1000; omega⟩
    | false => exact ⟨([], 10), by rw [if_neg (by simp)], by rw [if_neg (by simp)], Nat.zero_le _⟩
  · exact ⟨([], 10), by rw [if_neg c], by rw [if_neg c], Nat.zero_le _⟩
theorem read_loop2 (S : ByteArray) (hS : S.size ≤ 400) (N : Nat) : ∀ (k : Nat) (out : List S43) (l : ByteArray) (b : Bool) (a : Nat), Rel S l b a → (b = false → S.size - a ≤ N) → out.length + N ≤ 900 → N + 1000 < k →
    ∃ R, entry_Read.l0 k out l b = some R ∧ lockgateref15_Read.l0 k out S a b = some R ∧ R.1.length ≤ 1000 := by
  induction N with
  | zero =>
    intro k out l b a hR hN ho hk
    refine read_end S k out l b a hR ?_ (by omega) (by omega)
    cases b with
    | true => exact .inl rfl
    | false => have := hN rfl; exact .inr (by omega)
  | succ N ih =>
    intro k out l b a hR hN ho hk
    by_cases hb : b = true ∨ S.size - a = 0
    · exact read_end S k out l b a hR hb (by omega) (by omega)
    · obtain ⟨k, rfl⟩ : ∃ q, k = q + 1 := ⟨k - 1, by omega⟩
      have hbf : b = false := by cases b with
        | false => rfl
        | true => exact absurd (.inl rfl) hb
      subst hbf
      have hn : ¬ S.size - a = 0 := fun g => hb (.inr g)
      have hN := hN rfl
      obtain ⟨e1, e2⟩ := left_relE S l false a hR
      rw [if_neg (show ¬ (false = true) by simp)] at e1 e2
      obtain ⟨t, l1, b1, a1, e3, e4, hR1, m1, m2, ht⟩ := text_relE S l false a hR k (by omega)
      obtain ⟨v, l2, b2, a2, e5, e6, hR2, m3, m4⟩ := four_relE S l1 b1 a1 hR1 k (by omega)
      have hdec : b2 = false → S.size - a2 ≤ N := by
        intro g
        have hb1 : b1 = false := by cases b1 with
          | false => rfl
          | true => rw [m4 rfl] at g; cases g
        have := m2 hb1
        omega
      obtain ⟨R, r1, r2, r3⟩ := ih k (out ++ [⟨t, v⟩]) l2 b2 a2 hR2 hdec (by rw [List.length_append, List.length_singleton]; omega) (by omega)
      refine ⟨R, ?_, ?_, r3⟩
      · rw [entry_Read.l0.eq_2, e1, Option.bind_some]
        dsimp only
        rw [if_pos (by omega), e3, Option.bind_some]
        dsimp only
        rw [e5, Option.bind_some, if_pos (by omega)]
        exact r1
      · rw [lockgateref15_Read.l0.eq_2, e2, Option.bind_some]
        dsimp only
        rw [if_pos (by omega), e4, Option.bind_some]
        dsimp only
        rw [e6, Option.bind_some, if_pos (by omega)]
        exact r2
theorem read2 (S : ByteArray) (hS : S.size ≤ 400) (k : Nat) (hk : 2000 ≤ k) : ∃ R, entry_Read.f k S = some R ∧ lockgateref15_Read.f k S = some R ∧ R.1.length ≤ 1000 := by
  obtain ⟨R, h1, h2, h3⟩ := read_loop2 S hS 400 k [] S false 0 ⟨by omega, Nat.zero_le _, Nat.le_refl _, .inr (ext_all S).symm⟩ (fun _ => by omega) (by show 0 + 400 ≤ 900; omega) (by omega)
  refine ⟨R, ?_, h2, h3⟩
  unfold entry_Read.f pack_Read.f
  rw [Option.bind_some]
  exact h1
/-- What was written is read again. -/
theorem read_cat (r : List S43) : ∀ (k : Nat) (out : List S43), (∀ e ∈ r, okE e) → out.length + r.length ≤ 30 → r.length + 200 < k → (∀ K, 100 ≤ K → entry_right.f K (out ++ r) = some true) →
    entry_Read.l0 k out (catE r) false = some (out ++ r, 0) := by
  induction r with
  | nil =>
    intro k out hok ho hk hr
    obtain ⟨k, rfl⟩ : ∃ q, k = q + 1 := ⟨k - 1, by omega⟩
    have h0 : (catE []).size = 0 := rfl
    have e := hr k (by have : ([] : List S43).length = 0 := rfl; omega)
    rw [List.append_nil] at e ⊢
    rw [entry_Read.l0.eq_2, rleftE, Option.bind_some]
    dsimp only
    rw [if_neg (show ¬ (false = true) by simp), h0, if_neg (by omega), rendE, Option.bind_some]
    dsimp only
    rw [if_neg (show ¬ (false = true ∨ (catE []).size ≠ 0) from fun g => (g.resolve_left (by simp)) rfl), if_pos rfl, e, Option.bind_some, if_pos rfl]
  | cons x r ih =>
    intro k out hok ho hk hr
    rw [List.length_cons] at ho hk
    obtain ⟨k, rfl⟩ : ∃ q, k = q + 1 := ⟨k - 1, by omega⟩
    obtain ⟨h1, h2, h3⟩ := hok x (by simp)
    have hz := catE_size r (fun e he => (hok e (by simp [he])).1)
    have hl : (catE (x :: r)).size = 6 + x.f0.size + (catE r).size := by rw [catE, app_size, encE_size]
    have e1 : catE (x :: r) = beS x.f0.size 2 ++ x.f0 ++ (beS x.f1 4 ++ catE r) := by rw [catE]; unfold encE; simp only [app_assoc]
    have next := ih k (out ++ [x]) (fun e he => hok e (by simp [he])) (by rw [List.length_append, List.length_singleton]; omega) (by omega) (by intro K hK; rw [List.append_assoc, List.singleton_append]; exact hr K hK)
    rw [entry_Read.l0.eq_2, rleftE, Option.bind_some]
    dsimp only
    rw [if_neg (show ¬ (false = true) by simp), if_pos (by omega), e1, rtextE _ _ (by omega) (by rw [app_size, beS_size]; omega), Option.bind_some]
    dsimp only
    rw [rfour_fst x.f1 (by omega) (by omega) _ (by omega), Option.bind_some]
    dsimp only
    rw [if_pos (by omega), next, List.append_assoc, List.singleton_append]
/-! ### sizes -/
theorem size_loop (m : List S43) (hl : m.length ≤ 30) (hs : ∀ e ∈ m, e.f0.size ≤ 60) (d : Nat) : ∀ (k i : Nat), i + d = m.length → d < k →
    entry_Size.l0 k ((catE (m.take i)).size : Int) m m.length i = some ((catE m).size : Int) ∧ lockgateref15_Size.l0 k m ((catE (m.take i)).size : Int) i = some ((catE m).size : Int) := by
  induction d with
  | zero =>
    intro k i hi hk
    obtain ⟨k, rfl⟩ : ∃ q, k = q + 1 := ⟨k - 1, by omega⟩
    rw [entry_Size.l0.eq_2, if_neg (by omega), lockgateref15_Size.l0.eq_2, if_neg (by omega), List.take_of_length_le (by omega)]
    exact ⟨rfl, rfl⟩
  | succ d ih =>
    intro k i hi hk
    obtain ⟨k, rfl⟩ : ∃ q, k = q + 1 := ⟨k - 1, by omega⟩
    have next := ih k (i + 1) (by omega) (by omega)
    have hli : i < m.length := by omega
    have h1 := hs _ (List.getElem_mem hli)
    have hz := catE_size (m.take i) (fun e he => hs e (List.mem_of_mem_take he))
    rw [List.length_take] at hz
    rw [List.take_succ_eq_append_getElem hli, catE_snoc, app_size, encE_size] at next
    rw [entry_Size.l0.eq_2, if_pos (by omega), if_pos (by omega), if_pos (by omega), lockgateref15_Size.l0.eq_2, if_pos (by omega), if_pos (by omega), rd_getE m i hli]
    generalize m[i] = e at h1 next ⊢
    generalize (catE (m.take i)).size = C at hz next ⊢
    rw [w64 (x := (e.f0.size : Int) + 6) (by omega) (by omega), w64 (x := (C : Int) + ((e.f0.size : Int) + 6)) (by omega) (by omega), w64 (x := (C : Int) + (e.f0.size : Int)) (by omega) (by omega), w64 (x := (C : Int) + (e.f0.size : Int) + 6) (by omega) (by omega), w64 (x := (i : Int) + 1) (by omega) (by omega),
      show (C : Int) + ((e.f0.size : Int) + 6) = ((C + (6 + e.f0.size) : Nat) : Int) by omega, show (C : Int) + (e.f0.size : Int) + 6 = ((C + (6 + e.f0.size) : Nat) : Int) by omega, show (i : Int) + 1 = ((i + 1 : Nat) : Int) by omega]
    exact next
theorem size2 (m : List S43) (hl : m.length ≤ 30) (hs : ∀ e ∈ m, e.f0.size ≤ 60) (k : Nat) (hk : 40 ≤ k) : entry_Size.f k m = some ((catE m).size : Int) ∧ lockgateref15_Size.f k m = some ((catE m).size : Int) := by
  have := size_loop m hl hs m.length k 0 (by omega) (by omega)
  rw [List.take_zero, show ((catE []).size : Int) = 0 from rfl, show ((0 : Nat) : Int) = 0 from rfl] at this
  exact this
theorem same_self_loop (l : List S43) (hl : l.length ≤ 1000) (d : Nat) : ∀ (k i : Nat), i + d = l.length → d < k → lockgateref15_Same.l0 k l l i = some true := by
  induction d with
  | zero =>
    intro k i hi hk
    obtain ⟨k, rfl⟩ : ∃ q, k = q + 1 := ⟨k - 1, by omega⟩
    rw [lockgateref15_Same.l0.eq_2, if_neg (by omega)]
  | succ d ih =>
    intro k i hi hk
    obtain ⟨k, rfl⟩ : ∃ q, k = q + 1 := ⟨k - 1, by omega⟩
    rw [lockgateref15_Same.l0.eq_2, if_pos (by omega), if_pos (by omega), if_pos (by omega), if_neg (by simp), w64 (x := (i : Int) + 1) (by omega) (by omega), show (i : Int) + 1 = ((i + 1 : Nat) : Int) by omega]
    exact ih k (i + 1) (by omega) (by omega)
theorem same_self (l : List S43) (hl : l.length ≤ 1000) (k : Nat) (hk : l.length + 1 ≤ k) : lockgateref15_Same.f k l l = some true := by
  unfold lockgateref15_Same.f
  rw [if_pos rfl]
  exact same_self_loop l hl l.length k 0 (by omega) (by omega)
end Go.Proofs.YtgmbmkjdfmoanaaDoor.By
