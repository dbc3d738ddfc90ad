/- Chapter 15: lists of entries: few, right, bytes; lists that are the same. -/
import Derived.Test.YtgmbmkjdfmoanaaDoorQx4
import Derived.Test.YtgmbmkjdfmoanaaDoorQx5
import Derived.Test.YtgmbmkjdfmoanaaDoorQx11
import Derived.Test.YtgmbmkjdfmoanaaDoorEnR
namespace Go.Proofs.YtgmbmkjdfmoanaaDoor.By
open Go.RowKit Go.Proofs.YtgmbmkjdfmoanaaDoor.Bm Go.Proofs.YtgmbmkjdfmoanaaDoor.Q Go.Proofs.YtgmbmkjdfmoanaaDoorW.PrintWords Go.Proofs.YtgmbmkjdfmoanaaDoorW.PrintMore
set_option linter.unusedVariables false
theorem two_okE (n : Int) (h0 : 0 ≤ n) (h1 : n < 65536) : pack_Two.f n = some (beS n 2) := by
  unfold pack_Two.f pack_number_uint16.f
  rw [if_pos ⟨h0, h1, by omega, by omega⟩]
  rfl
theorem four_okE (n : Int) (h0 : 0 ≤ n) (h1 : n < 4294967296) : pack_Four.f n = some (beS n 4) := by
  unfold pack_Four.f pack_number_uint32.f
  rw [if_pos ⟨h0, h1, by omega, by omega⟩]
  rfl
theorem text_okE (s : ByteArray) (h : s.size ≤ 65535) : pack_Text.f s = some (beS s.size 2 ++ s, 0) := by
  unfold pack_Text.f
  rw [if_neg (by omega), show IntKind.u16.wrap (s.size : Int) = s.size from IntWalk.u16_in _ ⟨by omega, by omega⟩, two_okE _ (by omega) (by omega), Option.bind_some, if_pos (by rw [beS_size]; omega)]
theorem rd_getE (m : List S43) (i : Nat) (h : i < m.length) : rd_T43 m (i : Int) = m[i] := by
  unfold rd_T43
  rw [Int.toNat_natCast, List.getD_eq_getElem?_getD, List.getElem?_eq_getElem h]; rfl
/-- An entry cut to sixty bytes of name. -/
def cutE (e : S43) : S43 := ⟨cutTo e.f0 60, e.f1⟩
def fewL (l : List S43) : List S43 := (l.take 30).map cutE
theorem few_loop (l : List S43) (h0 : ∀ y ∈ l, y.f0.size ≤ 140737488351232) (m : Nat) (hm : m = min l.length 30) (d : Nat) : ∀ (k i : Nat), i + d = m → d < k →
    lockgatelaw15_few.l0 k l ((l.take i).map cutE) i = some (fewL l) := by
  induction d with
  | zero =>
    intro k i hi hk
    obtain ⟨k, rfl⟩ : ∃ q, k = q + 1 := ⟨k - 1, by omega⟩
    obtain rfl : i = m := by omega
    have e : (l.take i).map cutE = fewL l := by
      unfold fewL
      by_cases c : l.length ≤ 30
      · rw [List.take_of_length_le (by omega), List.take_of_length_le (by omega)]
      · rw [show i = 30 by omega]
    rw [lockgatelaw15_few.l0.eq_2, e]
    by_cases c : (i : Int) < (l.length : Int)
    · rw [if_pos c, if_neg (by omega)]
    · rw [if_neg c]
  | succ d ih =>
    intro k i hi hk
    obtain ⟨k, rfl⟩ : ∃ q, k = q + 1 := ⟨k - 1, by omega⟩
    have next := ih k (i + 1) (by omega) (by omega)
    have hl : i < l.length := by omega
    rw [List.take_succ_eq_append_getElem hl, List.map_append, List.map_cons, List.map_nil] at next
    have hz : ((l.take i).map cutE).length = i := by rw [List.length_map, List.length_take]; omega
    rw [lockgatelaw15_few.l0.eq_2, if_pos (by omega), if_pos (by omega), if_pos (by omega), rd_getE l i hl, show (60 : Int) = ((60 : Nat) : Int) from rfl, short_ok _ 60 (h0 _ (List.getElem_mem hl)), Option.bind_some, if_pos (by omega), w64 (x := (i : Int) + 1) (by omega) (by omega), show (i : Int) + 1 = ((i + 1 : Nat) : Int) by omega]
    exact next
theorem few_ok (l : List S43) (h0 : ∀ y ∈ l, y.f0.size ≤ 140737488351232) (k : Nat) (hk : 40 ≤ k) : lockgatelaw15_few.f k l = some (fewL l) := by
  unfold lockgatelaw15_few.f
  exact few_loop l h0 _ rfl (min l.length 30) k 0 (by omega) (by omega)
theorem fewL_facts (l : List S43) : (fewL l).length ≤ 30 ∧ ∀ e ∈ fewL l, e.f0.size ≤ 60 := by
  unfold fewL
  refine ⟨by rw [List.length_map, List.length_take]; omega, ?_⟩
  intro e he
  rw [List.mem_map] at he
  obtain ⟨x, _, rfl⟩ := he
  exact cutTo_size _ _
/-- May it be an entry? -/
def okE (e : S43) : Prop := e.f0.size ≤ 60 ∧ 0 ≤ e.f1 ∧ e.f1 ≤ 65535
theorem right_loop (m : List S43) (hl : m.length ≤ 30) (hs : ∀ e ∈ m, e.f0.size ≤ 60) (d : Nat) : ∀ (k i : Nat), i + d = m.length → d < k →
    ∃ b, entry_right.l0 k m m m.length i = some b ∧ (b = true → ∀ j (h : j < m.length), i ≤ j → okE m[j]) := by
  induction d with
  | zero =>
    intro k i hi hk
    obtain ⟨k, rfl⟩ : ∃ q, k = q + 1 := ⟨k - 1, by omega⟩
    refine ⟨true, by rw [entry_right.l0.eq_2, if_neg (by omega)], fun _ j h hj => by omega⟩
  | succ d ih =>
    intro k i hi hk
    obtain ⟨k, rfl⟩ : ∃ q, k = q + 1 := ⟨k - 1, by omega⟩
    obtain ⟨b, hb, hok⟩ := ih k (i + 1) (by omega) (by omega)
    have hli : i < m.length := by omega
    have hsz := hs _ (List.getElem_mem hli)
    rw [entry_right.l0.eq_2, if_pos (by omega), if_pos (by omega), if_pos (by omega), rd_getE m i hli]
    unfold entry_Name.f
    rw [Option.bind_some]
    by_cases c1 : entry_Name.is (m[i]).f0 = true
    case neg => exact ⟨false, by rw [if_neg c1], fun h => by cases h⟩
    rw [if_pos c1]
    by_cases c2 : (m[i]).f1 < 0
    · exact ⟨false, by rw [if_pos c2], fun h => by cases h⟩
    rw [if_neg c2]
    by_cases c3 : (m[i]).f1 > 65535
    · exact ⟨false, by rw [if_pos c3], fun h => by cases h⟩
    rw [if_neg c3, w64 (x := (i : Int) + 1) (by omega) (by omega), w64 (x := (i : Int) - 1) (by omega) (by omega), show (i : Int) + 1 = ((i + 1 : Nat) : Int) by omega, hb]
    have fin : b = true → ∀ j (h : j < m.length), i ≤ j → okE m[j] := by
      intro hbt j h hj
      by_cases e : j = i
      · subst e; exact ⟨hsz, by omega, by omega⟩
      · exact hok hbt j h (by omega)
    by_cases c4 : (i : Int) > 0
    · rw [if_pos c4, if_pos (by omega), if_pos (by omega)]
      generalize Op.bytesLess _ _ = q
      cases q with
      | true => exact ⟨b, by rw [if_pos rfl], fin⟩
      | false => exact ⟨false, by rw [if_neg (by simp)], fun h => by cases h⟩
    · exact ⟨b, by rw [if_neg c4], fin⟩
/-- A list's bytes. -/
def encE (e : S43) : ByteArray := beS e.f0.size 2 ++ e.f0 ++ beS e.f1 4
def catE : List S43 → ByteArray
  | [] => ⟨#[]⟩
  | e :: l => encE e ++ catE l
theorem encE_size (e : S43) : (encE e).size = 6 + e.f0.size := by unfold encE; simp only [app_size, beS_size]; omega
theorem catE_size (l : List S43) (h : ∀ e ∈ l, e.f0.size ≤ 60) : (catE l).size ≤ 66 * l.length := by
  induction l with
  | nil => exact Nat.le_refl 0
  | cons e l ih =>
    have h1 := h e (by simp)
    have h2 := ih (fun y hy => h y (by simp [hy]))
    rw [catE, app_size, encE_size, List.length_cons]
    omega
theorem catE_snoc (l : List S43) (e : S43) : catE (l ++ [e]) = catE l ++ encE e := by
  induction l with
  | nil => simp only [List.nil_append, catE]; rw [app_nil, nil_app]
  | cons y l ih => rw [List.cons_append, catE, ih, catE, app_assoc]
theorem bytes_loop (m : List S43) (hl : m.length ≤ 30) (hok : ∀ j (h : j < m.length), okE m[j]) (d : Nat) : ∀ (k i : Nat), i + d = m.length → d < k →
    entry_Bytes.l0 k (catE (m.take i)) m m.length i = some (catE m, 0) := by
  induction d with
  | zero =>
    intro k i hi hk
    obtain ⟨k, rfl⟩ : ∃ q, k = q + 1 := ⟨k - 1, by omega⟩
    rw [entry_Bytes.l0.eq_2, if_neg (by omega), List.take_of_length_le (by omega)]
  | succ d ih =>
    intro k i hi hk
    obtain ⟨k, rfl⟩ : ∃ q, k = q + 1 := ⟨k - 1, by omega⟩
    have next := ih k (i + 1) (by omega) (by omega)
    have hli : i < m.length := by omega
    obtain ⟨h1, h2, h3⟩ := hok i hli
    have hz := catE_size (m.take i) (fun e he => by
      obtain ⟨j, hj, rfl⟩ := List.mem_iff_getElem.1 (List.mem_of_mem_take he)
      exact (hok j hj).1)
    rw [List.length_take] at hz
    rw [List.take_succ_eq_append_getElem hli, catE_snoc] at next
    rw [entry_Bytes.l0.eq_2, if_pos (by omega), if_pos (by omega), if_pos (by omega), rd_getE m i hli]
    unfold encE at next
    generalize m[i] = e at h1 h2 h3 next ⊢
    generalize catE (m.take i) = C at hz next ⊢
    rw [text_okE _ (by omega), Option.bind_some, show e.f1 % 4294967296 = e.f1 by omega, four_okE _ (by omega) (by omega), Option.bind_some, if_pos (by simp only [app_size, beS_size]; omega), if_pos (by simp only [app_size, beS_size]; omega), w64 (x := (i : Int) + 1) (by omega) (by omega), show (i : Int) + 1 = ((i + 1 : Nat) : Int) by omega]
    exact next
/-- What Bytes tells of few entries: their bytes, if they are right; nothing else. -/
theorem bytes_case (m : List S43) (hl : m.length ≤ 30) (hs : ∀ e ∈ m, e.f0.size ≤ 60) (k : Nat) (hk : 60 ≤ k) :
    (entry_Bytes.f k m = some (catE m, 0) ∧ ∀ j (h : j < m.length), okE m[j]) ∨ entry_Bytes.f k m = some (⟨#[]⟩, 1) := by
  obtain ⟨b, hb, hok⟩ := right_loop m hl hs m.length k 0 (by omega) (by omega)
  rw [show ((0 : Nat) : Int) = 0 from rfl] at hb
  unfold entry_Bytes.f entry_right.f
  rw [hb, Option.bind_some]
  cases b with
  | true =>
    left
    have := bytes_loop m hl (fun j h => hok rfl j h (Nat.zero_le _)) m.length k 0 (by omega) (by omega)
    rw [List.take_zero, show catE [] = ⟨#[]⟩ from rfl, show ((0 : Nat) : Int) = 0 from rfl] at this
    exact ⟨by rw [if_pos rfl]; exact this, fun j h => hok rfl j h (Nat.zero_le _)⟩
  | false => right; rw [if_neg (by simp)]
theorem beS_injE (a b : Int) (k : Nat) (ha : 0 ≤ a ∧ a < 256 ^ k) (hb : 0 ≤ b ∧ b < 256 ^ k) (h : beS a k = beS b k) : a = b := by
  have h1 := bytesOf_nums _ (be_range a k)
  have h2 := bytesOf_nums _ (be_range b k)
  have h3 := num_be a k
  have h4 := num_be b k
  rw [Int.emod_eq_of_lt ha.1 ha.2] at h3
  rw [Int.emod_eq_of_lt hb.1 hb.2] at h4
  unfold beS at h
  rw [h, h2] at h1
  rw [← h1] at h3
  omega
/-- No two lists have the same bytes. -/
theorem catE_inj (l : List S43) : ∀ m : List S43, (∀ e ∈ l, okE e) → (∀ e ∈ m, okE e) → catE l = catE m → l = m := by
  induction l with
  | nil =>
    intro m _ _ h
    cases m with
    | nil => rfl
    | cons e m =>
      have := congrArg ByteArray.size h
      rw [catE, catE, app_size, encE_size] at this
      have z : (⟨#[]⟩ : ByteArray).size = 0 := rfl
      omega
  | cons e l ih =>
    intro m h1 h2 h
    cases m with
    | nil =>
      have := congrArg ByteArray.size h
      rw [catE, catE, app_size, encE_size] at this
      have z : (⟨#[]⟩ : ByteArray).size = 0 := rfl
      omega
    | cons f m =>
      obtain ⟨a1, a2, a3⟩ := h1 e (by simp)
      obtain ⟨b1, b2, b3⟩ := h2 f (by simp)
      rw [catE, catE] at h
      unfold encE at h
      simp only [app_assoc] at h
      obtain ⟨q1, h⟩ := app_inj (by rw [beS_size, beS_size]) h
      have p2 : (256 : Int) ^ 2 = 65536 := by decide
      have p4 : (256 : Int) ^ 4 = 4294967296 := by decide
      have q2 := beS_injE _ _ 2 (by rw [p2]; omega) (by rw [p2]; omega) q1
      obtain ⟨q3, h⟩ := app_inj (by omega) h
      obtain ⟨q4, h⟩ := app_inj (by rw [beS_size, beS_size]) h
      have q5 := beS_injE _ _ 4 (by rw [p4]; omega) (by rw [p4]; omega) q4
      have q6 := ih m (fun x hx => h1 x (by simp [hx])) (fun x hx => h2 x (by simp [hx])) h
      have : e = f := by cases e; cases f; simp only at q3 q5; rw [q3, q5]
      rw [this, q6]
theorem same43_loop (l m : List S43) (hll : l.length = m.length) (hl : l.length ≤ 30) (d : Nat) : ∀ (k i : Nat), i + d = l.length → d < k →
    ∃ b, lockgateref15_Same.l0 k l m i = some b ∧ (b = true ↔ l.drop i = m.drop i) := by
  induction d with
  | zero =>
    intro k i hi hk
    obtain ⟨k, rfl⟩ : ∃ q, k = q + 1 := ⟨k - 1, by omega⟩
    exact ⟨true, by rw [lockgateref15_Same.l0.eq_2, if_neg (by omega)], by rw [List.drop_eq_nil_of_le (by omega), List.drop_eq_nil_of_le (by omega)]; simp⟩
  | succ d ih =>
    intro k i hi hk
    obtain ⟨k, rfl⟩ : ∃ q, k = q + 1 := ⟨k - 1, by omega⟩
    obtain ⟨b, hb, hiff⟩ := ih k (i + 1) (by omega) (by omega)
    have h1 : i < l.length := by omega
    have h2 : i < m.length := by omega
    rw [lockgateref15_Same.l0.eq_2, if_pos (by omega), if_pos (by omega), if_pos (by omega), rd_getE l i h1, rd_getE m i h2, w64 (x := (i : Int) + 1) (by omega) (by omega), show (i : Int) + 1 = ((i + 1 : Nat) : Int) by omega, hb, List.drop_eq_getElem_cons h1, List.drop_eq_getElem_cons h2]
    generalize l[i] = e
    generalize m[i] = f
    by_cases c : e = f
    · subst c
      refine ⟨b, by rw [if_neg (by simp)], ?_⟩
      rw [hiff]; simp
    · refine ⟨false, ?_, ?_⟩
      · rw [if_pos]
        rw [Bool.or_eq_true, Bool.not_eq_true', Bool.not_eq_true', beq_eq_false_iff_ne, beq_eq_false_iff_ne]
        by_cases c1 : e.f0 = f.f0
        · right
          intro c2
          exact c (by cases e; cases f; simp only at c1 c2; rw [c1, c2])
        · left
          exact fun g => c1 (Bm.toList_ext.1 g)
      · constructor
        · intro h; cases h
        · intro h
          injection h with h _
          exact absurd h c
theorem same43 (l m : List S43) (hl : l.length ≤ 30) (hm : m.length ≤ 30) (k : Nat) (hk : 60 ≤ k) : ∃ b, lockgateref15_Same.f k l m = some b ∧ (b = true ↔ l = m) := by
  unfold lockgateref15_Same.f
  by_cases c : l.length = m.length
  · rw [if_pos (by omega)]
    obtain ⟨b, hb, h⟩ := same43_loop l m c hl l.length k 0 (by omega) (by omega)
    exact ⟨b, hb, by rw [h, List.drop_zero, List.drop_zero]⟩
  · rw [if_neg (by omega)]
    exact ⟨false, rfl, ⟨fun h => by (cases h), fun h => absurd (congrArg List.length h) c⟩⟩
end Go.Proofs.YtgmbmkjdfmoanaaDoor.By
