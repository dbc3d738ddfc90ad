/- Of a list to which names are put, and dropped again: it is a folder's; what was put last is found, what was dropped is not: the pure law of EntryKeeps. -/
import Derived.Test.YtgmbmkjdfmoanaaDoorQx21
import Derived.Test.YtgmbmkjdfmoanaaDoorEnP
import Derived.Test.YtgmbmkjdfmoanaaDoorSayEntryKeeps
namespace Go.Proofs.YtgmbmkjdfmoanaaDoor.Pure
open Go.RowKit Go.Proofs.YtgmbmkjdfmoanaaDoor.Q Go.Proofs.YtgmbmkjdfmoanaaDoor.By Go.Proofs.YtgmbmkjdfmoanaaDoor.Bm Go.Proofs.YtgmbmkjdfmoanaaDoorW.PrintWords Go.Proofs.YtgmbmkjdfmoanaaDoorW.PrintLast Go.Proofs.YtgmbmkjdfmoanaaDoorW.PrintMore
set_option linter.unusedVariables false
theorem is_size30 {s : ByteArray} (h : entry_Name.is s = true) : 1 ≤ s.size ∧ s.size ≤ 30 := by
  unfold entry_Name.is at h
  rw [decide_eq_true_eq] at h
  have h1 : ¬ s.size = 0 := fun g => h.1 (.inl g)
  have h2 : ¬ 30 < s.size := fun g => h.1 (.inr (.inl g))
  omega
theorem rdB (l : List ByteArray) (i : Nat) (h : i < l.length) : rdOf ByteArray.empty l (i : Int) = l[i] := by
  unfold rdOf
  rw [Int.toNat_natCast, List.getD_eq_getElem?_getD, List.getElem?_eq_getElem h]; rfl
theorem rdI (l : List Int) (i : Nat) (h : i < l.length) : rd l (i : Int) = l[i] := by
  unfold rd
  rw [Int.toNat_natCast, List.getD_eq_getElem?_getD, List.getElem?_eq_getElem h]; rfl
def live (l : List Int) : Nat := l.countP fun v => decide (0 ≤ v)
theorem live_set : ∀ (l : List Int) (k : Nat) (v : Int) (h : k < l.length), live (l.set k v) + (if 0 ≤ l[k] then 1 else 0) = live l + (if 0 ≤ v then 1 else 0)
  | [], k, v, h => by simp at h
  | x :: t, 0, v, h => by
    unfold live
    rw [List.set_cons_zero, List.countP_cons, List.countP_cons]
    simp only [List.getElem_cons_zero, decide_eq_true_eq]
    omega
  | x :: t, k + 1, v, h => by
    have ih := live_set t k v (by simpa using h)
    unfold live at ih ⊢
    rw [List.set_cons_succ, List.countP_cons, List.countP_cons]
    simp only [List.getElem_cons_succ, decide_eq_true_eq]
    omega
structure Inv (m : List S43) (ns : List ByteArray) (ss : List Int) : Prop where
  so : Sorted m
  len : ns.length = ss.length
  nd : ns.Nodup
  ok : ∀ e ∈ m, entry_Name.is e.f0 = true ∧ 0 ≤ e.f1 ∧ e.f1 ≤ 65535
  inn : ∀ e ∈ m, e.f0 ∈ ns
  val : ∀ k (h : k < ns.length) (h' : k < ss.length), (ss[k] = -1 ∧ ∀ e ∈ m, e.f0 ≠ ns[k]) ∨ (0 ≤ ss[k] ∧ (⟨ns[k], ss[k]⟩ : S43) ∈ m)
  cnt : m.length = live ss
theorem other {ns : List ByteArray} (h : ns.Nodup) {i j : Nat} (hi : i < ns.length) (hj : j < ns.length) (hne : i ≠ j) : ns[i] ≠ ns[j] := fun e => hne ((List.getElem_inj h).1 e)
theorem inv_new {m : List S43} {ns : List ByteArray} {ss : List Int} (I : Inv m ns ss) (s : ByteArray) (hs : s ∉ ns) : Inv m (ns ++ [s]) (ss ++ [-1]) where
  so := I.so
  len := by simp [I.len]
  nd := by
    refine List.nodup_append.2 ⟨I.nd, by simp, ?_⟩
    intro a ha b hb e
    rw [List.mem_singleton.1 hb] at e
    exact hs (e ▸ ha)
  ok := I.ok
  inn := fun e he => List.mem_append.2 (.inl (I.inn e he))
  val := by
    intro k h h'
    by_cases c : k < ns.length
    · rw [List.getElem_append_left c, List.getElem_append_left (by rw [← I.len]; exact c)]
      exact I.val k c (by rw [← I.len]; exact c)
    · have e1 : (ns ++ [s])[k] = s := by rw [List.getElem_append_right (by omega)]; simp
      have e2 : (ss ++ [(-1 : Int)])[k] = -1 := by rw [List.getElem_append_right (by have := I.len; omega)]; simp
      rw [e1, e2]
      exact .inl ⟨rfl, fun e he hc => hs (hc ▸ I.inn e he)⟩
  cnt := by
    rw [I.cnt]
    unfold live
    rw [List.countP_append]
    simp
theorem inv_put {m : List S43} {ns : List ByteArray} {ss : List Int} (I : Inv m ns ss) (k : Nat) (hk : k < ns.length) (hk' : k < ss.length) (v : Int) (h0 : 0 ≤ v) (h1 : v ≤ 65535) (hn : entry_Name.is ns[k] = true) : Inv (putL m ⟨ns[k], v⟩) ns (ss.set k v) where
  so := put_sorted _ I.so
  len := by rw [List.length_set]; exact I.len
  nd := I.nd
  ok := by
    intro e he
    rcases (put_mem _ I.so e).1 he with rfl | ⟨h, _⟩
    · exact ⟨hn, h0, h1⟩
    · exact I.ok e h
  inn := by
    intro e he
    rcases (put_mem _ I.so e).1 he with rfl | ⟨h, _⟩
    · exact List.getElem_mem hk
    · exact I.inn e h
  val := by
    intro j h h'
    have hj' : j < ss.length := by simpa using h'
    by_cases c : k = j
    · subst c
      rw [List.getElem_set_self]
      exact .inr ⟨h0, (put_mem _ I.so _).2 (.inl rfl)⟩
    · rw [List.getElem_set_ne c]
      have hne := other I.nd hk h c
      rcases I.val j h hj' with ⟨g1, g2⟩ | ⟨g1, g2⟩
      · refine .inl ⟨g1, fun e he => ?_⟩
        rcases (put_mem _ I.so e).1 he with rfl | ⟨h, _⟩
        · exact hne
        · exact g2 e h
      · exact .inr ⟨g1, (put_mem _ I.so _).2 (.inr ⟨g2, fun e => hne e.symm⟩)⟩
  cnt := by
    have hl := live_set ss k v hk'
    rw [if_pos h0] at hl
    have hc := I.cnt
    rcases put_len (l := m) (⟨ns[k], v⟩ : S43) I.so with ⟨g1, g2, _⟩ | ⟨⟨x, hx, hxe⟩, g2⟩
    · rcases I.val k hk hk' with ⟨q1, _⟩ | ⟨_, q2⟩
      · rw [q1, if_neg (by omega)] at hl; omega
      · exact (g1 _ q2 rfl).elim
    · rcases I.val k hk hk' with ⟨_, q2⟩ | ⟨q1, _⟩
      · exact absurd hxe (q2 x hx)
      · rw [if_pos q1] at hl; omega
theorem inv_gone {m : List S43} {ns : List ByteArray} {ss : List Int} (I : Inv m ns ss) (k : Nat) (hk : k < ns.length) (hk' : k < ss.length) (hn : ∀ x ∈ m, x.f0 ≠ ns[k]) : ss[k] = -1 ∧ ss.set k (-1) = ss := by
  rcases I.val k hk hk' with ⟨q1, _⟩ | ⟨_, q2⟩
  · refine ⟨q1, ?_⟩
    conv => lhs; rw [← q1]
    exact List.set_getElem_self hk'
  · exact absurd rfl (hn _ q2)
theorem inv_drop {m l1 l2 : List S43} {x : S43} {ns : List ByteArray} {ss : List Int} (I : Inv m ns ss) (k : Nat) (hk : k < ns.length) (hk' : k < ss.length) (e : m = l1 ++ x :: l2) (hx : x.f0 = ns[k]) : 0 ≤ ss[k] ∧ Inv (l1 ++ l2) ns (ss.set k (-1)) := by
  have hxm : x ∈ m := by rw [e]; simp
  have hpos : 0 ≤ ss[k] := by
    rcases I.val k hk hk' with ⟨_, q2⟩ | ⟨q1, _⟩
    · exact absurd hx (q2 x hxm)
    · exact q1
  refine ⟨hpos, drop_sorted I.so e, by rw [List.length_set]; exact I.len, I.nd, fun y hy => I.ok y ((drop_mem I.so e y).1 hy).1, fun y hy => I.inn y ((drop_mem I.so e y).1 hy).1, ?_, ?_⟩
  · intro j h h'
    have hj' : j < ss.length := by simpa using h'
    by_cases c : k = j
    · subst c
      rw [List.getElem_set_self]
      refine .inl ⟨rfl, fun y hy hc => ((drop_mem I.so e y).1 hy).2 (hc.trans hx.symm)⟩
    · rw [List.getElem_set_ne c]
      have hne := other I.nd hk h c
      rcases I.val j h hj' with ⟨g1, g2⟩ | ⟨g1, g2⟩
      · exact .inl ⟨g1, fun y hy => g2 y ((drop_mem I.so e y).1 hy).1⟩
      · exact .inr ⟨g1, (drop_mem I.so e _).2 ⟨g2, fun hc => hne ((hc.trans hx).symm)⟩⟩
  · have hl := live_set ss k (-1) hk'
    rw [if_pos hpos, if_neg (by omega)] at hl
    have hc := I.cnt
    rw [e] at hc
    simp only [List.length_append, List.length_cons] at hc ⊢
    omega
theorem right_yes (m : List S43) (hl : m.length ≤ 1000) (hs : Sorted m) (hok : ∀ e ∈ m, entry_Name.is e.f0 = true ∧ 0 ≤ e.f1 ∧ e.f1 ≤ 65535) (d : Nat) : ∀ (k i : Nat), i + d = m.length → d < k → entry_right.l0 k m m m.length i = some true := by
  induction d with
  | zero =>
    intro k i hi hk
    obtain ⟨k, rfl⟩ : ∃ q, k = q + 1 := ⟨k - 1, by omega⟩
    rw [entry_right.l0.eq_2, if_neg (by omega)]
  | succ d ih =>
    intro k i hi hk
    obtain ⟨k, rfl⟩ : ∃ q, k = q + 1 := ⟨k - 1, by omega⟩
    have hli : i < m.length := by omega
    obtain ⟨h1, h2, h3⟩ := hok _ (List.getElem_mem hli)
    have next := ih k (i + 1) (by omega) (by omega)
    rw [entry_right.l0.eq_2, if_pos (by omega), if_pos (by omega), if_pos (by omega), rd_getE m i hli]
    unfold entry_Name.f
    rw [Option.bind_some, if_pos h1, if_neg (by omega), if_neg (by omega), Bm.w64 (x := (i : Int) + 1) (by omega) (by omega), Bm.w64 (x := (i : Int) - 1) (by omega) (by omega), show (i : Int) + 1 = ((i + 1 : Nat) : Int) by omega, next]
    by_cases c4 : (i : Int) > 0
    · rw [if_pos c4, if_pos (by omega), if_pos (by omega), show (i : Int) - 1 = ((i - 1 : Nat) : Int) by omega, rd_getE m (i - 1) (by omega)]
      have hlt : lt m[i - 1].f0 m[i].f0 := List.pairwise_iff_getElem.1 hs (i - 1) i (by omega) hli (by omega)
      unfold lt at hlt
      rw [hlt, if_pos rfl]
    · rw [if_neg c4]
theorem bytes_loop40 (m : List S43) (hl : m.length ≤ 1000) (hok : ∀ j (h : j < m.length), okE m[j]) (d : Nat) : ∀ (k i : Nat), i + d = m.length → d < k →
    entry_Bytes.l0 k (catE (m.take i)) m m.length i = some (catE m, 0) := by
  induction d with
  | zero =>
    intro k i hi hk
    obtain ⟨k, rfl⟩ : ∃ q, k = q + 1 := ⟨k - 1, by omega⟩
    rw [entry_Bytes.l0.eq_2, if_neg (by omega), List.take_of_length_le (by omega)]
  | succ d ih =>
    intro k i hi hk
    obtain ⟨k, rfl⟩ : ∃ q, k = q + 1 := ⟨k - 1, by omega⟩
    have next := ih k (i + 1) (by omega) (by omega)
    have hli : i < m.length := by omega
    obtain ⟨h1, h2, h3⟩ := hok i hli
    have hz := catE_size (m.take i) (fun e he => by
      obtain ⟨j, hj, rfl⟩ := List.mem_iff_getElem.1 (List.mem_of_mem_take he)
      exact (hok j hj).1)
    rw [List.length_take] at hz
    rw [List.take_succ_eq_append_getElem hli, catE_snoc] at next
    rw [entry_Bytes.l0.eq_2, if_pos (by omega), if_pos (by omega), if_pos (by omega), rd_getE m i hli]
    unfold encE at next
    generalize m[i] = e at h1 h2 h3 next ⊢
    generalize catE (m.take i) = C at hz next ⊢
    rw [text_okE _ (by omega), Option.bind_some, show e.f1 % 4294967296 = e.f1 by omega, four_okE _ (by omega) (by omega), Option.bind_some, if_pos (by simp only [app_size, beS_size]; omega), if_pos (by simp only [app_size, beS_size]; omega), Bm.w64 (x := (i : Int) + 1) (by omega) (by omega), show (i : Int) + 1 = ((i + 1 : Nat) : Int) by omega]
    exact next
theorem bytes_yes (m : List S43) (hl : m.length ≤ 1000) (hs : Sorted m) (hok : ∀ e ∈ m, entry_Name.is e.f0 = true ∧ 0 ≤ e.f1 ∧ e.f1 ≤ 65535) (k : Nat) (hk : 1001 ≤ k) : entry_Bytes.f k m = some (catE m, 0) := by
  have hr := right_yes m hl hs hok m.length k 0 (by omega) (by omega)
  rw [show ((0 : Nat) : Int) = 0 from rfl] at hr
  unfold entry_Bytes.f entry_right.f
  rw [hr, Option.bind_some]
  have := bytes_loop40 m hl (fun j h => by
    obtain ⟨q1, q2, q3⟩ := hok _ (List.getElem_mem h)
    exact ⟨by have := (is_size30 q1).2; omega, q2, q3⟩) m.length k 0 (by omega) (by omega)
  rw [List.take_zero, show catE [] = ⟨#[]⟩ from rfl, show ((0 : Nat) : Int) = 0 from rfl] at this
  rw [if_pos rfl]; exact this
theorem end_loop (m : List S43) (ns : List ByteArray) (ss : List Int) (I : Inv m ns ss) (hlen : ns.length ≤ 1000) (d : Nat) : ∀ (k j : Nat), j + d = ns.length → 2 * d + 10 ≤ k →
    lockgatelaw15_EntryKeeps.l2 k true m ns ss 0 ((live (ss.take j) : Nat) : Int) j = some true := by
  have hl := I.len
  induction d with
  | zero =>
    intro k j hj hk
    obtain ⟨k, rfl⟩ : ∃ q, k = q + 1 := ⟨k - 1, by omega⟩
    rw [lockgatelaw15_EntryKeeps.l2, if_neg (by omega), if_pos rfl, if_pos rfl, List.take_of_length_le (by omega), I.cnt]
    simp
  | succ d ih =>
    intro k j hj hk
    obtain ⟨k, rfl⟩ : ∃ q, k = q + 2 := ⟨k - 2, by omega⟩
    have h1 : j < ns.length := by omega
    have h2 : j < ss.length := by omega
    have hle : live (ss.take j) ≤ 1000 := Nat.le_trans List.countP_le_length (by rw [List.length_take]; omega)
    have hs : live (ss.take (j + 1)) = live (ss.take j) + if 0 ≤ ss[j] then 1 else 0 := by
      unfold live
      rw [List.take_succ_eq_append_getElem h2, List.countP_append, List.countP_singleton]
      simp only [decide_eq_true_eq]
    have next := ih k (j + 1) (by omega) (by omega)
    rw [lockgatelaw15_EntryKeeps.l2, if_pos (by omega), if_pos (by omega), rdB ns j h1, rdI ss j h2]
    rcases find_val m ns[j] with ⟨hf, hn⟩ | ⟨x, hx, hxe, hf⟩
    · obtain ⟨q1, _⟩ := inv_gone I j h1 h2 hn
      rw [q1, if_neg (by omega)] at hs
      rw [hf, Option.bind_some]
      simp only
      rw [if_pos (by omega), q1, if_neg (by decide), if_neg (by decide), lockgatelaw15_EntryKeeps.j5, if_neg (by decide), if_neg (by decide)]
      rw [show wrap64 ((j : Int) + 1) = ((j + 1 : Nat) : Int) from by rw [Bm.w64 (by omega) (by omega)]; omega]
      rw [hs] at next
      exact next
    · rcases I.val j h1 h2 with ⟨_, q2⟩ | ⟨q1, q2⟩
      · exact absurd hxe (q2 x hx)
      · have ex : x = ⟨ns[j], ss[j]⟩ := name_once I.so hx q2 hxe
        rw [if_pos q1] at hs
        rw [hf, Option.bind_some]
        simp only
        rw [if_pos (by omega), decide_eq_true q1, if_neg (by decide), if_pos trivial, ex]
        simp only
        rw [show (ss[j] != ss[j]) = false by simp, lockgatelaw15_EntryKeeps.j5, if_neg (by decide), if_pos rfl]
        rw [show wrap64 ((j : Int) + 1) = ((j + 1 : Nat) : Int) from by rw [Bm.w64 (by omega) (by omega)]; omega, Bm.w64 (by omega) (by omega)]
        rw [hs] at next
        exact next
theorem main_loop (l : List S43) (hl : l.length ≤ 140737488351232) (h0 : ∀ y ∈ l, y.f0.size ≤ 140737488351232) (d : Nat) : ∀ (k i : Nat) (m : List S43) (ns : List ByteArray) (ss : List Int), i + d = min l.length 40 → 3000 + 100 * d ≤ k → ns.length ≤ i → Inv m ns ss →
    lockgatelaw15_EntryKeeps.l0 k l true m ns ss i = some true := by
  have hend : ∀ (k : Nat) (i : Int) (m : List S43) (ns : List ByteArray) (ss : List Int), 2500 ≤ k → ns.length ≤ 40 → Inv m ns ss → lockgatelaw15_EntryKeeps.j1 k l true m ns ss i false = some true := by
    intro k i m ns ss hk hn I
    obtain ⟨k, rfl⟩ : ∃ q, k = q + 1 := ⟨k - 1, by omega⟩
    have hml : m.length ≤ 1000 := by
      have := I.cnt
      have h2 : live ss ≤ ss.length := List.countP_le_length
      have := I.len
      omega
    rw [lockgatelaw15_EntryKeeps.j1, if_neg (by decide), bytes_yes m hml I.so I.ok k (by omega), Option.bind_some]
    exact end_loop m ns ss I (by omega) ns.length k 0 (by omega) (by omega)
  induction d with
  | zero =>
    intro k i m ns ss hi hk hn I
    obtain ⟨k, rfl⟩ : ∃ q, k = q + 1 := ⟨k - 1, by omega⟩
    rw [lockgatelaw15_EntryKeeps.l0]
    by_cases h : (i : Int) < (l.length : Int)
    · rw [if_pos h, decide_eq_false (by omega)]; exact hend k _ m ns ss (by omega) (by omega) I
    · rw [if_neg h]; exact hend k _ m ns ss (by omega) (by omega) I
  | succ d ih =>
    intro k i m ns ss hi hk hn I
    obtain ⟨k, rfl⟩ : ∃ q, k = q + 2 := ⟨k - 2, by omega⟩
    have hlt : i < l.length := by omega
    have hy := h0 _ (List.getElem_mem hlt)
    have hsz := cutTo_size l[i].f0 60
    have sok := short_ok l[i].f0 60 hy
    rw [show (((60 : Nat)) : Int) = 60 from rfl] at sok
    have hwi : wrap64 ((i : Int) + 1) = ((i + 1 : Nat) : Int) := by rw [Bm.w64 (by omega) (by omega)]; omega
    rw [lockgatelaw15_EntryKeeps.l0, if_pos (by omega), decide_eq_true (by omega), lockgatelaw15_EntryKeeps.j1, if_pos rfl, if_pos (by omega), if_pos (by omega), rd_getE l i hlt, sok, Option.bind_some, and65535]
    unfold entry_Name.f
    rw [Option.bind_some]
    generalize cutTo l[i].f0 60 = t at hsz
    obtain ⟨v, hv⟩ : ∃ v, v = l[i].f1 % 65536 := ⟨_, rfl⟩
    have hv0 : 0 ≤ v := by omega
    have hv1 : v ≤ 65535 := by omega
    rw [← hv]
    clear hv
    by_cases c : entry_Name.is t = true
    · rw [if_pos c]
      have hml : ∀ (m : List S43) (ns : List ByteArray) (ss : List Int), ns.length ≤ 41 → Inv m ns ss → m.length ≤ 1000 := by
        intro m ns ss hn I
        have := I.cnt
        have h2 : live ss ≤ ss.length := List.countP_le_length
        have := I.len
        omega
      -- what follows once the name's place is known
      have fin : ∀ (K : Nat) (ns' : List ByteArray) (ss' : List Int) (q : Nat) (hq : q < ns'.length), 3000 + 100 * d + 2 ≤ K → ns'.length ≤ i + 1 → Inv m ns' ss' → ns'[q] = t → lockgatelaw15_EntryKeeps.j3 K l true m ns' ss' i q t v = some true := by
        intro K ns' ss' q hq hK hns I' hqt
        obtain ⟨K, rfl⟩ : ∃ z, K = z + 1 := ⟨K - 1, by omega⟩
        have hq' : q < ss'.length := by rw [← I'.len]; exact hq
        have hm := hml m ns' ss' (by omega) I'
        rw [lockgatelaw15_EntryKeeps.j3, hwi]
        by_cases co : Int.tmod v 2 = 1
        · rw [if_pos co]
          rcases drop_spec m t hm with ⟨g1, g2, g3⟩ | ⟨l1, x, l2, g1, g2, g3, g4⟩
          · obtain ⟨q1, q2⟩ := inv_gone I' q hq hq' (by rw [hqt]; exact g3)
            rw [g1, Option.bind_some]
            simp only
            rw [if_pos (by omega), if_pos (by omega), rdI ss' q hq', q1, if_neg (by decide), Int.toNat_natCast, q2]
            exact ih K (i + 1) m ns' ss' (by omega) (by omega) hns I'
          · obtain ⟨q1, I2⟩ := inv_drop I' q hq hq' g3 (by rw [hqt]; exact g4)
            rw [g1, Option.bind_some, g2]
            simp only
            rw [if_pos (by omega), if_pos (by omega), rdI ss' q hq', decide_eq_true q1, if_neg (by decide), Int.toNat_natCast]
            exact ih K (i + 1) _ ns' _ (by omega) (by omega) hns I2
        · rw [if_neg co, put_val m t v hm, Option.bind_some, if_pos (by omega), if_pos (by omega), Int.toNat_natCast]
          have I2 := inv_put I' q hq hq' v hv0 hv1 (by rw [hqt]; exact c)
          rw [hqt] at I2
          exact ih K (i + 1) _ ns' _ (by omega) (by omega) hns I2
      -- the search for the name
      have srch : ∀ (e K j : Nat) (at_ : Int), j + e = ns.length → 3000 + 100 * d + 3 + e ≤ K → (at_ = -1 ∧ (∀ q (h : q < ns.length), q < j → ns[q] ≠ t) ∨ ∃ q, ∃ h : q < ns.length, q < j ∧ at_ = (q : Int) ∧ ns[q] = t) → lockgatelaw15_EntryKeeps.l1 K l true m ns ss i at_ j t v = some true := by
        intro e
        induction e with
        | zero =>
          intro K j at_ hj hK hat
          obtain ⟨K, rfl⟩ : ∃ z, K = z + 1 := ⟨K - 1, by omega⟩
          rw [lockgatelaw15_EntryKeeps.l1, if_neg (by omega)]
          rcases hat with ⟨ha, hno⟩ | ⟨q, hq, hqj, ha, hqt⟩
          · have hnot : t ∉ ns := by
              intro hm
              obtain ⟨q, hq, he⟩ := List.mem_iff_getElem.1 hm
              exact hno q hq (by omega) he
            have I2 := inv_new I t hnot
            have hsl : ss.length ≤ 41 := by rw [← I.len]; omega
            rw [ha, if_pos (by omega), if_pos (by omega), Option.bind_some, if_pos (by omega)]
            rw [show wrap64 (((ns ++ [t]).length : Int) - 1) = (ns.length : Int) from by rw [List.length_append, List.length_singleton, Bm.w64 (by omega) (by omega)]; omega]
            exact fin K (ns ++ [t]) (ss ++ [-1]) ns.length (by simp) (by omega) (by simp; omega) I2 (by rw [List.getElem_append_right (Nat.le_refl _)]; simp)
          · rw [ha, if_neg (by omega)]
            exact fin K ns ss q hq (by omega) (by omega) I hqt
        | succ e ihe =>
          intro K j at_ hj hK hat
          obtain ⟨K, rfl⟩ : ∃ z, K = z + 1 := ⟨K - 1, by omega⟩
          have hjl : j < ns.length := by omega
          rw [lockgatelaw15_EntryKeeps.l1, if_pos (by omega), if_pos (by omega), rdB ns j hjl]
          rw [show wrap64 ((j : Int) + 1) = ((j + 1 : Nat) : Int) from by rw [Bm.w64 (by omega) (by omega)]; omega]
          by_cases cj : ns[j] = t
          · rw [if_pos (by rw [cj])]
            exact ihe K (j + 1) _ (by omega) (by omega) (.inr ⟨j, hjl, by omega, rfl, cj⟩)
          · rw [if_neg (fun h => cj (toList_ext.1 h))]
            refine ihe K (j + 1) _ (by omega) (by omega) ?_
            rcases hat with ⟨ha, hno⟩ | ⟨q, hq, hqj, ha, hqt⟩
            · refine .inl ⟨ha, fun q hq hqj => ?_⟩
              by_cases eq : q = j
              · subst eq; exact cj
              · exact hno q hq (by omega)
            · exact .inr ⟨q, hq, by omega, ha, hqt⟩
      exact srch ns.length k 0 (-1) (by omega) (by omega) (.inl ⟨rfl, fun q _ h => by omega⟩)
    · rw [if_neg c, hwi]
      exact ih k (i + 1) m ns ss (by omega) (by omega) (by omega) I
theorem EntryKeeps : lockgatelaw15_EntryKeeps.Pure := by
  intro l w0
  refine ⟨8000, ?_⟩
  unfold lockgatelaw15_EntryKeeps.f
  rw [awake_ok _ (by omega), Option.bind_some]
  exact main_loop l (by omega) (fun y hy => (w0.2.2 y hy).1) (min l.length 40) 8000 0 [] [] [] (by omega) (by omega) (Nat.le_refl _) ⟨List.Pairwise.nil, rfl, List.nodup_nil, (fun _ h => by cases h), (fun _ h => by cases h), (fun k h => absurd h (Nat.not_lt_zero _)), rfl⟩
end Go.Proofs.YtgmbmkjdfmoanaaDoor.Pure
