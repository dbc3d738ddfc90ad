/- Chapter 15: a folder's list in the order of its names: what is put, dropped and found in it. -/
import Derived.Test.YtgmbmkjdfmoanaaDoorQx17
import Derived.Test.YtgmbmkjdfmoanaaDoorQx18
import Derived.Test.YtgmbmkjdfmoanaaDoorQx20
import Derived.Test.YtgmbmkjdfmoanaaDoorEnB
namespace Go.Proofs.YtgmbmkjdfmoanaaDoor.By
open Go.RowKit Go.Proofs.YtgmbmkjdfmoanaaDoor.Q Go.Proofs.YtgmbmkjdfmoanaaDoor.Bm Go.Proofs.YtgmbmkjdfmoanaaDoorW.PrintWords Go.Proofs.YtgmbmkjdfmoanaaDoorW.PrintMore
set_option linter.unusedVariables false
theorem bl_irrefl : ∀ x : List UInt8, Op.bytesLess x x = false
  | [] => rfl
  | a :: x => by
    have := bl_irrefl x
    simp [Op.bytesLess, this]
theorem bl_trans : ∀ x y z : List UInt8, Op.bytesLess x y = true → Op.bytesLess y z = true → Op.bytesLess x z = true
  | _, _, [], _, h => by simp [Op.bytesLess] at h
  | _, [], _ :: _, h, _ => by simp [Op.bytesLess] at h
  | [], _ :: _, _ :: _, _, _ => rfl
  | a :: x, b :: y, c :: z, h1, h2 => by
    simp only [Op.bytesLess, Bool.or_eq_true, Bool.and_eq_true, decide_eq_true_eq, beq_iff_eq] at h1 h2 ⊢
    rcases h1 with h1 | ⟨rfl, h1⟩
    · rcases h2 with h2 | ⟨rfl, h2⟩
      · exact .inl (UInt8.lt_trans h1 h2)
      · exact .inl h1
    · rcases h2 with h2 | ⟨rfl, h2⟩
      · exact .inl h2
      · exact .inr ⟨rfl, bl_trans x y z h1 h2⟩
theorem bl_total : ∀ x y : List UInt8, Op.bytesLess x y = false → Op.bytesLess y x = false → x = y
  | [], [], _, _ => rfl
  | [], _ :: _, h, _ => by simp [Op.bytesLess] at h
  | _ :: _, [], _, h => by simp [Op.bytesLess] at h
  | a :: x, b :: y, h1, h2 => by
    simp only [Op.bytesLess, Bool.or_eq_false_iff, Bool.and_eq_false_iff, decide_eq_false_iff_not, beq_eq_false_iff_ne] at h1 h2
    have e : a = b := UInt8.le_antisymm (UInt8.not_lt.1 h2.1) (UInt8.not_lt.1 h1.1)
    subst e
    have g1 : Op.bytesLess x y = false := h1.2.resolve_left (fun h => h rfl)
    have g2 : Op.bytesLess y x = false := h2.2.resolve_left (fun h => h rfl)
    rw [bl_total x y g1 g2]
/-- The names' order. -/
def lt (s t : ByteArray) : Prop := Op.bytesLess s.toList t.toList = true
theorem lt_irrefl (s : ByteArray) : ¬ lt s s := fun h => by unfold lt at h; rw [bl_irrefl] at h; cases h
theorem lt_trans {s t u : ByteArray} (h : lt s t) (h' : lt t u) : lt s u := bl_trans _ _ _ h h'
theorem lt_total {s t : ByteArray} (h : ¬ lt s t) (h' : ¬ lt t s) : s = t := toList_ext.1 (bl_total _ _ (Bool.not_eq_true _ ▸ h) (Bool.not_eq_true _ ▸ h'))
def Sorted (l : List S43) : Prop := l.Pairwise fun a b => lt a.f0 b.f0
theorem at_split {α : Type} (p : α → Bool) : ∀ (l : List α) (j : Int), 0 ≤ j → (entry_place.at p j l = -1 ∧ ∀ x ∈ l, p x = false) ∨ ∃ l1 x l2, l = l1 ++ x :: l2 ∧ entry_place.at p j l = j + (l1.length : Int) ∧ p x = true ∧ ∀ y ∈ l1, p y = false
  | [], j, _ => .inl ⟨rfl, fun _ h => by cases h⟩
  | x :: t, j, hj => by
    unfold entry_place.at
    by_cases c : p x = true
    · exact .inr ⟨[], x, t, rfl, by rw [if_pos c]; simp, c, fun _ h => by cases h⟩
    · rw [if_neg c]
      have c' : p x = false := Bool.not_eq_true _ ▸ c
      rcases at_split p t (j + 1) (by omega) with ⟨h1, h2⟩ | ⟨l1, y, l2, h1, h2, h3, h4⟩
      · refine .inl ⟨h1, fun z hz => ?_⟩
        rcases List.mem_cons.1 hz with rfl | hz
        · exact c'
        · exact h2 z hz
      · refine .inr ⟨x :: l1, y, l2, by rw [h1]; rfl, by rw [h2, List.length_cons]; omega, h3, fun z hz => ?_⟩
        rcases List.mem_cons.1 hz with rfl | hz
        · exact c'
        · exact h4 z hz
theorem is_iff (s : ByteArray) (x : S43) : entry_place.is s x = true ↔ x.f0 = s := by
  unfold entry_place.is
  rw [beq_iff_eq]
  exact toList_ext
theorem is_no {s : ByteArray} {x : S43} (h : entry_place.is s x = false) : x.f0 ≠ s := fun e => by rw [(is_iff s x).2 e] at h; cases h
theorem gt_iff (s : ByteArray) (x : S43) (hne : x.f0 ≠ s) : (entry_Put.gt s x = true → lt s x.f0) ∧ (entry_Put.gt s x = false → lt x.f0 s) := by
  have hq : (x.f0.toList == s.toList) = false := by rw [beq_eq_false_iff_ne]; exact fun h => hne (toList_ext.1 h)
  unfold entry_Put.gt
  rw [hq]
  constructor
  · intro h
    have h1 : ¬ lt x.f0 s := fun g => by unfold lt at g; rw [g] at h; cases h
    exact Classical.byContradiction fun h2 => hne (lt_total h1 h2)
  · intro h
    unfold lt
    cases hb : Op.bytesLess x.f0.toList s.toList with
    | true => rfl
    | false => rw [hb] at h; cases h
/-- The list with an entry put. -/
def putL (l : List S43) (e : S43) : List S43 :=
  if 0 ≤ entry_place.at (entry_place.is e.f0) 0 l then l.set (entry_place.at (entry_place.is e.f0) 0 l).toNat e else l.take (entry_Put.pos e.f0 l) ++ e :: l.drop (entry_Put.pos e.f0 l)
theorem put_val (l : List S43) (s : ByteArray) (v : Int) (hl : l.length ≤ 1000) : entry_Put.f l s v = some (putL l ⟨s, v⟩) := by
  unfold entry_Put.f api_Entry.f putL
  rw [if_pos (by omega), Option.bind_some, if_pos (show (l.length + 1) * 24 ≤ 140737488355328 by omega)]
  split <;> rfl
theorem put_spec (l : List S43) (e : S43) (h : Sorted l) : ∃ l1 l2, putL l e = l1 ++ e :: l2 ∧ (∀ y ∈ l1, lt y.f0 e.f0) ∧ (∀ z ∈ l2, lt e.f0 z.f0) ∧ Sorted (l1 ++ l2) ∧ ((l = l1 ++ l2 ∧ ∀ x ∈ l, x.f0 ≠ e.f0) ∨ ∃ x, x.f0 = e.f0 ∧ l = l1 ++ x :: l2) := by
  unfold putL
  rcases at_split (entry_place.is e.f0) l 0 (by omega) with ⟨h1, h2⟩ | ⟨l1, x, l2, h1, h2, h3, h4⟩
  · rw [h1, if_neg (by omega)]
    have hn : ∀ x ∈ l, x.f0 ≠ e.f0 := fun x hx => is_no (h2 x hx)
    unfold entry_Put.pos
    rcases at_split (entry_Put.gt e.f0) l 0 (by omega) with ⟨g1, g2⟩ | ⟨l1, x, l2, g1, g2, g3, g4⟩
    · rw [g1, if_pos (by omega), List.take_length, List.drop_length]
      exact ⟨l, [], rfl, fun y hy => (gt_iff _ _ (hn y hy)).2 (g2 y hy), (fun _ hz => by cases hz), by rw [List.append_nil]; exact h, .inl ⟨by rw [List.append_nil], hn⟩⟩
    · rw [g2, if_neg (by omega)]
      have e1 : ((0 : Int) + (l1.length : Int)).toNat = l1.length := by omega
      rw [e1]
      have e2 : l.take l1.length = l1 := by rw [g1]; exact List.take_left' rfl
      have e3 : l.drop l1.length = x :: l2 := by rw [g1]; exact List.drop_left' rfl
      rw [e2, e3]
      have hx : lt e.f0 x.f0 := (gt_iff _ _ (hn x (by rw [g1]; simp))).1 g3
      have hs := h
      rw [g1] at hs
      refine ⟨l1, x :: l2, rfl, fun y hy => (gt_iff _ _ (hn y (by rw [g1]; simp [hy]))).2 (g4 y hy), fun z hz => ?_, hs, .inl ⟨g1, hn⟩⟩
      rcases List.mem_cons.1 hz with rfl | hz
      · exact hx
      · exact lt_trans hx ((List.pairwise_cons.1 (List.pairwise_append.1 hs).2.1).1 z hz)
  · have hx := (is_iff _ _).1 h3
    have e1 : ((0 : Int) + (l1.length : Int)).toNat = l1.length := by omega
    rw [h2, if_pos (by omega), e1]
    have hs := h
    rw [h1] at hs
    obtain ⟨p1, p2, p3⟩ := List.pairwise_append.1 hs
    obtain ⟨p4, p5⟩ := List.pairwise_cons.1 p2
    refine ⟨l1, l2, by rw [h1, List.set_append_right _ _ (Nat.le_refl _), Nat.sub_self]; rfl, fun y hy => ?_, fun z hz => ?_, List.pairwise_append.2 ⟨p1, p5, fun a ha b hb => p3 a ha b (List.mem_cons_of_mem _ hb)⟩, .inr ⟨x, hx, h1⟩⟩
    · rw [← hx]; exact p3 y hy x List.mem_cons_self
    · rw [← hx]; exact p4 z hz
theorem put_sorted {l : List S43} (e : S43) (h : Sorted l) : Sorted (putL l e) := by
  obtain ⟨l1, l2, h1, h2, h3, h4, _⟩ := put_spec l e h
  rw [h1]
  obtain ⟨p1, p2, p3⟩ := List.pairwise_append.1 h4
  refine List.pairwise_append.2 ⟨p1, List.pairwise_cons.2 ⟨h3, p2⟩, fun a ha b hb => ?_⟩
  rcases List.mem_cons.1 hb with rfl | hb
  · exact h2 a ha
  · exact p3 a ha b hb
theorem put_mem {l : List S43} (e : S43) (h : Sorted l) (y : S43) : y ∈ putL l e ↔ y = e ∨ (y ∈ l ∧ y.f0 ≠ e.f0) := by
  obtain ⟨l1, l2, h1, h2, h3, h4, h5⟩ := put_spec l e h
  have n1 : ∀ y ∈ l1, y.f0 ≠ e.f0 := fun y hy hc => lt_irrefl e.f0 (by have := h2 y hy; rwa [hc] at this)
  have n2 : ∀ y ∈ l2, y.f0 ≠ e.f0 := fun y hy hc => lt_irrefl e.f0 (by have := h3 y hy; rwa [hc] at this)
  rw [h1, List.mem_append, List.mem_cons]
  rcases h5 with ⟨h5, h6⟩ | ⟨x, hx, h5⟩
  · rw [h5, List.mem_append]
    constructor
    · rintro (h | h | h)
      · exact .inr ⟨.inl h, n1 y h⟩
      · exact .inl h
      · exact .inr ⟨.inr h, n2 y h⟩
    · rintro (h | ⟨h | h, _⟩)
      · exact .inr (.inl h)
      · exact .inl h
      · exact .inr (.inr h)
  · rw [h5, List.mem_append, List.mem_cons]
    constructor
    · rintro (h | h | h)
      · exact .inr ⟨.inl h, n1 y h⟩
      · exact .inl h
      · exact .inr ⟨.inr (.inr h), n2 y h⟩
    · rintro (h | ⟨h | h | h, hn⟩)
      · exact .inr (.inl h)
      · exact .inl h
      · exact absurd (h ▸ hx) hn
      · exact .inr (.inr h)
theorem put_len {l : List S43} (e : S43) (h : Sorted l) : (∀ x ∈ l, x.f0 ≠ e.f0) ∧ (putL l e).length = l.length + 1 ∧ (catE (putL l e)).size = (catE l).size + (encE e).size ∨ (∃ x ∈ l, x.f0 = e.f0) ∧ (putL l e).length = l.length := by
  obtain ⟨l1, l2, h1, h2, h3, h4, h5⟩ := put_spec l e h
  have catA : ∀ a b : List S43, (catE (a ++ b)).size = (catE a).size + (catE b).size := by
    intro a b
    induction a with
    | nil => simp only [List.nil_append, catE]; show _ = 0 + _; omega
    | cons y a ih => rw [List.cons_append, catE, app_size, ih, catE, app_size]; omega
  rcases h5 with ⟨h5, h6⟩ | ⟨x, hx, h5⟩
  · refine .inl ⟨h6, ?_, ?_⟩
    · rw [h1, h5]; simp; omega
    · rw [h1, h5, catA, catA, catE, app_size]; omega
  · exact .inr ⟨⟨x, by rw [h5]; simp, hx⟩, by rw [h1, h5]; simp⟩
def dropL (l : List S43) (s : ByteArray) : List S43 := if entry_place.at (entry_place.is s) 0 l < 0 then l else l.eraseIdx (entry_place.at (entry_place.is s) 0 l).toNat
theorem drop_spec (l : List S43) (s : ByteArray) (hl : l.length ≤ 1000) : (entry_Drop.f l s = some (l, false) ∧ dropL l s = l ∧ ∀ x ∈ l, x.f0 ≠ s) ∨ ∃ l1 x l2, entry_Drop.f l s = some (dropL l s, true) ∧ dropL l s = l1 ++ l2 ∧ l = l1 ++ x :: l2 ∧ x.f0 = s := by
  unfold entry_Drop.f dropL
  rcases at_split (entry_place.is s) l 0 (by omega) with ⟨h1, h2⟩ | ⟨l1, x, l2, h1, h2, h3, h4⟩
  · rw [h1, if_pos (by omega), if_pos (by omega)]
    exact .inl ⟨rfl, rfl, fun x hx => is_no (h2 x hx)⟩
  · have e1 : ((0 : Int) + (l1.length : Int)).toNat = l1.length := by omega
    rw [h2, if_neg (by omega), if_neg (by omega), e1]
    refine .inr ⟨l1, x, l2, ?_, ?_, h1, (is_iff _ _).1 h3⟩
    · unfold api_Entry.f
      rw [if_pos (by omega), Option.bind_some]
    · rw [h1, List.eraseIdx_append_of_length_le (Nat.le_refl _), Nat.sub_self]; rfl
theorem name_once {l : List S43} (h : Sorted l) {x y : S43} (hx : x ∈ l) (hy : y ∈ l) (e : x.f0 = y.f0) : x = y := by
  induction l with
  | nil => cases hx
  | cons a t ih =>
    obtain ⟨h1, h2⟩ := List.pairwise_cons.1 h
    rcases List.mem_cons.1 hx with ex | hx'
    · rcases List.mem_cons.1 hy with ey | hy'
      · rw [ex, ey]
      · subst ex
        exact absurd (h1 y hy') (by rw [e]; exact lt_irrefl _)
    · rcases List.mem_cons.1 hy with ey | hy'
      · subst ey
        exact absurd (h1 x hx') (by rw [e]; exact lt_irrefl _)
      · exact ih h2 hx' hy'
theorem drop_sorted {l l1 l2 : List S43} {x : S43} (h : Sorted l) (e : l = l1 ++ x :: l2) : Sorted (l1 ++ l2) := by
  subst e
  obtain ⟨p1, p2, p3⟩ := List.pairwise_append.1 h
  exact List.pairwise_append.2 ⟨p1, (List.pairwise_cons.1 p2).2, fun a ha b hb => p3 a ha b (List.mem_cons_of_mem _ hb)⟩
theorem drop_mem {l l1 l2 : List S43} {x : S43} (h : Sorted l) (e : l = l1 ++ x :: l2) (y : S43) : y ∈ l1 ++ l2 ↔ y ∈ l ∧ y.f0 ≠ x.f0 := by
  subst e
  obtain ⟨p1, p2, p3⟩ := List.pairwise_append.1 h
  have q := (List.pairwise_cons.1 p2).1
  simp only [List.mem_append, List.mem_cons]
  constructor
  · rintro (h | h)
    · exact ⟨.inl h, fun hc => lt_irrefl x.f0 (by have := p3 y h x List.mem_cons_self; rwa [hc] at this)⟩
    · exact ⟨.inr (.inr h), fun hc => lt_irrefl x.f0 (by have := q y h; rwa [hc] at this)⟩
  · rintro ⟨h | h | h, hn⟩
    · exact .inl h
    · exact absurd (h ▸ rfl) hn
    · exact .inr h
/-- Two lists in order with the same entries are one. -/
theorem same_mem : ∀ (l m : List S43), Sorted l → Sorted m → (∀ y, y ∈ l ↔ y ∈ m) → l = m
  | [], [], _, _, _ => rfl
  | [], y :: t, _, _, h => absurd ((h y).2 List.mem_cons_self) (by simp)
  | y :: t, [], _, _, h => absurd ((h y).1 List.mem_cons_self) (by simp)
  | x :: l, y :: m, hl, hm, h => by
    obtain ⟨a1, a2⟩ := List.pairwise_cons.1 hl
    obtain ⟨b1, b2⟩ := List.pairwise_cons.1 hm
    have e : x = y := by
      rcases List.mem_cons.1 ((h x).1 List.mem_cons_self) with e | hx
      · exact e
      · rcases List.mem_cons.1 ((h y).2 List.mem_cons_self) with e | hy
        · exact e.symm
        · exact absurd (lt_trans (b1 x hx) (a1 y hy)) (lt_irrefl _)
    subst e
    rw [same_mem l m a2 b2 (fun z => ?_)]
    constructor
    · intro hz
      rcases List.mem_cons.1 ((h z).1 (List.mem_cons_of_mem _ hz)) with rfl | g
      · exact absurd (a1 z hz) (lt_irrefl _)
      · exact g
    · intro hz
      rcases List.mem_cons.1 ((h z).2 (List.mem_cons_of_mem _ hz)) with rfl | g
      · exact absurd (b1 z hz) (lt_irrefl _)
      · exact g
theorem find_val (l : List S43) (s : ByteArray) : (entry_Find.f l s = some (0, false) ∧ ∀ x ∈ l, x.f0 ≠ s) ∨ ∃ x ∈ l, x.f0 = s ∧ entry_Find.f l s = some (x.f1, true) := by
  unfold entry_Find.f entry_place.f
  rw [Option.bind_some]
  rcases at_split (entry_place.is s) l 0 (by omega) with ⟨h1, h2⟩ | ⟨l1, x, l2, h1, h2, h3, h4⟩
  · rw [h1, if_pos (by omega)]
    exact .inl ⟨rfl, fun x hx => is_no (h2 x hx)⟩
  · have hlt : l1.length < l.length := by rw [h1]; simp
    have hg : rd_T43 l (0 + (l1.length : Int)) = x := by
      rw [Int.zero_add, rd_getE l l1.length hlt]
      have : l[l1.length]? = some x := by rw [h1, List.getElem?_append_right (Nat.le_refl _), Nat.sub_self]; rfl
      rw [List.getElem?_eq_getElem hlt] at this
      exact Option.some.inj this
    rw [h2, if_neg (by omega), if_pos (by omega), if_pos (by omega), hg]
    exact .inr ⟨x, by rw [h1]; simp, (is_iff _ _).1 h3, rfl⟩
theorem and65535 (n : Int) : Go.bits .and .i64 n 65535 = n % 65536 := by
  have h3 : (BitVec.ofInt 64 65535).toNat = 2 ^ 16 - 1 := by decide
  have key : (BitVec.ofInt 64 n &&& BitVec.ofInt 64 65535).toNat = (n % ((2 ^ 64 : Nat) : Int)).toNat % 2 ^ 16 := by
    rw [BitVec.toNat_and, BitVec.toNat_ofInt, h3, Nat.and_two_pow_sub_one_eq_mod]
  show IntKind.i64.wrap ((BitVec.ofInt 64 n &&& BitVec.ofInt 64 65535).toNat : Nat) = n % 65536
  rw [key]
  simp [IntKind.wrap, IntKind.bits, IntKind.signed]
  omega
end Go.Proofs.YtgmbmkjdfmoanaaDoor.By
