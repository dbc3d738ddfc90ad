/- How arguments that are rows (of numbers, texts, records, rows) are opened into what the walks tell: for the rows of laws that take such. -/
import Derived.Test.YtehnbbabjnibkaaProg
import Derived.Test.YtehnbbabjnibkaaWMore
import Derived.WalkKit
import Derived.ProofKit
import Derived.OpenShut
import Derived.ShutString
import Derived.ChangeOld
import Derived.Below
import Derived.SizedLaws
namespace Go.Proofs.Ytehnbbabjnibkaa.OpenC
open Go.ChangeShapes Go.WideShapes Go.ChangeAt Go.RowKit Go.Proofs.YtehnbbabjnibkaaW.PrintWords Go.Proofs.YtehnbbabjnibkaaW.PrintLast Go.Proofs.YtehnbbabjnibkaaW.PrintMore
set_option linter.unusedVariables false
variable {H : Type} {enc : TypeId × Value → H} {P : Program} {w : World} {α : Type} {t e : TypeId}

/-- What lies at cells of this type is as the walks tell it, and is no more than memory holds. -/
def Opens (enc : TypeId × Value → H) (P : Program) (w : World) (k : Kd α) (t : TypeId) (G : α → Prop) : Prop :=
  ∀ (base : Nat) (spare : Nat → Bool) (held : Bool) (fuel : Nat) (cs : List Value) (y : DataW H × List MemPlace),
    DataW.trod enc P w base spare held fuel t cs = some y → (∀ n ∈ y.1.weights P t, n ≤ reachBytes) → ∃ x, k.K w x cs ∧ G x
theorem opens_int {k : IntKind} (hU : P.underlying t = some (.int k)) : Opens enc P w (Kd.int k) t (fun n => (Lit.int k n).wf = true) := by
  intro base spare held fuel cs y h _
  obtain ⟨n, rfl, _, hw⟩ := DataW.trod_int hU h
  exact ⟨n, rfl, hw⟩
theorem opens_bool (hU : P.underlying t = some .bool) : Opens enc P w Kd.bool t (fun _ => True) := by
  intro base spare held fuel cs y h _
  obtain ⟨n, rfl, _⟩ := DataW.trod_bool hU h
  exact ⟨n, rfl, trivial⟩
theorem opens_string (hU : P.underlying t = some .string) : Opens enc P w Kd.string t (fun s => s.size ≤ 140737488351232) := by
  intro base spare held fuel cs y h hw
  obtain ⟨s, rfl, rfl, _⟩ := DataW.trod_string hU h
  refine ⟨s, rfl, ?_⟩
  have := hw s.data.toList.length (by simp [DataW.weights])
  rw [Array.length_toList] at this
  exact this
theorem choose_list (n : Nat) (R : Nat → α → Prop) (h : ∀ i, i < n → ∃ x, R i x) : ∃ xs : List α, xs.length = n ∧ ∀ i x, xs[i]? = some x → R i x := by
  induction n with
  | zero => exact ⟨[], rfl, fun i x hx => by simp at hx⟩
  | succ n ih =>
    obtain ⟨xs, hl, hx⟩ := ih (fun i hi => h i (by omega))
    obtain ⟨x, hr⟩ := h n (by omega)
    refine ⟨xs ++ [x], by simp [hl], fun i y hy => ?_⟩
    by_cases c : i < n
    · rw [List.getElem?_append_left (by omega)] at hy
      exact hx i y hy
    · have hi : i < (xs ++ [x]).length := (List.getElem?_eq_some_iff.1 hy).1
      rw [List.length_append, List.length_singleton] at hi
      obtain rfl : i = n := by omega
      rw [List.getElem?_append_right (by omega), hl, Nat.sub_self] at hy
      have : x = y := by simpa using hy
      rw [← this]; exact hr
theorem weights_all {l : List (DataW H)} {d : DataW H} (hd : d ∈ l) {n : Nat} (hn : n ∈ d.weights P e) : n ∈ DataW.weightsAll P e l := by
  induction l with
  | nil => simp at hd
  | cons a l ih =>
    unfold DataW.weightsAll
    rw [List.mem_append]
    rcases List.mem_cons.1 hd with rfl | h
    · exact .inl hn
    · exact .inr (ih h)
theorem addr_add (a : Addr) (i j : Nat) : (a.add i).add j = a.add (i + j) := by
  unfold Addr.add
  by_cases h1 : i = 0
  · subst h1; simp
  · by_cases h2 : j = 0
    · subst h2; simp
    · simp [h1, h2, Nat.add_assoc]
theorem opens_slice {k : Kd α} {G : α → Prop} (hU : P.underlying t = some (.slice e)) (hc : P.cellsOf e = k.sz) (h : Opens enc P w k e G) :
    Opens enc P w (Kd.slice e k) t (fun xs => xs.length ≤ maxLen ∧ xs.length * P.bytesOf e ≤ 140737488351232 ∧ ∀ x ∈ xs, G x) := by
  intro base spare held fuel cs y hy hw
  rcases DataW.trod_slice hU hy with ⟨rfl, rfl⟩ | ⟨a, len, cap, elems, rest, n, _, rfl, rfl, hb, hl, hm, hlen, hel, hsp, hns⟩
  · exact ⟨[], ⟨none, 0, rfl, Nat.le_refl _, rfl, by simp, fun h => absurd h (Nat.lt_irrefl 0)⟩, by simp, by simp, by simp⟩
  · simp only [DataW.weights, hU] at hw
    have each : ∀ i, i < len → ∃ x, (∃ cs, w.cells? base (a.add (i * P.cellsOf e)) (P.cellsOf e) = some cs ∧ k.K w x cs) ∧ G x := by
      intro i hi
      have hi' : i < elems.length := by omega
      have := hel i hi
      rw [List.getElem?_eq_getElem hi', Option.bind_eq_some_iff] at this
      obtain ⟨cs', hcs, hy'⟩ := this
      obtain ⟨x, hx, hg⟩ := h base spare held n cs' _ hy' (fun m hm => hw m (by
        rw [List.mem_cons, List.mem_append]
        exact .inr (.inl (weights_all (List.mem_map_of_mem (List.getElem_mem hi')) hm))))
      exact ⟨x, ⟨cs', hcs, hx⟩, hg⟩
    obtain ⟨xs, hxl, hxs⟩ := choose_list len _ each
    refine ⟨xs, ⟨some a, cap, by rw [hxl], by omega, rfl, by rw [hxl]; exact Nat.le_trans (Nat.le_trans hl hm) (by decide), fun hn => ⟨a, rfl, fun j p hj => ?_⟩⟩, by omega, ?_, fun x hx => ?_⟩
    · obtain ⟨⟨cs, hcs, hk⟩, _⟩ := hxs j p hj
      have h3 := World.cells?_some hcs
      refine ⟨cs, k.K_len hk, hk, fun i u hu => ?_⟩
      have hil := (List.getElem?_eq_some_iff.1 hu).1
      have := h3.2.2 i (by omega)
      rw [addr_add, hu, hc] at this
      exact this
    · have := hw ((elems.length + rest.length) * P.bytesOf e) (by simp)
      rw [hxl, ← hlen]
      exact Nat.le_trans (Nat.mul_le_mul_right _ (Nat.le_add_right _ _)) this
    · obtain ⟨i, hi⟩ := List.getElem?_of_mem hx
      exact (hxs i x hi).2
theorem opens_slice_b {k : Kd α} {G : α → Prop} {b : Nat} (hU : P.underlying t = some (.slice e)) (hc : P.cellsOf e = k.sz) (hb : P.bytesOf e = b) (h : Opens enc P w k e G) :
    Opens enc P w (Kd.slice e k) t (fun xs => xs.length ≤ maxLen ∧ xs.length * b ≤ 140737488351232 ∧ ∀ x ∈ xs, G x) := by
  subst hb
  exact opens_slice hU hc h
/-- An argument's weights are below what memory holds. -/
theorem arg_weights {ts : List TypeId} {ds : List (DataW H)} (h : (DataW.weightsEach P ts ds).all (· ≤ reachBytes) = true) {j : Nat} {t : TypeId} {d : DataW H} (ht : ts[j]? = some t) (hd : ds[j]? = some d) :
    ∀ n ∈ d.weights P t, n ≤ reachBytes := by
  intro n hn
  have := List.all_eq_true.1 h _ (DataW.weights_mem_each ht hd n hn)
  simpa using this
/-- An argument that is a row. -/
theorem open_row {k : Kd α} {G : α → Prop} {base : Nat} {spare : Nat → Bool} {held : Bool} {v : Value} {d : DataW H} {p : List MemPlace} (hU : P.underlying t = some (.slice e)) (hc : P.cellsOf e = k.sz) (hG : Opens enc P w k e G)
    {r : Reach} {b0 : Nat} (hv : Value.okWide P w r b0 t v) (h : DataW.Trod enc P w base spare held t v d p) (hw : ∀ n ∈ d.weights P t, n ≤ reachBytes) :
    ∃ A c l, v = .slice A (List.length l) c ∧ k.C w A (List.length l) l ∧ (List.length l) ≤ c ∧ List.length l ≤ maxLen ∧ List.length l * P.bytesOf e ≤ 140737488351232 ∧ ∀ x ∈ l, G x := by
  obtain ⟨a, len, cap, rfl⟩ := okWide_slice hU hv
  obtain ⟨fuel, hf⟩ := h
  obtain ⟨xs, ⟨A, c, e1, e2, e3⟩, g1, g2, g3⟩ := opens_slice hU hc hG base spare held fuel _ _ hf hw
  have e0 : (Value.slice a len cap).cells.toList = [.slice a len cap] := rfl
  rw [e0] at e1
  injection e1 with e1
  exact ⟨A, c, xs, e1, e3, e2, g1, g2, g3⟩
theorem open_row_b {k : Kd α} {G : α → Prop} {base b : Nat} {spare : Nat → Bool} {held : Bool} {v : Value} {d : DataW H} {p : List MemPlace} (hU : P.underlying t = some (.slice e)) (hc : P.cellsOf e = k.sz) (hb : P.bytesOf e = b) (hG : Opens enc P w k e G)
    {r : Reach} {b0 : Nat} (hv : Value.okWide P w r b0 t v) (h : DataW.Trod enc P w base spare held t v d p) (hw : ∀ n ∈ d.weights P t, n ≤ reachBytes) :
    ∃ A c l, v = .slice A (List.length l) c ∧ k.C w A (List.length l) l ∧ (List.length l) ≤ c ∧ (List.length l ≤ maxLen ∧ List.length l * b ≤ 140737488351232 ∧ ∀ x ∈ l, G x) := by
  subst hb
  exact open_row hU hc hG hv h hw

/-! ### records and small arrays -/
/-- What lies at cells of this type has this form. -/
def OpensL (enc : TypeId × Value → H) (P : Program) (w : World) (t : TypeId) (Q : List Value → Prop) : Prop :=
  ∀ (base : Nat) (spare : Nat → Bool) (held : Bool) (fuel : Nat) (cs : List Value) (y : DataW H × List MemPlace),
    DataW.trod enc P w base spare held fuel t cs = some y → (∀ n ∈ y.1.weights P t, n ≤ reachBytes) → Q cs
theorem Opens.toL {k : Kd α} {G : α → Prop} (h : Opens enc P w k t G) : OpensL enc P w t (fun cs => ∃ x, k.K w x cs ∧ G x) := h
def OpensFs (enc : TypeId × Value → H) (P : Program) (w : World) : List Field → List (List Value → Prop) → Prop
  | [], [] => True
  | f :: fs, Q :: Qs => OpensL enc P w f.type Q ∧ OpensFs enc P w fs Qs
  | _, _ => False
def Parts (P : Program) (cs : List Value) : List Field → List (List Value → Prop) → Prop
  | f :: fs, Q :: Qs => Q ((cs.drop f.offset).take (P.cellsOf f.type)) ∧ Parts P cs fs Qs
  | _, _ => True
theorem parts_of {base : Nat} {spare : Nat → Bool} {held : Bool} {fuel : Nat} {cs : List Value} : ∀ (fs : List Field) (Qs : List (List Value → Prop)) (xs : List (DataW H × List MemPlace)), OpensFs enc P w fs Qs → xs.length = fs.length →
    (∀ (i : Nat) (f : Field), fs[i]? = some f → DataW.trod enc P w base spare held fuel f.type ((cs.drop f.offset).take (P.cellsOf f.type)) = xs[i]?) →
    (∀ n ∈ DataW.weightsEach P (fs.map (·.type)) (xs.map (·.1)), n ≤ reachBytes) → Parts P cs fs Qs
  | [], _, _, _, _, _, _ => by unfold Parts; trivial
  | f :: fs, [], _, h, _, _, _ => h.elim
  | f :: fs, Q :: Qs, [], _, hl, _, _ => by simp at hl
  | f :: fs, Q :: Qs, x :: xs, h, hl, hx, hw => by
    have h0 := hx 0 f rfl
    simp only [List.map_cons, DataW.weightsEach, List.mem_append] at hw
    exact ⟨h.1 base spare held fuel _ x h0 (fun n hn => hw n (.inl hn)), parts_of fs Qs xs h.2 (by simpa using hl) (fun i g hg => hx (i + 1) g hg) (fun n hn => hw n (.inr hn))⟩
theorem opensL_struct {fs : Array Field} {Qs : List (List Value → Prop)} (hs : P.underlying t = some (.struct fs)) (h : OpensFs enc P w fs.toList Qs) : OpensL enc P w t (fun cs => cs.length = P.cellsOf t ∧ Parts P cs fs.toList Qs) := by
  intro base spare held fuel cs y hy hw
  obtain ⟨xs, n, rfl, rfl, hl, hxl, hx⟩ := DataW.trod_struct hs hy
  simp only [DataW.weights, hs] at hw
  exact ⟨hl, parts_of fs.toList Qs xs h (by rw [hxl, Array.length_toList]) (fun i f hf => hx i f (by rw [← hf, Array.getElem?_toList])) hw⟩
theorem opensL_fields {fs : List Field} {Qs : List (List Value → Prop)} (hs : P.underlying t = some (.struct fs.toArray)) (h : OpensFs enc P w fs Qs) : OpensL enc P w t (fun cs => cs.length = P.cellsOf t ∧ Parts P cs fs Qs) := by
  have h' := opensL_struct (Qs := Qs) hs (by rw [List.toList_toArray]; exact h)
  rw [List.toList_toArray] at h'
  exact h'
theorem opensL_array {n : Nat} {Q : List Value → Prop} (hU : P.underlying t = some (.array n e)) (h : OpensL enc P w e Q) :
    OpensL enc P w t (fun cs => cs.length = P.cellsOf t ∧ ∀ i, i < n → Q ((cs.drop (i * P.cellsOf e)).take (P.cellsOf e))) := by
  intro base spare held fuel cs y hy hw
  cases fuel with
  | zero => simp [DataW.trod] at hy
  | succ fuel =>
    unfold DataW.trod at hy
    rw [hU] at hy
    simp only at hy
    split at hy
    · rename_i hl
      obtain ⟨xs, hx, rfl⟩ := Option.map_eq_some_iff.1 hy
      simp only [DataW.weights, hU] at hw
      refine ⟨hl, fun i hi => ?_⟩
      have hlen := mapM_some_length hx
      rw [List.length_range] at hlen
      have hi' : i < xs.length := by omega
      have := mapM_some_get hx i i (by simp [hi])
      rw [List.getElem?_eq_getElem hi'] at this
      exact h base spare held fuel _ _ this (fun m hm => hw m (weights_all (List.mem_map_of_mem (List.getElem_mem hi')) hm))
    · cases hy
theorem list_one {l : List α} (h : l.length = 1) : ∃ a, l = [a] := by match l, h with | [a], _ => exact ⟨a, rfl⟩
theorem list_two {l : List α} (h : l.length = 2) : ∃ a b, l = [a, b] := by match l, h with | [a, b], _ => exact ⟨a, b, rfl⟩
theorem list_three {l : List α} (h : l.length = 3) : ∃ a b c, l = [a, b, c] := by match l, h with | [a, b, c], _ => exact ⟨a, b, c, rfl⟩
theorem list_four {l : List α} (h : l.length = 4) : ∃ a b c d, l = [a, b, c, d] := by match l, h with | [a, b, c, d], _ => exact ⟨a, b, c, d, rfl⟩
theorem list_five {l : List α} (h : l.length = 5) : ∃ a b c d e, l = [a, b, c, d, e] := by match l, h with | [a, b, c, d, e], _ => exact ⟨a, b, c, d, e, rfl⟩
theorem list_six {l : List α} (h : l.length = 6) : ∃ a b c d e f, l = [a, b, c, d, e, f] := by match l, h with | [a, b, c, d, e, f], _ => exact ⟨a, b, c, d, e, f, rfl⟩
theorem list_seven {l : List α} (h : l.length = 7) : ∃ a b c d e f g, l = [a, b, c, d, e, f, g] := by match l, h with | [a, b, c, d, e, f, g], _ => exact ⟨a, b, c, d, e, f, g, rfl⟩
theorem list_eight {l : List α} (h : l.length = 8) : ∃ a b c d e f g x, l = [a, b, c, d, e, f, g, x] := by match l, h with | [a, b, c, d, e, f, g, x], _ => exact ⟨a, b, c, d, e, f, g, x, rfl⟩
theorem list_nine {l : List α} (h : l.length = 9) : ∃ a b c d e f g x y, l = [a, b, c, d, e, f, g, x, y] := by match l, h with | [a, b, c, d, e, f, g, x, y], _ => exact ⟨a, b, c, d, e, f, g, x, y, rfl⟩
theorem list_ten {l : List α} (h : l.length = 10) : ∃ a b c d e f g x y z, l = [a, b, c, d, e, f, g, x, y, z] := by match l, h with | [a, b, c, d, e, f, g, x, y, z], _ => exact ⟨a, b, c, d, e, f, g, x, y, z, rfl⟩
/-- An argument that is a record or an array, as its cells. -/
theorem okWide_array {n : Nat} {r : Reach} {b0 : Nat} {v : Value} (hU : P.underlying t = some (.array n e)) (h : Value.okWide P w r b0 t v) : ∃ cs : Array Value, v = .agg cs := by
  unfold Value.okWide at h
  rw [hU] at h
  obtain ⟨cs, rfl, _⟩ := h
  exact ⟨cs, rfl⟩
theorem open_agg {Q : List Value → Prop} {base : Nat} {spare : Nat → Bool} {held : Bool} {cs : Array Value} {d : DataW H} {p : List MemPlace} (hQ : OpensL enc P w t Q) (h : DataW.Trod enc P w base spare held t (.agg cs) d p) (hw : ∀ n ∈ d.weights P t, n ≤ reachBytes) :
    Q cs.toList := by
  obtain ⟨fuel, hf⟩ := h
  exact hQ base spare held fuel _ _ hf hw
theorem agg_of {cs : Array Value} {l : List Value} (h : cs.toList = l) : cs = l.toArray := by rw [← h]
end Go.Proofs.Ytehnbbabjnibkaa.OpenC
