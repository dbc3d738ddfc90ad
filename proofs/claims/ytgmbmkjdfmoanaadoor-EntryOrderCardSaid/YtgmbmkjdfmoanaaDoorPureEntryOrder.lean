/- In whatever order names are put, the list is the same; its Size is the sum of what each one needs: the pure law of EntryOrder. -/
import Derived.Test.YtgmbmkjdfmoanaaDoorQx19
import Derived.Test.YtgmbmkjdfmoanaaDoorEnP
import Derived.Test.YtgmbmkjdfmoanaaDoorEnZ
import Derived.Test.YtgmbmkjdfmoanaaDoorSayEntryOrder
namespace Go.Proofs.YtgmbmkjdfmoanaaDoor.Pure
open Go.RowKit Go.Proofs.YtgmbmkjdfmoanaaDoor.Q Go.Proofs.YtgmbmkjdfmoanaaDoor.By Go.Proofs.YtgmbmkjdfmoanaaDoor.Bm Go.Proofs.YtgmbmkjdfmoanaaDoorW.PrintWords Go.Proofs.YtgmbmkjdfmoanaaDoorW.PrintLast Go.Proofs.YtgmbmkjdfmoanaaDoorW.PrintMore
set_option linter.unusedVariables false
/-- Each name stands once. -/
def Dist (m : List S43) : Prop := m.Pairwise fun a b => a.f0 ≠ b.f0
theorem put_loop (m : List S43) (hm : m.length ≤ 20) (hs : ∀ e ∈ m, e.f0.size ≤ 60) (hd : Dist m) (d : Nat) : ∀ (k i : Nat) (a b : List S43), i + d = m.length → 2000 + d ≤ k → Sorted a → (∀ y, y ∈ a ↔ y ∈ m.take i) → a.length = i → (catE a).size = (catE (m.take i)).size → Sorted b → (∀ y, y ∈ b ↔ y ∈ m.drop (m.length - i)) → b.length = i →
    lockgatelaw15_EntryOrder.l1 k true a b m ((catE m).size : Int) i = some true := by
  induction d with
  | zero =>
    intro k i a b hi hk ha hma hla hca hb hmb hlb
    obtain ⟨k, rfl⟩ : ∃ q, k = q + 1 := ⟨k - 1, by omega⟩
    obtain rfl : i = m.length := by omega
    rw [List.take_length] at hma hca
    rw [Nat.sub_self, List.drop_zero] at hmb
    obtain rfl : a = b := same_mem a b ha hb (fun y => (hma y).trans (hmb y).symm)
    rw [lockgatelaw15_EntryOrder.l1, if_neg (by omega), same_self a (by omega) k (by omega), Option.bind_some, if_pos rfl, if_pos rfl, (size2 a (by omega) (fun e he => hs e ((hma e).1 he)) k (by omega)).1, Option.bind_some, hca, if_pos rfl, hla]
    simp
  | succ d ih =>
    intro k i a b hi hk ha hma hla hca hb hmb hlb
    obtain ⟨k, rfl⟩ : ∃ q, k = q + 1 := ⟨k - 1, by omega⟩
    have hlt : i < m.length := by omega
    have hlt2 : m.length - 1 - i < m.length := by omega
    have e1 : m = m.take i ++ m[i] :: m.drop (i + 1) := by rw [← List.drop_eq_getElem_cons hlt, List.take_append_drop]
    have e2 : m = m.take (m.length - 1 - i) ++ m[m.length - 1 - i] :: m.drop (m.length - i) := by
      have := List.drop_eq_getElem_cons hlt2
      rw [show m.length - 1 - i + 1 = m.length - i by omega] at this
      rw [← this, List.take_append_drop]
    have d1 : ∀ y ∈ m.take i, y.f0 ≠ m[i].f0 := by
      have hd' := hd
      unfold Dist at hd'
      rw [e1] at hd'
      intro y hy
      exact (List.pairwise_append.1 hd').2.2 y hy _ List.mem_cons_self
    have d2 : ∀ y ∈ m.drop (m.length - i), y.f0 ≠ m[m.length - 1 - i].f0 := by
      have hd' := hd
      unfold Dist at hd'
      rw [e2] at hd'
      intro y hy
      exact fun hc => (List.pairwise_cons.1 (List.pairwise_append.1 hd').2.1).1 y hy hc.symm
    have na : ∀ x ∈ a, x.f0 ≠ m[i].f0 := fun x hx => d1 x ((hma x).1 hx)
    have la : (putL a m[i]).length = i + 1 ∧ (catE (putL a m[i])).size = (catE (m.take (i + 1))).size := by
      rcases put_len (l := a) m[i] ha with ⟨_, h2, h3⟩ | ⟨⟨x, hx, hxe⟩, _⟩
      · refine ⟨by rw [h2, hla], ?_⟩
        rw [h3, hca, List.take_succ_eq_append_getElem hlt, catE_snoc, app_size]
      · exact absurd hxe (na x hx)
    have nb : ∀ x ∈ b, x.f0 ≠ m[m.length - 1 - i].f0 := fun x hx => d2 x ((hmb x).1 hx)
    have lb : (putL b m[m.length - 1 - i]).length = i + 1 := by
      rcases put_len (l := b) m[m.length - 1 - i] hb with ⟨_, h2, _⟩ | ⟨⟨x, hx, hxe⟩, _⟩
      · rw [h2, hlb]
      · exact absurd hxe (nb x hx)
    rw [lockgatelaw15_EntryOrder.l1, if_pos (by omega), if_pos (by omega), rd_getE m i hlt, put_val a _ _ (by omega), Option.bind_some]
    have w1 : wrap64 (wrap64 ((m.length : Int) - 1) - (i : Int)) = ((m.length - 1 - i : Nat) : Int) := by
      rw [Bm.w64 (x := (m.length : Int) - 1) (by omega) (by omega), Bm.w64 (by omega) (by omega)]; omega
    rw [w1, if_pos (by omega), if_pos (by omega), rd_getE m _ hlt2, put_val b _ _ (by omega), Option.bind_some]
    rw [show wrap64 ((i : Int) + 1) = ((i + 1 : Nat) : Int) from by rw [Bm.w64 (by omega) (by omega)]; omega]
    refine ih k (i + 1) _ _ (by omega) (by omega) (put_sorted _ ha) (fun y => ?_) la.1 la.2 (put_sorted _ hb) (fun y => ?_) lb
    · rw [put_mem m[i] ha, List.take_succ_eq_append_getElem hlt, List.mem_append, List.mem_singleton, hma]
      constructor
      · rintro (h | ⟨h, _⟩)
        · exact .inr h
        · exact .inl h
      · rintro (h | h)
        · exact .inr ⟨h, d1 y h⟩
        · exact .inl h
    · have e3 : m.drop (m.length - (i + 1)) = m[m.length - 1 - i] :: m.drop (m.length - i) := by
        have := List.drop_eq_getElem_cons hlt2
        rw [show m.length - 1 - i + 1 = m.length - i by omega] at this
        rw [← this]
        congr 1
        omega
      rw [put_mem m[m.length - 1 - i] hb, e3, List.mem_cons, hmb]
      constructor
      · rintro (h | ⟨h, _⟩)
        · exact .inl h
        · exact .inr h
      · rintro (h | h)
        · exact .inl h
        · exact .inr ⟨h, d2 y h⟩
theorem take_loop (l : List S43) (hl : l.length ≤ 140737488351232) (h0 : ∀ y ∈ l, y.f0.size ≤ 140737488351232) (d : Nat) : ∀ (k i : Nat) (m : List S43), i + d = min l.length 20 → 3000 + 2 * d ≤ k → m.length ≤ i → (∀ e ∈ m, e.f0.size ≤ 60) → Dist m →
    lockgatelaw15_EntryOrder.l0 k l true m ((catE m).size : Int) i = some true := by
  have hend : ∀ (k : Nat) (i : Int) (m : List S43), 2500 ≤ k → m.length ≤ 20 → (∀ e ∈ m, e.f0.size ≤ 60) → Dist m → lockgatelaw15_EntryOrder.j1 k l true [] [] m ((catE m).size : Int) i false = some true := by
    intro k i m hk hm hs hd
    obtain ⟨k, rfl⟩ : ∃ q, k = q + 1 := ⟨k - 1, by omega⟩
    rw [lockgatelaw15_EntryOrder.j1, if_neg (by decide)]
    exact put_loop m hm hs hd m.length k 0 [] [] (by omega) (by omega) List.Pairwise.nil (fun y => by simp) rfl rfl List.Pairwise.nil (fun y => by simp) rfl
  induction d with
  | zero =>
    intro k i m hi hk hm hs hd
    obtain ⟨k, rfl⟩ : ∃ q, k = q + 1 := ⟨k - 1, by omega⟩
    rw [lockgatelaw15_EntryOrder.l0]
    by_cases h : (i : Int) < (l.length : Int)
    · rw [if_pos h, decide_eq_false (by omega)]; exact hend k _ m (by omega) (by omega) hs hd
    · rw [if_neg h]; exact hend k _ m (by omega) (by omega) hs hd
  | succ d ih =>
    intro k i m hi hk hm hs hd
    obtain ⟨k, rfl⟩ : ∃ q, k = q + 2 := ⟨k - 2, by omega⟩
    have hlt : i < l.length := by omega
    have hy := h0 _ (List.getElem_mem hlt)
    have hsz := cutTo_size l[i].f0 60
    have sok := short_ok l[i].f0 60 hy
    rw [show (((60 : Nat)) : Int) = 60 from rfl] at sok
    rw [lockgatelaw15_EntryOrder.l0, if_pos (by omega), decide_eq_true (by omega), lockgatelaw15_EntryOrder.j1, if_pos rfl, if_pos (by omega), if_pos (by omega), rd_getE l i hlt, sok, Option.bind_some]
    rw [show wrap64 ((i : Int) + 1) = ((i + 1 : Nat) : Int) from by rw [Bm.w64 (by omega) (by omega)]; omega]
    generalize cutTo l[i].f0 60 = t at hsz
    generalize Go.bits .and .i64 l[i].f1 65535 = v
    have hskip := ih k (i + 1) m (by omega) (by omega) (by omega) hs hd
    rcases find_val m t with ⟨hf, hn⟩ | ⟨x, hx, hxe, hf⟩
    · rw [hf, Option.bind_some]
      unfold entry_Name.f
      rw [Option.bind_some]
      simp only
      by_cases c : entry_Name.is t = true
      · rw [if_pos c, if_neg (by decide), if_pos (by omega)]
        have hz := catE_size m hs
        have e : wrap64 (wrap64 (((catE m).size : Int) + (t.size : Int)) + 6) = ((catE (m ++ [(⟨t, v⟩ : S43)])).size : Int) := by
          rw [catE_snoc, app_size, encE_size, Bm.w64 (x := ((catE m).size : Int) + (t.size : Int)) (by omega) (by omega), Bm.w64 (by omega) (by omega)]
          show _ = (((catE m).size + (6 + t.size) : Nat) : Int)
          omega
        rw [e]
        refine ih k (i + 1) _ (by omega) (by omega) (by simp; omega) (fun y hy => ?_) ?_
        · rcases List.mem_append.1 hy with h | h
          · exact hs y h
          · rw [List.mem_singleton.1 h]; exact hsz
        · refine List.pairwise_append.2 ⟨hd, List.pairwise_singleton _ _, fun a ha b hb => ?_⟩
          rw [List.mem_singleton.1 hb]
          exact hn a ha
      · rw [if_neg c]; exact hskip
    · rw [hf, Option.bind_some]
      unfold entry_Name.f
      rw [Option.bind_some]
      simp only
      by_cases c : entry_Name.is t = true
      · rw [if_pos c, if_pos trivial]; exact hskip
      · rw [if_neg c]; exact hskip
theorem EntryOrder : lockgatelaw15_EntryOrder.Pure := by
  intro l w0
  refine ⟨4000, ?_⟩
  unfold lockgatelaw15_EntryOrder.f
  rw [awake_ok _ (by omega), Option.bind_some]
  exact take_loop l (by omega) (fun y hy => (w0.2.2 y hy).1) (min l.length 20) 4000 0 [] (by omega) (by omega) (Nat.le_refl _) (fun _ h => by cases h) List.Pairwise.nil
end Go.Proofs.YtgmbmkjdfmoanaaDoor.Pure
