-- Written by mp.py (a program of this repo, over the print) for this seat: functions, contracts, walks.
import Derived.Test.YtgmbmkjdfmoanaaDoorQx0
import Derived.Test.YtgmbmkjdfmoanaaDoorQx2
namespace Go.Proofs.YtgmbmkjdfmoanaaDoor.Q
open Go.RowKit Go.Proofs.YtgmbmkjdfmoanaaDoorW.PrintWords Go.Proofs.YtgmbmkjdfmoanaaDoorW.PrintLast Go.Proofs.YtgmbmkjdfmoanaaDoorW.PrintMore
attribute [local go_sem] max2_int min2_int max_two min_two max_three min_three max_four min_four   -- for this text's walks alone
set_option linter.unusedVariables false
set_option linter.unusedSimpArgs false

/-! ### entry_Split: function 12: by hand -/
def entry_Split.f (k : Nat) (s : ByteArray) : Option (List ByteArray × Bool) :=
  if s = ⟨#[47]⟩ then some ([], true)
  else (strings_CutPrefix.f s (⟨#[47]⟩ : ByteArray)).bind fun c => if c.2 = true then (if 248 < c.1.size then some ([], false) else
    (strings_Split.f k c.1 (⟨#[47]⟩ : ByteArray)).bind fun l => if 8 < l.length then some ([], false) else if l.all entry_Name.is then some (l, true) else some ([], false)) else some ([], false)
theorem entry_Split.mono : ∀ a0 k, LeO (entry_Split.f k a0) (entry_Split.f (k + 1) a0) := by
  intro a0 k
  unfold entry_Split.f
  repeat' first
      | (with_reducible exact strings_Split.mono _ _ _)
      | (with_reducible exact LeO.refl _)
      | (with_reducible exact LeO.none _)
      | (with_reducible refine LeO.ite ?_ ?_)
      | (with_reducible refine LeO.bind ?_ (fun _ => ?_))
theorem entry_Split.rd_get (l : List ByteArray) (i : Nat) (h : i < l.length) : rdOf ByteArray.empty l (i : Int) = l[i] := by
  unfold rdOf
  rw [Int.toNat_natCast, List.getD_eq_getElem?_getD, List.getElem?_eq_getElem h]; rfl
theorem entry_Split.all_no (l : List ByteArray) (i : Nat) (h : i < l.length) (hn : entry_Name.is (rdOf ByteArray.empty l (i : Int)) = false) : l.all entry_Name.is = false := by
  rw [Bool.eq_false_iff]
  intro g
  rw [List.all_eq_true] at g
  rw [entry_Split.rd_get l i h, g _ (List.getElem_mem h)] at hn
  cases hn
theorem entry_Split.all_yes (l : List ByteArray) (h : ∀ j : Nat, j < l.length → entry_Name.is (rdOf ByteArray.empty l (j : Int)) = true) : l.all entry_Name.is = true := by
  rw [List.all_eq_true]
  intro x hx
  obtain ⟨j, hj, rfl⟩ := List.mem_iff_getElem.1 hx
  rw [← entry_Split.rd_get l j hj]
  exact h j hj
theorem entry_Split.clos (s : ByteArray) (w : World) : Calls Tryd.prog 33 #[.string s] w fun e w' => e = .returned (.bool (!entry_Name.is s)) ∧ Below w.heap.size w w' := by
  go_enter Tryd.func33, Tryd.ntmps33
  go_wp2_with fail
  refine (entry_Name.calls s (entry_Name.is s) _ rfl).mono ?_
  rintro e w1 ⟨rfl, hB⟩
  have HB := Aside0.mk hB
  clear hB
  go_wp2
  go_ret
  exact ⟨rfl, HB.out⟩
theorem entry_Split.idx (A : Option Addr) (c : Nat) (l : List ByteArray) (w : World) (hr : Kd.C Kd.string w A l.length l) (hc : l.length ≤ c) :
    Calls Tryd.prog 57 #[.slice A l.length c, .func (.func 33) #[] #[]] w fun e w' => (∃ n : Int, e = .returned (.int .i64 n) ∧ decide (0 ≤ n) = !l.all entry_Name.is) ∧ Below w.heap.size w w' := by
  have HR := Aside0.mk hr
  clear hr
  go_enter Tryd.func57, Tryd.ntmps57
  go_wp2
  go_loopw [8] (fun v8 wr => ∃ i : Nat, i ≤ l.length ∧ v8 = .int .i64 i ∧ Below w.heap.size w wr ∧ ∀ j : Nat, j < i → entry_Name.is (rdOf ByteArray.empty l (j : Int)) = true) (fun v8 _ => l.length - (intOf v8).toNat)
  case atStart => exact ⟨0, Nat.zero_le _, rfl, Below.refl _ _, fun j hj => absurd hj (by omega)⟩
  case round =>
    obtain ⟨i, hi, rfl, hB, hall⟩ := hrel
    have HB := Aside0.mk hB
    have HA := Aside0.mk hall
    have HR1 := Aside0.mk (Kd.C_below HR.out hB)
    clear hB hall
    by_cases hlt : i < l.length
    · have c0 : (i : Int) < (l.length : Int) := by omega
      have p0 : (0 : Int) ≤ (i : Int) := by omega
      obtain ⟨ad, e_, hx⟩ := Kd.at_string HR1.out (i : Int) p0 c0
      subst e_
      simp only [Int.toNat_natCast, Nat.mul_one] at hx
      have c1 : decide ((i : Int) < (l.length : Int)) = true := decide_eq_true c0
      have hlen : (l.length : Int) ≤ 9223372036854775807 := by have := Kd.C_max HR1.out; omega
      have p1 := eq_true p0
      have q1 := eq_true c0
      go_wp2_with fail
      refine (entry_Split.clos _ _).mono ?_
      rintro e w1 ⟨rfl, hb⟩
      have HB2 := Aside0.mk (below_step HB.out hb)
      clear hb
      cases hn : entry_Name.is (rdOf ByteArray.empty l (i : Int)) with
      | true =>
        go_wp2
        go_roundw
        case rel => exact ⟨i + 1, by omega, by go_num, HB2.out, fun j hj => if e : j = i then by rw [e]; exact hn else HA.out j (by omega)⟩
        case measure => simp [intOf]; omega
      | false =>
        go_wp2
        go_ret
        refine ⟨⟨(i : Int), rfl, ?_⟩, HB2.out⟩
        rw [decide_eq_true (by omega), entry_Split.all_no l i hlt hn]; rfl
    · obtain rfl : i = l.length := by omega
      have c1 : decide ((l.length : Int) < (l.length : Int)) = false := decide_eq_false (by omega)
      go_wp2
      go_ret
      refine ⟨⟨-1, rfl, ?_⟩, HB.out⟩
      rw [decide_eq_false (by omega), entry_Split.all_yes l HA.out]; rfl
theorem entry_Split.find (A : Option Addr) (c : Nat) (l : List ByteArray) (w : World) (hr : Kd.C Kd.string w A l.length l) (hc : l.length ≤ c) :
    Calls Tryd.prog 32 #[.slice A l.length c, .func (.func 33) #[] #[]] w fun e w' => (∃ n : Int, e = .returned (.int .i64 n) ∧ decide (0 ≤ n) = !l.all entry_Name.is) ∧ Below w.heap.size w w' := by
  have HR := Aside0.mk hr
  clear hr
  go_enter Tryd.func32, Tryd.ntmps32
  go_wp2_with fail
  refine (entry_Split.idx A c l _ HR.out hc).mono ?_
  rintro e w1 ⟨⟨n, rfl, hn⟩, hB⟩
  have HN := Aside0.mk hn
  have HB := Aside0.mk hB
  clear hn hB
  go_wp2
  go_ret
  exact ⟨⟨n, rfl, HN.out⟩, HB.out⟩
theorem entry_Split.calls (k : Nat) (a0 : ByteArray) (r1 : List ByteArray) (r2 : Bool) (w : World) (h : entry_Split.f k a0 = some (r1, r2)) :
    Calls Tryd.prog 12 #[.string a0] w fun e w' => ∃ v0_ : Value, e = .returned (.tuple #[v0_, .bool r2]) ∧ Kd.R Kd.string 9 w' w.heap.size (fun _ => True) v0_ r1 ∧ Below w.heap.size w w' := by
  unfold entry_Split.f at h
  by_cases c0 : a0 = ⟨#[47]⟩
  · rw [if_pos c0] at h
    simp only [Option.some.injEq, Prod.mk.injEq] at h
    obtain ⟨rfl, rfl⟩ := h
    subst c0
    go_enter Tryd.func12, Tryd.ntmps12
    go_wp2
    go_ret2
    exact ⟨_, rfl, Kd.R_nil _ _ _ _ _, Below.refl _ _⟩
  rw [if_neg c0] at h
  have e0 := entry_Name.ne_list a0 [47] c0
  obtain ⟨⟨c, ok⟩, hc, h⟩ := Option.bind_eq_some_iff.mp h
  simp only at h
  have HC := Aside0.mk hc
  clear hc
  cases ok with
  | false =>
    rw [if_neg (by simp)] at h
    simp only [Option.some.injEq, Prod.mk.injEq] at h
    obtain ⟨rfl, rfl⟩ := h
    go_enter Tryd.func12, Tryd.ntmps12
    go_wp2_with fail
    refine (strings_CutPrefix.calls _ _ c false _ HC.out).mono ?_
    rintro e w1 ⟨rfl, ⟨nd, rfl⟩⟩
    go_wp2
    go_ret2
    exact ⟨_, rfl, Kd.R_nil _ _ _ _ _, pw_below_drewN (Below.refl _ _) _⟩
  | true =>
    rw [if_pos rfl] at h
    by_cases c1 : 248 < c.size
    · rw [if_pos c1] at h
      simp only [Option.some.injEq, Prod.mk.injEq] at h
      obtain ⟨rfl, rfl⟩ := h
      have hb : decide ((248 : Int) < (c.size : Int)) = true := decide_eq_true (by omega)
      have hb' : decide (248 < c.size) = true := decide_eq_true c1
      go_enter Tryd.func12, Tryd.ntmps12
      go_wp2_with fail
      refine (strings_CutPrefix.calls _ _ c true _ HC.out).mono ?_
      rintro e w1 ⟨rfl, ⟨nd, rfl⟩⟩
      go_wp2
      go_ret2
      exact ⟨_, rfl, Kd.R_nil _ _ _ _ _, pw_below_drewN (Below.refl _ _) _⟩
    rw [if_neg c1] at h
    have hb : decide ((248 : Int) < (c.size : Int)) = false := decide_eq_false (by omega)
    have hb' : decide (248 < c.size) = false := decide_eq_false c1
    obtain ⟨l, hl, h⟩ := Option.bind_eq_some_iff.mp h
    have HL := Aside0.mk hl
    clear hl
    by_cases c2 : 8 < l.length
    · rw [if_pos c2] at h
      simp only [Option.some.injEq, Prod.mk.injEq] at h
      obtain ⟨rfl, rfl⟩ := h
      have hn : decide ((8 : Int) < (l.length : Int)) = true := decide_eq_true (by omega)
      have hn' : decide (8 < l.length) = true := decide_eq_true c2
      go_enter Tryd.func12, Tryd.ntmps12
      go_wp2_with fail
      refine (strings_CutPrefix.calls _ _ c true _ HC.out).mono ?_
      rintro e w1 ⟨rfl, ⟨nd, rfl⟩⟩
      go_wp2_with fail
      refine (strings_Split.calls _ _ _ l _ HL.out).mono ?_
      rintro e w2 ⟨v, rfl, hR, hB⟩
      obtain ⟨A, cp, rfl⟩ := Kd.R_slice hR
      go_wp2
      go_ret2
      exact ⟨_, rfl, Kd.R_nil _ _ _ _ _, below_step (pw_below_drewN (Below.refl _ _) _) hB⟩
    rw [if_neg c2] at h
    have hn : decide ((8 : Int) < (l.length : Int)) = false := decide_eq_false (by omega)
    have hn' : decide (8 < l.length) = false := decide_eq_false c2
    go_enter Tryd.func12, Tryd.ntmps12
    go_wp2_with fail
    refine (strings_CutPrefix.calls _ _ c true _ HC.out).mono ?_
    rintro e w1 ⟨rfl, ⟨nd, rfl⟩⟩
    go_wp2_with fail
    refine (strings_Split.calls _ _ _ l _ HL.out).mono ?_
    rintro e w2 ⟨v, rfl, hR, hB⟩
    obtain ⟨A, cp, rfl⟩ := Kd.R_slice hR
    have HR := Aside0.mk hR
    have HB := Aside0.mk hB
    clear hR hB
    have hrd := Kd.R_reads' HR.out
    go_wp2_with fail
    refine (entry_Split.find A cp l _ hrd.2.2 hrd.2.1).mono ?_
    rintro e w3 ⟨⟨n, rfl, hnn⟩, hB3⟩
    have HR3 := Aside0.mk (Kd.R_below HR.out hB3)
    have HB3 := Aside0.mk (below_step (below_step (pw_below_drewN (Below.refl _ _) nd) HB.out) hB3)
    clear HR HB hB3 hrd
    cases ha : l.all entry_Name.is with
    | true =>
      rw [if_pos ha] at h
      simp only [Option.some.injEq, Prod.mk.injEq] at h
      obtain ⟨rfl, rfl⟩ := h
      rw [ha] at hnn
      simp only [Bool.not_true] at hnn
      go_wp2
      go_ret2
      exact ⟨_, rfl, HR3.out, HB3.out⟩
    | false =>
      rw [if_neg (by rw [ha]; simp)] at h
      simp only [Option.some.injEq, Prod.mk.injEq] at h
      obtain ⟨rfl, rfl⟩ := h
      rw [ha] at hnn
      simp only [Bool.not_false] at hnn
      go_wp2
      go_ret2
      exact ⟨_, rfl, Kd.R_nil _ _ _ _ _, HB3.out⟩

/-! ### entry_Zone: function 17 -/
def entry_Zone.l0 : Nat → ByteArray → Int → Int → Int → Option (Int)
  | 0, _, _, _, _ => none
  | k + 1, x0, x3, x6, x7 => if x7 < x6 then (if 0 ≤ x7 then (if x7 < (x0.size : Int) then (entry_Zone.l0 k x0 (wrap64 (x3 + (wrap64 (bt x0 x7)))) x6 (wrap64 (x7 + 1))) else (none)) else (none)) else (some (Int.tmod x3 4))
def entry_Zone.f (k : Nat) (a0 : ByteArray) : Option (Int) := entry_Zone.l0 k a0 0 (a0.size : Int) 0
theorem entry_Zone.mono_l : ∀ k, (∀ y0 y1 y2 y3, LeO (entry_Zone.l0 k y0 y1 y2 y3) (entry_Zone.l0 (k + 1) y0 y1 y2 y3))
  | 0 => fun _ _ _ _ r h => by simp [entry_Zone.l0] at h
  | k + 1 => by
    have ih0 := entry_Zone.mono_l k
    · intro y0 y1 y2 y3
      unfold entry_Zone.l0
      repeat' first
      | (with_reducible exact ih0 _ _ _ _)
      | (with_reducible exact LeO.refl _)
      | (with_reducible exact LeO.none _)
      | (with_reducible refine LeO.ite ?_ ?_)
      | (with_reducible refine LeO.bind ?_ (fun _ => ?_))
      | exact ih0 _ _ _ _
      | exact LeO.none _
      | refine LeO.ite ?_ ?_
      | refine LeO.bind ?_ (fun _ => ?_)
theorem entry_Zone.mono : ∀ a0 k, LeO (entry_Zone.f k a0) (entry_Zone.f (k + 1) a0) := by
  intro a0 k
  have ih0 := entry_Zone.mono_l k
  unfold entry_Zone.f
  repeat' first
      | (with_reducible exact ih0 _ _ _ _)
      | (with_reducible exact LeO.refl _)
      | (with_reducible exact LeO.none _)
      | (with_reducible refine LeO.ite ?_ ?_)
      | (with_reducible refine LeO.bind ?_ (fun _ => ?_))
      | exact ih0 _ _ _ _
      | exact LeO.none _
      | refine LeO.ite ?_ ?_
      | refine LeO.bind ?_ (fun _ => ?_)
set_option maxHeartbeats 8000000 in
set_option maxRecDepth 100000 in
theorem entry_Zone.calls (k : Nat) (a0 : ByteArray) (r : Int) (w : World) (h : entry_Zone.f k a0 = some r) :
    Calls Tryd.prog 17 #[.string a0] w fun e w' => e = .returned (.int .i64 r) ∧ Drawn0 w w' := by
  have H : (entry_Zone.l0 k a0 0 (a0.size : Int) 0) = some r := h
  clear h
  have H' := Aside0.mk H
  clear H
  go_enter Tryd.func17, Tryd.ntmps17
  go_wp2
  go_loopg [3, 7] k (fun kq v3 v7 w' => ∃ (x3_1 : Int) (x7_1 : Int), v3 = .int .i64 x3_1 ∧ v7 = .int .i64 x7_1 ∧ Aside0 (entry_Zone.l0 kq a0 x3_1 (a0.size : Int) x7_1 = some r) ∧ Aside0 (kq ≤ k) ∧ Drawn0 w w')
  case atStart => exact ⟨(0), (0), (by first | rfl | (simp; done) | (simp [*]; done)), (by first | rfl | (simp; done) | (simp [*]; done)), H', ⟨Nat.le_refl _⟩, by repeat (first | exact Drawn0.refl _ | apply Drawn0.step)⟩
  case round =>
    clear H'
    try clear c1
    obtain ⟨x3_1, x7_1, rfl, rfl, HA, HK1, ⟨m1, rfl⟩⟩ := hrel
    cases gk with
    | zero => exact absurd HA.out (by simp [entry_Zone.l0])
    | succ k1 =>
      have H := HA.out
      clear HA
      simp only [entry_Zone.l0] at H
      by_cases c2 : x7_1 < (a0.size : Int)
      · rw [if_pos c2] at H
        have c2b0 : decide (x7_1 < (a0.size : Int)) = true := decide_eq_true c2
        clear c2
        by_cases c3 : 0 ≤ x7_1
        · rw [if_pos c3] at H
          have c3b0 : decide (0 ≤ x7_1) = true := decide_eq_true c3
          clear c3
          by_cases c4 : x7_1 < (a0.size : Int)
          · rw [if_pos c4] at H
            have c4b0 : decide (x7_1 < (a0.size : Int)) = true := decide_eq_true c4
            clear c4
            have H' := Aside0.mk H
            clear H
            have p5 : 0 ≤ (x7_1 : Int) := of_decide_eq_true (by first | (with_reducible assumption) | assumption)
            have q5 : x7_1 < (a0.size : Int) := of_decide_eq_true (by first | (with_reducible assumption) | assumption)
            have hx5 := bt_at a0 x7_1
            replace p5 := eq_true p5
            replace q5 := eq_true q5
            go_wp2
            go_roundg k1
            case measure => have := HK1.out; omega
            case rel => exact ⟨(wrap64 (x3_1 + (wrap64 (bt a0 x7_1)))), (wrap64 (x7_1 + 1)), (by first | rfl | (simp; done) | (simp [*]; done)), (by first | rfl | (simp; done) | (simp [*]; done)), H', ⟨by have := HK1.out; omega⟩, by repeat (first | exact Drawn0.refl _ | apply Drawn0.step)⟩
          · rw [if_neg c4] at H
            exact absurd H (by simp)
        · rw [if_neg c3] at H
          exact absurd H (by simp)
      · rw [if_neg c2] at H
        have c2b0 : decide (x7_1 < (a0.size : Int)) = false := decide_eq_false c2
        clear c2
        obtain rfl := Option.some.inj H
        go_wp2
        go_ret
        exact ⟨by first | rfl | (simp; done) | (simp [*]; done), by repeat (first | exact Drawn0.refl _ | apply Drawn0.step)⟩

end Go.Proofs.YtgmbmkjdfmoanaaDoor.Q
