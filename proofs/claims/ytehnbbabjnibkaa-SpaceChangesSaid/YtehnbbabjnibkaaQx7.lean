-- Written by mp.py (a program of this repo, over the print) for this seat: functions, contracts, walks.
import Derived.Test.YtehnbbabjnibkaaQx0
namespace Go.Proofs.Ytehnbbabjnibkaa.Q
open Go.RowKit Go.Proofs.YtehnbbabjnibkaaW.PrintWords Go.Proofs.YtehnbbabjnibkaaW.PrintLast Go.Proofs.YtehnbbabjnibkaaW.PrintMore
attribute [local go_sem] max2_int min2_int max_two min_two max_three min_three max_four min_four   -- for this text's walks alone
set_option linter.unusedVariables false
set_option linter.unusedSimpArgs false

/-! ### lockgatelaw17_small: function 9 -/
mutual
def lockgatelaw17_small.l0 : Nat → List ByteArray → List ByteArray → Int → Option (List ByteArray)
  | 0, _, _, _ => none
  | k + 1, x0, x3, x4 => if x4 < (x0.length : Int) then (lockgatelaw17_small.j1 k x0 x3 x4 (decide (x4 < 6))) else (lockgatelaw17_small.j1 k x0 x3 x4 false)
def lockgatelaw17_small.j1 : Nat → List ByteArray → List ByteArray → Int → Bool → Option (List ByteArray)
  | 0, _, _, _, _ => none
  | k + 1, x0, x3, x4, x13 => if x13 = true then (if 0 ≤ x4 then (if x4 < (x0.length : Int) then (if ((rdOf ByteArray.empty x0 x4).size : Int) > 40 then (if 0 ≤ 40 then (if 40 ≤ ((rdOf ByteArray.empty x0 x4).size : Int) then (if x3.length < 8796093022208 then (lockgatelaw17_small.l0 k x0 (x3 ++ [(rdOf ByteArray.empty x0 x4).extract 0 40]) (wrap64 (x4 + 1))) else (none)) else (none)) else (none)) else (if x3.length < 8796093022208 then (lockgatelaw17_small.l0 k x0 (x3 ++ [rdOf ByteArray.empty x0 x4]) (wrap64 (x4 + 1))) else (none))) else (none)) else (none)) else (some x3)
end
def lockgatelaw17_small.f (k : Nat) (l0 : List ByteArray) : Option (List ByteArray) := lockgatelaw17_small.l0 k l0 ([] : List ByteArray) 0
theorem lockgatelaw17_small.mono_l : ∀ k, (∀ y0 y1 y2, LeO (lockgatelaw17_small.l0 k y0 y1 y2) (lockgatelaw17_small.l0 (k + 1) y0 y1 y2)) ∧ (∀ y0 y1 y2 y3, LeO (lockgatelaw17_small.j1 k y0 y1 y2 y3) (lockgatelaw17_small.j1 (k + 1) y0 y1 y2 y3))
  | 0 => ⟨fun _ _ _ r h => by simp [lockgatelaw17_small.l0] at h, fun _ _ _ _ r h => by simp [lockgatelaw17_small.j1] at h⟩
  | k + 1 => by
    obtain ⟨ih0, ih1⟩ := lockgatelaw17_small.mono_l k
    refine ⟨?_, ?_⟩
    · intro y0 y1 y2
      unfold lockgatelaw17_small.l0
      repeat' first
      | (with_reducible exact ih0 _ _ _)
      | (with_reducible exact ih1 _ _ _ _)
      | (with_reducible exact LeO.refl _)
      | (with_reducible exact LeO.none _)
      | (with_reducible refine LeO.ite ?_ ?_)
      | (with_reducible refine LeO.bind ?_ (fun _ => ?_))
      | exact ih0 _ _ _
      | exact ih1 _ _ _ _
      | exact LeO.none _
      | refine LeO.ite ?_ ?_
      | refine LeO.bind ?_ (fun _ => ?_)
    · intro y0 y1 y2 y3
      unfold lockgatelaw17_small.j1
      repeat' first
      | (with_reducible exact ih0 _ _ _)
      | (with_reducible exact ih1 _ _ _ _)
      | (with_reducible exact LeO.refl _)
      | (with_reducible exact LeO.none _)
      | (with_reducible refine LeO.ite ?_ ?_)
      | (with_reducible refine LeO.bind ?_ (fun _ => ?_))
      | exact ih0 _ _ _
      | exact ih1 _ _ _ _
      | exact LeO.none _
      | refine LeO.ite ?_ ?_
      | refine LeO.bind ?_ (fun _ => ?_)
theorem lockgatelaw17_small.mono : ∀ a0 k, LeO (lockgatelaw17_small.f k a0) (lockgatelaw17_small.f (k + 1) a0) := by
  intro a0 k
  obtain ⟨ih0, ih1⟩ := lockgatelaw17_small.mono_l k
  unfold lockgatelaw17_small.f
  repeat' first
      | (with_reducible exact ih0 _ _ _)
      | (with_reducible exact ih1 _ _ _ _)
      | (with_reducible exact LeO.refl _)
      | (with_reducible exact LeO.none _)
      | (with_reducible refine LeO.ite ?_ ?_)
      | (with_reducible refine LeO.bind ?_ (fun _ => ?_))
      | exact ih0 _ _ _
      | exact ih1 _ _ _ _
      | exact LeO.none _
      | refine LeO.ite ?_ ?_
      | refine LeO.bind ?_ (fun _ => ?_)
set_option maxHeartbeats 8000000 in
set_option maxRecDepth 100000 in
theorem lockgatelaw17_small.calls (k : Nat) (A0 : Option Addr) (c0 : Nat) (l0 : List ByteArray) (r : List ByteArray) (w : World) (hr0 : Kd.C Kd.string w A0 l0.length l0) (hc0 : l0.length ≤ c0) (h : lockgatelaw17_small.f k l0 = some r) :
    Calls Try.prog 9 #[.slice A0 l0.length c0] w fun e w' => ∃ v0_ : Value, e = .returned (v0_) ∧ Kd.R Kd.string 9 w' w.heap.size (fun _ => True) v0_ r ∧ Below w.heap.size w w' := by
  have HR0 := Aside0.mk hr0
  have HC0 := Aside0.mk hc0
  clear hr0 hc0
  have HB := Aside0.mk (Below.refl w.heap.size w)
  have H : (lockgatelaw17_small.l0 k l0 ([] : List ByteArray) 0) = some r := h
  clear h
  have H' := Aside0.mk H
  clear H
  go_enter Try.func9, Try.ntmps9
  go_wp2
  go_loopg [3, 4] k (fun kq v3 v4 w' => ∃ (x3_1 : List ByteArray) (x4_1 : Int), v4 = .int .i64 x4_1 ∧ Aside0 (lockgatelaw17_small.l0 kq l0 x3_1 x4_1 = some r) ∧ Aside0 (kq ≤ k) ∧ Aside0 (Kd.R Kd.string 9 w' w.heap.size (fun _ => True) v3 x3_1) ∧ Aside0 (Below w.heap.size w w'))
  case atStart => exact ⟨(([] : List ByteArray)), (0), (by first | rfl | (simp; done) | (simp [*]; done)), H', ⟨Nat.le_refl _⟩, ⟨by first | exact Kd.R_nil _ _ _ _ _ | exact Kd.N_nil _ _ _ _ _ | exact Kd.V_nil _ _ _ _ _ | exact Kd.Q_nil _ _ _ _ _ | exact Kd.S_nil _ _ _ _ _⟩, ⟨by repeat (first | (with_reducible first | exact HB.out | apply below_alloc | apply pw_below_drewN | apply below_drew1) | exact HB.out)⟩⟩
  case round =>
    clear H'
    obtain ⟨x3_1, x4_1, rfl, HA, HK1, HO_3, HB⟩ := hrel
    cases gk with
    | zero => exact absurd HA.out (by simp [lockgatelaw17_small.l0])
    | succ k1 =>
      have H := HA.out
      clear HA
      simp only [lockgatelaw17_small.l0] at H
      have HC2 := Aside0.mk H
      clear H
      go_upto_region 3 with (fail)
      go_cut [13] (fun v13 wc => ∃ (kq : Nat) (x13_1 : Bool), v13 = .bool x13_1 ∧ Aside0 (lockgatelaw17_small.j1 kq l0 x3_1 x4_1 x13_1 = some r) ∧ Aside0 (kq ≤ k1) ∧ Aside0 (Kd.R Kd.string 9 wc w.heap.size (fun _ => True) u3 x3_1) ∧ Aside0 (Below w.heap.size w wc))
      case first =>
        have H := HC2.out
        clear HC2
        by_cases c3 : x4_1 < (l0.length : Int)
        · rw [if_pos c3] at H
          have c3b0 : decide (x4_1 < (l0.length : Int)) = true := decide_eq_true c3
          clear c3
          (first | rw [c3b0] | (simp only [i64_w, i32_w]; rw [c3b0]) | skip)
          have H' := Aside0.mk H
          clear H
          go_wp2
          go_meet
          case rel => exact ⟨_, (decide (x4_1 < 6)), (by first | rfl | (simp; done) | (simp [*]; done)), H', ⟨by have := HK1.out; first | omega | exact Nat.le_refl _⟩, ⟨by (with_reducible repeat (first | apply Kd.R_alloc | apply Kd.R_drewN | apply Kd.R_drew)); exact HO_3.out⟩, ⟨by repeat (first | (with_reducible first | exact HB.out | apply below_alloc | apply pw_below_drewN | apply below_drew1) | exact HB.out)⟩⟩
        · rw [if_neg c3] at H
          have c3b0 : decide (x4_1 < (l0.length : Int)) = false := decide_eq_false c3
          clear c3
          (first | rw [c3b0] | (simp only [i64_w, i32_w]; rw [c3b0]) | skip)
          have H' := Aside0.mk H
          clear H
          go_wp2
          go_meet
          case rel => exact ⟨_, (false), (by first | rfl | (simp; done) | (simp [*]; done)), H', ⟨by have := HK1.out; first | omega | exact Nat.le_refl _⟩, ⟨by (with_reducible repeat (first | apply Kd.R_alloc | apply Kd.R_drewN | apply Kd.R_drew)); exact HO_3.out⟩, ⟨by repeat (first | (with_reducible first | exact HB.out | apply below_alloc | apply pw_below_drewN | apply below_drew1) | exact HB.out)⟩⟩
      case rest =>
        clear HC2
        try clear p2
        try clear c3
        try clear c3b0
        obtain ⟨kq, x13_1, rfl, HA, HJ1, HO_3, HB⟩ := hcut
        cases kq with
        | zero => exact absurd HA.out (by simp [lockgatelaw17_small.j1])
        | succ kj1 =>
          have H := HA.out
          clear HA
          simp only [lockgatelaw17_small.j1] at H
          by_cases c4 : x13_1 = true
          · subst c4
            have H1 : (if 0 ≤ x4_1 then (if x4_1 < (l0.length : Int) then (if ((rdOf ByteArray.empty l0 x4_1).size : Int) > 40 then (if 0 ≤ 40 then (if 40 ≤ ((rdOf ByteArray.empty l0 x4_1).size : Int) then (if x3_1.length < 8796093022208 then (lockgatelaw17_small.l0 kj1 l0 (x3_1 ++ [(rdOf ByteArray.empty l0 x4_1).extract 0 40]) (wrap64 (x4_1 + 1))) else (none)) else (none)) else (none)) else (if x3_1.length < 8796093022208 then (lockgatelaw17_small.l0 kj1 l0 (x3_1 ++ [rdOf ByteArray.empty l0 x4_1]) (wrap64 (x4_1 + 1))) else (none))) else (none)) else (none)) = some r := by rw [if_pos rfl] at H; exact H
            clear H
            have H := H1
            clear H1
            by_cases c5 : 0 ≤ x4_1
            · rw [if_pos c5] at H
              have c5b0 : decide (0 ≤ x4_1) = true := decide_eq_true c5
              clear c5
              by_cases c6 : x4_1 < (l0.length : Int)
              · rw [if_pos c6] at H
                have c6b0 : decide (x4_1 < (l0.length : Int)) = true := decide_eq_true c6
                clear c6
                by_cases c7 : ((rdOf ByteArray.empty l0 x4_1).size : Int) > 40
                · rw [if_pos c7] at H
                  have c7b0 : decide (40 < ((rdOf ByteArray.empty l0 x4_1).size : Int)) = true := decide_eq_true c7
                  have c7b1 : decide (40 < (rdOf ByteArray.empty l0 x4_1).size) = true := decide_eq_true (by omega)
                  clear c7
                  by_cases c8 : 0 ≤ 40
                  · rw [if_pos c8] at H
                    have c8b0 := eq_true c8
                    have c8b1 : decide (0 ≤ 40) = true := decide_eq_true c8
                    clear c8
                    by_cases c9 : 40 ≤ ((rdOf ByteArray.empty l0 x4_1).size : Int)
                    · rw [if_pos c9] at H
                      have c9b0 := eq_true c9
                      have c9b1 : decide (40 ≤ ((rdOf ByteArray.empty l0 x4_1).size : Int)) = true := decide_eq_true c9
                      clear c9
                      by_cases c10 : x3_1.length < 8796093022208
                      · rw [if_pos c10] at H
                        have LMc10 := Aside0.mk c10
                        clear c10
                        obtain ⟨y179, hy179⟩ : ∃ y_ : List ByteArray, y_ = (x3_1 ++ [(rdOf ByteArray.empty l0 x4_1).extract 0 40]) := ⟨_, rfl⟩
                        replace H : (lockgatelaw17_small.l0 kj1 l0 y179 (wrap64 (x4_1 + 1))) = some r := by first | (rw [hy179]; with_reducible exact H) | (have H2_ := (Option.bind_some _ _).symm.trans H; rw [hy179]; with_reducible exact H2_) | (have H2_ := (Option.bind_some _ _).symm.trans H; with_reducible exact H2_) | with_reducible exact H | (rw [hy179]; exact H) | exact H
                        have Ny179 := Aside0.mk hy179
                        clear hy179
                        have H' := Aside0.mk H
                        clear H
                        have p178 : 0 ≤ (x4_1 : Int) := of_decide_eq_true (by first | (with_reducible assumption) | assumption)
                        have q178 : x4_1 < (l0.length : Int) := of_decide_eq_true (by first | (with_reducible assumption) | assumption)
                        obtain ⟨ad178, e178, hx178_0⟩ := Kd.at_string HR0.out x4_1 p178 q178
                        cases e178
                        replace hx178_0 := (HB.out.cell (World.block_lt_of_cell? w _ hx178_0)).trans hx178_0
                        replace p178 := eq_true p178
                        replace q178 := eq_true q178
                        go_wp2_with (first | ((with_reducible refine gate_builtin (b := .append) (xs := #[.tmp 25, .tmp 27]) rfl ?_); at_builtin; refine Kd.R_append Kd.string (w0 := w) w.heap.size rfl (.tmp 25) (.tmp 27) 24 9 (.string ⟨#[]⟩) 16 rfl Try.underlying24 info9 rfl (by decide) (by omega) u3 x3_1 ((rdOf ByteArray.empty l0 x4_1).extract 0 40) [.string ((rdOf ByteArray.empty l0 x4_1).extract 0 40)] (fun _ => True) (fun _ => False) rfl rfl ?aP (fun _ hk => hk.elim) ?aF ?aO ?aB ?aS ?aL ?_; (case aP => exact rfl); (case aB => exact (by repeat (first | (with_reducible first | exact HB.out | apply below_alloc | apply pw_below_drewN | apply below_drew1) | exact HB.out))); (case aF => exact (fun _ _ => trivial)); (case aO => exact (by (with_reducible repeat (first | apply Kd.R_alloc | apply Kd.R_drewN | apply Kd.R_drew)); exact HO_3.out)); (case aS => exact (below_size (by repeat (first | (with_reducible first | exact HB.out | apply below_alloc | apply pw_below_drewN | apply below_drew1) | exact HB.out)))); (case aL => have := LMc10.out; omega); intro v180 w11 ho hb hg hat; rw [← Ny179.out] at ho; have n0_ := Aside0.mk (hb); have n1_ := Aside0.mk (ho); clear HB; clear HO_3; have HB := n0_; have HO181 := n1_; clear n0_ n1_; clear ho hb hg hat))
                        go_roundg kj1
                        case measure => have := HK1.out; have := HJ1.out; omega
                        case rel => exact ⟨(y179), (wrap64 (x4_1 + 1)), (by first | rfl | (simp; done) | (simp [*]; done)), H', ⟨by have := HK1.out; have := HJ1.out; omega⟩, ⟨by (with_reducible repeat (first | apply Kd.R_alloc | apply Kd.R_drewN | apply Kd.R_drew)); exact HO181.out⟩, ⟨by repeat (first | (with_reducible first | exact HB.out | apply below_alloc | apply pw_below_drewN | apply below_drew1) | exact HB.out)⟩⟩
                      · rw [if_neg c10] at H
                        exact absurd H (by simp)
                    · rw [if_neg c9] at H
                      exact absurd H (by simp)
                  · rw [if_neg c8] at H
                    exact absurd H (by simp)
                · rw [if_neg c7] at H
                  have c7b0 : decide (40 < ((rdOf ByteArray.empty l0 x4_1).size : Int)) = false := decide_eq_false c7
                  have c7b1 : decide (40 < (rdOf ByteArray.empty l0 x4_1).size) = false := decide_eq_false (by omega)
                  clear c7
                  by_cases c12 : x3_1.length < 8796093022208
                  · rw [if_pos c12] at H
                    have LMc12 := Aside0.mk c12
                    clear c12
                    obtain ⟨y182, hy182⟩ : ∃ y_ : List ByteArray, y_ = (x3_1 ++ [rdOf ByteArray.empty l0 x4_1]) := ⟨_, rfl⟩
                    replace H : (lockgatelaw17_small.l0 kj1 l0 y182 (wrap64 (x4_1 + 1))) = some r := by first | (rw [hy182]; with_reducible exact H) | (have H2_ := (Option.bind_some _ _).symm.trans H; rw [hy182]; with_reducible exact H2_) | (have H2_ := (Option.bind_some _ _).symm.trans H; with_reducible exact H2_) | with_reducible exact H | (rw [hy182]; exact H) | exact H
                    have Ny182 := Aside0.mk hy182
                    clear hy182
                    have H' := Aside0.mk H
                    clear H
                    have p178 : 0 ≤ (x4_1 : Int) := of_decide_eq_true (by first | (with_reducible assumption) | assumption)
                    have q178 : x4_1 < (l0.length : Int) := of_decide_eq_true (by first | (with_reducible assumption) | assumption)
                    obtain ⟨ad178, e178, hx178_0⟩ := Kd.at_string HR0.out x4_1 p178 q178
                    cases e178
                    replace hx178_0 := (HB.out.cell (World.block_lt_of_cell? w _ hx178_0)).trans hx178_0
                    replace p178 := eq_true p178
                    replace q178 := eq_true q178
                    go_wp2_with (first | ((with_reducible refine gate_builtin (b := .append) (xs := #[.tmp 25, .tmp 27]) rfl ?_); at_builtin; refine Kd.R_append Kd.string (w0 := w) w.heap.size rfl (.tmp 25) (.tmp 27) 24 9 (.string ⟨#[]⟩) 16 rfl Try.underlying24 info9 rfl (by decide) (by omega) u3 x3_1 (rdOf ByteArray.empty l0 x4_1) [.string (rdOf ByteArray.empty l0 x4_1)] (fun _ => True) (fun _ => False) rfl rfl ?aP (fun _ hk => hk.elim) ?aF ?aO ?aB ?aS ?aL ?_; (case aP => exact rfl); (case aB => exact (by repeat (first | (with_reducible first | exact HB.out | apply below_alloc | apply pw_below_drewN | apply below_drew1) | exact HB.out))); (case aF => exact (fun _ _ => trivial)); (case aO => exact (by (with_reducible repeat (first | apply Kd.R_alloc | apply Kd.R_drewN | apply Kd.R_drew)); exact HO_3.out)); (case aS => exact (below_size (by repeat (first | (with_reducible first | exact HB.out | apply below_alloc | apply pw_below_drewN | apply below_drew1) | exact HB.out)))); (case aL => have := LMc12.out; omega); intro v183 w13 ho hb hg hat; rw [← Ny182.out] at ho; have n0_ := Aside0.mk (hb); have n1_ := Aside0.mk (ho); clear HB; clear HO_3; have HB := n0_; have HO184 := n1_; clear n0_ n1_; clear ho hb hg hat))
                    go_roundg kj1
                    case measure => have := HK1.out; have := HJ1.out; omega
                    case rel => exact ⟨(y182), (wrap64 (x4_1 + 1)), (by first | rfl | (simp; done) | (simp [*]; done)), H', ⟨by have := HK1.out; have := HJ1.out; omega⟩, ⟨by (with_reducible repeat (first | apply Kd.R_alloc | apply Kd.R_drewN | apply Kd.R_drew)); exact HO184.out⟩, ⟨by repeat (first | (with_reducible first | exact HB.out | apply below_alloc | apply pw_below_drewN | apply below_drew1) | exact HB.out)⟩⟩
                  · rw [if_neg c12] at H
                    exact absurd H (by simp)
              · rw [if_neg c6] at H
                exact absurd H (by simp)
            · rw [if_neg c5] at H
              exact absurd H (by simp)
          · replace c4 := Bool.eq_false_iff.mpr c4
            subst c4
            have H1 : (some x3_1) = some r := by rw [if_neg (show ¬ (false = true) by decide)] at H; exact H
            clear H
            have H := H1
            clear H1
            obtain rfl := Option.some.inj H
            go_wp2
            go_ret
            exact ⟨_, by first | rfl | (simp [errW_none, errW_some] <;> rfl) | (simp [*, errW_none, errW_some] <;> rfl), by (with_reducible repeat (first | apply Kd.R_alloc | apply Kd.R_drewN | apply Kd.R_drew)); exact HO_3.out, by repeat (first | (with_reducible first | exact HB.out | apply below_alloc | apply pw_below_drewN | apply below_drew1) | exact HB.out)⟩

/-! ### slices_Clone_string_string: function 39: by hand -/
def slices_Clone_string_string.f (l0 : List ByteArray) : Option (List ByteArray) := if l0.length < 8796093022208 then some l0 else none
set_option maxHeartbeats 4000000 in
theorem slices_Clone_string_string.calls (A0 : Option Addr) (c0 : Nat) (l0 : List ByteArray) (r : List ByteArray) (w : World) (hr0 : Kd.C Kd.string w A0 l0.length l0) (hc0 : l0.length ≤ c0) (h : slices_Clone_string_string.f l0 = some r) :
    Calls Try.prog 39 #[.slice A0 l0.length c0] w fun e w' => ∃ v0_ : Value, e = .returned (v0_) ∧ Kd.R Kd.string 9 w' w.heap.size (fun _ => True) v0_ r ∧ Below w.heap.size w w' := by
  unfold slices_Clone_string_string.f at h
  by_cases c1 : l0.length < 8796093022208
  · rw [if_pos c1] at h
    injection h with h
    subst h
    have HR0 := Aside0.mk hr0
    clear hr0
    have q_ : ∀ (w : World) (a : Option Addr) (n c n' c' : Nat), (binOp .eql 24 (.slice a n c) (.slice none n' c')).run Try.prog w = .ok (.bool a.isNone) w := fun w a n c n' c' => Lib.run_eql_slice_nil w _ _ a n c n' c' Try.underlying24
    cases A0 with
    | none =>
      go_enter Try.func39, Try.ntmps39
      go_wp2
      go_ret
      have hn : l0 = [] := by
        rcases Nat.eq_zero_or_pos l0.length with h0 | h0
        · exact List.eq_nil_of_length_eq_zero h0
        · obtain ⟨ad, h, _⟩ := HR0.out.2.2 h0
          cases h
      subst hn
      exact ⟨_, rfl, Kd.R_nil _ _ _ _ _, Below.refl _ _⟩
    | some ad =>
      go_enter Try.func39, Try.ntmps39
      go_wp2_with (first | ((with_reducible refine gate_builtin (b := .append) (xs := #[.tmp 5, .tmp 6]) rfl ?_); (try (refine gate_guard (by rfl) ?_; dsimp only)); at_builtin; refine Kd.R_append_rows Kd.string (w0 := w) w.heap.size rfl (.tmp 5) (.tmp 6) 24 9 (.string ⟨#[]⟩) 16 rfl Try.underlying24 info9 rfl (by decide) (by omega) (.slice (some ⟨w.heap.size, 0, none⟩) 0 0) ([] : List ByteArray) l0 _ _ _ (fun _ => True) (fun k => some k ≠ some w.heap.size) rfl rfl ?aO ?aR (fun _ _ h => h) (fun _ h => ⟨trivial, h⟩) (fun _ _ => trivial) ?aB ?aS ?aL ?_))
      case aO => exact ⟨fun _ _ => trivial, [], World.ownsRow_made w #[] 0 (Nat.le_refl _) (Nat.zero_le _) (by simp), Reps.none _ _⟩
      case aR => exact Kd.C_alloc HR0.out _
      case aB => exact below_alloc (Below.refl _ _) _
      case aS => exact below_size (below_alloc (Below.refl _ _) _)
      case aL => simp; omega
      intro v1 w1 ho hb hg hat
      have HO := Aside0.mk ho
      have HB := Aside0.mk hb
      clear ho hb hg hat
      go_wp2
      go_ret
      exact ⟨_, rfl, HO.out, HB.out⟩
  · rw [if_neg c1] at h
    cases h

/-! ### bitmap_Set: function 41: by hand -/
/-- The byte that Set stores: the bit is cleared, then set where it is taken. -/
def bitmap_Set.byte (b i : Int) (t : Bool) : Int :=
  if t = true then Go.bits .or .u8 (Go.bits .andNot .u8 b (2 ^ (i % 8).toNat % 256)) (2 ^ (i % 8).toNat % 256) else Go.bits .andNot .u8 b (2 ^ (i % 8).toNat % 256)
def bitmap_Set.f (a0 : ByteArray) (a1 : Int) (a2 : Bool) : Option ByteArray :=
  if a0.size ≤ 140737488355328 then
    if a1 < 0 then some a0 else if 8 * (a0.size : Int) ≤ a1 then some a0
    else some (strOfNums ((bytesOf a0).set (a1 / 8).toNat (bitmap_Set.byte (bt a0 (a1 / 8)) a1 a2)))
  else none
theorem bitmap_Set.reads_set {w : World} {n : Nat} {B : Nat} {xs : List Int} (h : ReadsInt w .u8 (some ⟨B, 0, none⟩) n xs) (k : Nat) (hk : k < n) (v : Int)
    (hb : ∀ j, j < n → ((w.setCell ⟨B, k, none⟩ (.int .u8 v)).cell? ⟨B, j, none⟩) = if j = k then some (.int .u8 v) else w.cell? ⟨B, j, none⟩) :
    ReadsInt (w.setCell ⟨B, k, none⟩ (.int .u8 v)) .u8 (some ⟨B, 0, none⟩) n (xs.set k v) := by
  refine ⟨by rw [List.length_set]; exact h.1, h.2.1, fun h0 => ⟨_, rfl, fun j hj => ?_⟩⟩
  obtain ⟨ad, e, hc⟩ := h.2.2 h0
  injection e with e
  subst e
  have hc' := hc j hj
  rw [add_plain] at hc' ⊢
  rw [hb j hj]
  have hl := h.1
  by_cases e : j = k
  · subst e
    rw [if_pos rfl, List.getD_eq_getElem?_getD, List.getElem?_set_self (by omega)]; rfl
  · rw [if_neg e, List.getD_eq_getElem?_getD, List.getElem?_set_ne (fun h => e h.symm), ← List.getD_eq_getElem?_getD]
    exact hc'
theorem bitmap_Set.cell_set {w : World} {B k : Nat} {u v : Value} (h : w.cell? ⟨B, k, none⟩ = some u) (j : Nat) :
    (w.setCell ⟨B, k, none⟩ v).cell? ⟨B, j, none⟩ = if j = k then some v else w.cell? ⟨B, j, none⟩ := by
  have hlt := World.block_lt_of_cell? w _ h
  simp only [World.cell?, World.setCell, Array.getElem?_modify, if_true] at h ⊢
  cases hg : w.heap[B]? with
  | none => simp [hg] at h
  | some o =>
    cases o <;> simp [hg] at h ⊢
    rename_i c e fz
    have h1 := (Array.getElem?_eq_some_iff.1 h).1
    by_cases e : j = k
    · subst e; simp [h1]
    · simp [e, Array.getElem?_setIfInBounds_ne (fun h => e h.symm)]
set_option maxHeartbeats 400000 in
theorem bitmap_Set.none_ (s : ByteArray) (i : Int) (t : Bool) (w : World) (hs : s.size ≤ 140737488355328) (h : i < 0 ∨ 8 * (s.size : Int) ≤ i) :
    Calls Try.prog 41 #[.string s, .int .i64 i, .bool t] w fun e w' => e = .returned (.string s) ∧ w' = w := by
  rcases h with h | h
  · have hb : decide (i < 0) = true := decide_eq_true h
    go_enter Try.func41, Try.ntmps41
    go_wp2
    go_ret
    exact ⟨rfl, rfl⟩
  · have hb : decide (i < 0) = false := decide_eq_false (by omega)
    have hb2 : decide (8 * (s.size : Int) ≤ i) = true := decide_eq_true h
    go_enter Try.func41, Try.ntmps41
    go_wp2
    go_ret
    exact ⟨rfl, rfl⟩
set_option maxHeartbeats 400000 in
theorem bitmap_Set.main_ (s : ByteArray) (i : Int) (t : Bool) (w : World) (hs : s.size ≤ 140737488355328) (h0 : 0 ≤ i) (h : i < 8 * (s.size : Int)) :
    Calls Try.prog 41 #[.string s, .int .i64 i, .bool t] w fun e w' => e = .returned (.string (strOfNums ((bytesOf s).set (i / 8).toNat (bitmap_Set.byte (bt s (i / 8)) i t)))) ∧ Below w.heap.size w w' := by
  have hb : decide (i < 0) = false := decide_eq_false (by omega)
  have hb2 : decide (8 * (s.size : Int) ≤ i) = false := decide_eq_false (by omega)
  have hcv := fun (W : World) => Lib.run_convert_string_bytes (P := Try.prog) W 9 71 5 s Try.underlying9 Try.underlying71 Try.underlying5
  have hk0 : 0 ≤ i / 8 := by omega
  have hk1 : i / 8 < (s.size : Int) := by omega
  have hm0 : 0 ≤ i % 8 := by omega
  have hm1 : i % 8 < 8 := by omega
  have hkn : (i / 8).toNat < s.size := by omega
  have hbt : bt s (i / 8) = ((s.data[(i / 8).toNat]'hkn).toNat : Int) := by unfold bt; rw [dif_pos hkn]; rfl
  have hc := Lib.bytesWorld_cell w 5 s (i / 8).toNat hkn
  have hf : (Lib.bytesWorld w 5 s).frozen? ⟨w.heap.size, (i / 8).toNat, none⟩ = false := by
    simp [World.frozen?, Lib.bytesWorld_at_new, Lib.bytesCells]; omega
  have hr0 := Aside0.mk (bytes_reads w 5 s (by omega))
  have hbt' := Aside0.mk hbt
  clear hbt
  have hB0 := Aside0.mk (bytes_below (Below.refl w.heap.size w) (Nat.le_refl _) 5 s)
  generalize hv : Go.bits .andNot .u8 ((s.data[(i / 8).toNat]'hkn).toNat : Int) (2 ^ (i % 8).toNat % 256) = v
  generalize hv2 : Go.bits .or .u8 v (2 ^ (i % 8).toNat % 256) = v2
  have hr1 := Aside0.mk (bitmap_Set.reads_set hr0.out (i / 8).toNat hkn v (fun j _ => bitmap_Set.cell_set hc j))
  have hc1 := (bitmap_Set.cell_set (v := .int .u8 v) hc (i / 8).toNat).trans (if_pos rfl)
  cases t with
  | false =>
    have hcb : (convert 71 9 (.slice (some ⟨w.heap.size, 0, none⟩) s.size (grownCap w s.size 0 5))).run Try.prog (((Lib.bytesWorld w 5 s).setCell ⟨w.heap.size, (i / 8).toNat, none⟩ (.int .u8 v)).drew) = .ok (.string (strOfNums ((bytesOf s).set (i / 8).toNat v))) (((Lib.bytesWorld w 5 s).setCell ⟨w.heap.size, (i / 8).toNat, none⟩ (.int .u8 v)).drew) :=
      string_of_reads Try.underlying71 Try.underlying5 Try.underlying9 hr1.out
    have hcb' := Aside0.mk hcb
    clear hcb
    have hv' := Aside0.mk hv
    have hv2' := Aside0.mk hv2
    clear hv hv2
    go_enter Try.func41, Try.ntmps41
    go_wp2
    go_region
    have hv := hv'.out
    have hcb := hcb'.out
    simp only [hv]
    go_wp2
    go_ret
    refine ⟨?_, ?_⟩
    · simp only [bitmap_Set.byte, hbt'.out, hv]; rfl
    · exact (Below.setCell hB0.out (p := ⟨w.heap.size, (i / 8).toNat, none⟩) (Nat.le_refl _) _).drew
  | true =>
    have hr2 := Aside0.mk (bitmap_Set.reads_set hr1.out (i / 8).toNat hkn v2 (fun j _ => bitmap_Set.cell_set hc1 j))
    have hcb : (convert 71 9 (.slice (some ⟨w.heap.size, 0, none⟩) s.size (grownCap w s.size 0 5))).run Try.prog ((((Lib.bytesWorld w 5 s).setCell ⟨w.heap.size, (i / 8).toNat, none⟩ (.int .u8 v)).setCell ⟨w.heap.size, (i / 8).toNat, none⟩ (.int .u8 v2)).drew.drew) = .ok (.string (strOfNums (((bytesOf s).set (i / 8).toNat v).set (i / 8).toNat v2))) ((((Lib.bytesWorld w 5 s).setCell ⟨w.heap.size, (i / 8).toNat, none⟩ (.int .u8 v)).setCell ⟨w.heap.size, (i / 8).toNat, none⟩ (.int .u8 v2)).drew.drew) :=
      string_of_reads Try.underlying71 Try.underlying5 Try.underlying9 hr2.out
    have hcb' := Aside0.mk hcb
    clear hcb
    have hv' := Aside0.mk hv
    have hv2' := Aside0.mk hv2
    clear hv hv2
    go_enter Try.func41, Try.ntmps41
    go_wp2
    go_region
    have hv := hv'.out
    have hv2 := hv2'.out
    have hcb := hcb'.out
    simp only [hv]
    clear hv2
    go_wp2
    go_region
    have hv2 := hv2'.out
    simp only [hv, hv2]
    go_wp2
    go_ret
    refine ⟨?_, ?_⟩
    · simp only [bitmap_Set.byte, hbt'.out, hv, hv2, List.set_set]; rfl
    · exact (Below.setCell (Below.setCell hB0.out (p := ⟨w.heap.size, (i / 8).toNat, none⟩) (Nat.le_refl _) _) (p := ⟨w.heap.size, (i / 8).toNat, none⟩) (Nat.le_refl _) _).drew.drew
theorem bitmap_Set.calls (a0 : ByteArray) (a1 : Int) (a2 : Bool) (r : ByteArray) (w : World) (h : bitmap_Set.f a0 a1 a2 = some r) :
    Calls Try.prog 41 #[.string a0, .int .i64 a1, .bool a2] w fun e w' => e = .returned (.string r) ∧ Below w.heap.size w w' := by
  unfold bitmap_Set.f at h
  by_cases h1 : a0.size ≤ 140737488355328
  · rw [if_pos h1] at h
    by_cases h2 : a1 < 0
    · rw [if_pos h2] at h
      injection h with h; subst h
      exact (bitmap_Set.none_ a0 a1 a2 w h1 (.inl h2)).mono fun e w' ⟨he, hw⟩ => ⟨he, hw ▸ Below.refl _ _⟩
    · rw [if_neg h2] at h
      by_cases h3 : 8 * (a0.size : Int) ≤ a1
      · rw [if_pos h3] at h
        injection h with h; subst h
        exact (bitmap_Set.none_ a0 a1 a2 w h1 (.inr h3)).mono fun e w' ⟨he, hw⟩ => ⟨he, hw ▸ Below.refl _ _⟩
      · rw [if_neg h3] at h
        injection h with h; subst h
        exact bitmap_Set.main_ a0 a1 a2 w h1 (by omega) (by omega)
  · rw [if_neg h1] at h; cases h


end Go.Proofs.Ytehnbbabjnibkaa.Q
