-- Written by mp.py (a program of this repo, over the print) for this seat: functions, contracts, walks.
import Derived.Test.YtgmbmkjdfmoanaaDoorQx0
namespace Go.Proofs.YtgmbmkjdfmoanaaDoor.Q
open Go.RowKit Go.Proofs.YtgmbmkjdfmoanaaDoorW.PrintWords Go.Proofs.YtgmbmkjdfmoanaaDoorW.PrintLast Go.Proofs.YtgmbmkjdfmoanaaDoorW.PrintMore
attribute [local go_sem] max2_int min2_int max_two min_two max_three min_three max_four min_four   -- for this text's walks alone
set_option linter.unusedVariables false
set_option linter.unusedSimpArgs false

/-! ### entry_place: function 49: by hand -/
def entry_place.at {α : Type} (p : α → Bool) (i : Int) : List α → Int
  | [] => -1
  | x :: t => if p x = true then i else entry_place.at p (i + 1) t
theorem entry_place.at_lt {α : Type} (p : α → Bool) : ∀ (j : Int) (l : List α), 0 ≤ j → ¬ entry_place.at p j l < 0 → ∃ i : Nat, entry_place.at p j l = j + i ∧ i < l.length
  | j, [], _, h => absurd (by decide : (-1 : Int) < 0) h
  | j, x :: t, hj, h => by
    unfold entry_place.at at h ⊢
    by_cases c : p x = true
    · exact ⟨0, by rw [if_pos c]; simp, by simp⟩
    · rw [if_neg c] at h ⊢
      obtain ⟨i, h1, h2⟩ := entry_place.at_lt p (j + 1) t (by omega) h
      exact ⟨i + 1, by rw [h1]; omega, by simp; omega⟩
set_option maxHeartbeats 4000000 in
theorem entry_place.search_ (p : S43 → Bool) (g1 : Nat) (A : Option Addr) (c : Nat) (l : List S43) (w : World) (hr : Kd.C k43 w A l.length l) (hc : l.length ≤ c)
    (hp : ∀ (x : S43) (w1 : World), Below w.heap.size w w1 → Calls Tryd.prog 65 #[.agg #[.string x.f0, .int .i64 x.f1], .pointer (some ⟨g1, 0, none⟩)] w1 fun e w' => e = .returned (.bool (p x)) ∧ Below w1.heap.size w1 w') :
    Calls Tryd.prog 66 #[.slice A l.length c, .func (.func 65) #[] #[.pointer (some ⟨g1, 0, none⟩)]] w fun e w' => e = .returned (.int .i64 (entry_place.at p 0 l)) ∧ Below w.heap.size w w' := by
  have HR := Aside0.mk hr
  have HP := Aside0.mk hp
  clear hr hp
  go_enter Tryd.func66, Tryd.ntmps66
  go_wp2
  go_loopw [8] (fun v8 wr => ∃ i : Nat, i ≤ l.length ∧ v8 = .int .i64 i ∧ Below w.heap.size w wr ∧ entry_place.at p (i : Int) (l.drop i) = entry_place.at p 0 l) (fun v8 _ => l.length - (intOf v8).toNat)
  case atStart => exact ⟨0, Nat.zero_le _, rfl, Below.refl _ _, rfl⟩
  case round =>
    obtain ⟨i, hi, rfl, hB, hall⟩ := hrel
    have HB := Aside0.mk hB
    have HA := Aside0.mk hall
    have HR1 := Aside0.mk (Kd.C_below HR.out hB)
    clear hB hall
    by_cases hlt : i < l.length
    · have c0 : (i : Int) < (l.length : Int) := by omega
      have p0 : (0 : Int) ≤ (i : Int) := by omega
      have ha := HA.out
      rw [List.drop_eq_getElem_cons hlt] at ha
      have hg : l[i] = rd_T43 l (i : Int) := by
        unfold rd_T43
        rw [Int.toNat_natCast, List.getD_eq_getElem?_getD, List.getElem?_eq_getElem hlt]; rfl
      rw [hg] at ha
      rw [show ∀ (i : Int) x t, entry_place.at p i (x :: t) = if p x = true then i else entry_place.at p (i + 1) t from fun _ _ _ => rfl] at ha
      have HA1 := Aside0.mk ha
      clear ha hg
      obtain ⟨ad, e_, hx0, hx1⟩ := at_T43 HR1.out (i : Int) p0 c0
      subst e_
      simp only [Int.toNat_natCast] at hx0 hx1
      have c1 : decide ((i : Int) < (l.length : Int)) = true := decide_eq_true c0
      have hlen : (l.length : Int) ≤ 9223372036854775807 := by have := Kd.C_max HR1.out; omega
      have p1 := eq_true p0
      have q1 := eq_true c0
      have HC := Aside0.mk (HP.out (rd_T43 l (i : Int)) _ HB.out)
      generalize rd_T43 l (i : Int) = x at HA1 HC hx0 hx1
      go_wp2_with fail
      refine HC.out.mono ?_
      rintro e w1 ⟨rfl, hb⟩
      have HB2 := Aside0.mk (below_step HB.out hb)
      clear hb HC
      cases hpx : p x with
      | false =>
        have hn := HA1.out
        rw [hpx, if_neg (by decide)] at hn
        clear hpx HA1
        go_wp2
        go_roundw
        case rel => exact ⟨i + 1, by omega, by go_num, HB2.out, by rw [← hn]; rfl⟩
        case measure => simp [intOf]; omega
      | true =>
        have hn := HA1.out
        rw [hpx, if_pos rfl] at hn
        clear hpx HA1
        go_wp2
        go_ret
        exact ⟨by rw [← hn]; rfl, HB2.out⟩
    · obtain rfl : i = l.length := by omega
      have c1 : decide ((l.length : Int) < (l.length : Int)) = false := decide_eq_false (by omega)
      have hn := HA.out
      rw [List.drop_length] at hn
      rw [show ∀ i : Int, entry_place.at p i [] = -1 from fun _ => rfl] at hn
      go_wp2
      go_ret
      exact ⟨by rw [← hn]; rfl, HB.out⟩
set_option maxHeartbeats 4000000 in
theorem entry_place.find_ (p : S43 → Bool) (g1 : Nat) (A : Option Addr) (c : Nat) (l : List S43) (w : World) (hr : Kd.C k43 w A l.length l) (hc : l.length ≤ c)
    (hp : ∀ (x : S43) (w1 : World), Below w.heap.size w w1 → Calls Tryd.prog 65 #[.agg #[.string x.f0, .int .i64 x.f1], .pointer (some ⟨g1, 0, none⟩)] w1 fun e w' => e = .returned (.bool (p x)) ∧ Below w1.heap.size w1 w') :
    Calls Tryd.prog 51 #[.slice A l.length c, .func (.func 65) #[] #[.pointer (some ⟨g1, 0, none⟩)]] w fun e w' => e = .returned (.int .i64 (entry_place.at p 0 l)) ∧ Below w.heap.size w w' := by
  have H := Aside0.mk (entry_place.search_ p g1 A c l w hr hc hp)
  clear hr hp
  go_enter Tryd.func51, Tryd.ntmps51
  go_wp2_with fail
  refine H.out.mono ?_
  rintro e w1 ⟨rfl, hB⟩
  have HB := Aside0.mk hB
  clear hB H
  go_wp2
  go_ret
  exact ⟨rfl, HB.out⟩
def entry_place.is (s : ByteArray) (x : S43) : Bool := x.f0.toList == s.toList
def entry_place.f (l0 : List S43) (a1 : ByteArray) : Option Int := some (entry_place.at (entry_place.is a1) 0 l0)
set_option maxHeartbeats 4000000 in
theorem entry_place.clos (s : ByteArray) (g : Nat) (x : S43) (w : World) (hb : w.heap[g]? = some (.cells #[.string s] 9 (0, 0))) :
    Calls Tryd.prog 65 #[.agg #[.string x.f0, .int .i64 x.f1], .pointer (some ⟨g, 0, none⟩)] w fun e w' => e = .returned (.bool (entry_place.is s x)) ∧ Below w.heap.size w w' := by
  have hu_ := Tryd.underlying43
  have HG := Aside0.mk hb
  clear hb
  go_enter Tryd.func65, Tryd.ntmps65
  go_wp2_with (first | ((with_reducible refine gate_dst (N := 2) rfl ?_); (try (refine gate_guard (by rfl) ?_; dsimp only)); refine box_event ?hg (N := 2) ?hd (cs := #[.string x.f0, .int .i64 x.f1]) (t := 43) ?hr ?_; (case hd => rfl); (case hg => rfl); (case hr => first | (go_simp; done) | (go_simp; rfl)); intro gb hg w7 hbox hb; have n0_ := Aside0.mk (blk_below HG.out hb); have HB := Aside0.mk hb; have BK := Aside0.mk hbox; clear HG; have HG := n0_; clear n0_ hb hbox hg; have hcz0 : w7.cell? ⟨gb, 0, none⟩ = some (.string x.f0) := (blk_cell BK.out 0).trans rfl; have hcz1 : w7.cell? ⟨gb, 1, none⟩ = some (.int .i64 x.f1) := (blk_cell BK.out 1).trans rfl; have hcg : w7.cell? ⟨g, 0, none⟩ = some (.string s) := (blk_cell HG.out 0).trans rfl; have hfz0 := blk_frozen BK.out 0; have hfz1 := blk_frozen BK.out 1))
  go_ret
  exact ⟨by unfold entry_place.is; first | rfl | (simp; done), HB.out⟩
set_option maxHeartbeats 4000000 in
theorem entry_place.calls (A0 : Option Addr) (c0 : Nat) (l0 : List S43) (a1 : ByteArray) (r : Int) (w : World) (hr0 : Kd.C k43 w A0 l0.length l0) (hc0 : l0.length ≤ c0) (h : entry_place.f l0 a1 = some r) :
    Calls Tryd.prog 49 #[.slice A0 l0.length c0, .string a1] w fun e w' => e = .returned (.int .i64 r) ∧ Below w.heap.size w w' := by
  have HR := Aside0.mk hr0
  clear hr0
  unfold entry_place.f at h
  injection h with h
  subst h
  go_enter Tryd.func49, Tryd.ntmps49
  go_wp2_with fail
  refine (entry_place.find_ (entry_place.is a1) w.heap.size A0 c0 l0 _ (Kd.C_alloc HR.out _) hc0 (fun x w1 hb => entry_place.clos a1 w.heap.size x w1 (blk_below (heap_alloc_new w _) hb))).mono ?_
  rintro e w1 ⟨rfl, hB⟩
  have HB := Aside0.mk (below_step (below_alloc (Below.refl _ w) _) hB)
  clear hB
  go_wp2
  go_ret
  exact ⟨rfl, HB.out⟩

/-! ### entry_Find: function 27 -/
def entry_Find.f (l0 : List (S43)) (a1 : ByteArray) : Option (Int × Bool) := (entry_place.f l0 a1).bind fun t334 => (if t334 < 0 then (some (0, false)) else (if 0 ≤ t334 then (if t334 < (l0.length : Int) then (some ((rd_T43 l0 t334).f1, true)) else (none)) else (none)))
set_option maxHeartbeats 8000000 in
set_option maxRecDepth 100000 in
theorem entry_Find.calls (A0 : Option Addr) (c0 : Nat) (l0 : List (S43)) (a1 : ByteArray) (r1 : Int) (r2 : Bool) (w : World) (hr0 : Kd.C k43 w A0 l0.length l0) (hc0 : l0.length ≤ c0) (h : entry_Find.f l0 a1 = some (r1, r2)) :
    Calls Tryd.prog 27 #[.slice A0 l0.length c0, .string a1] w fun e w' => e = .returned (.tuple #[.int .i64 r1, .bool r2]) ∧ Below w.heap.size w w' := by
  have HR0 := Aside0.mk hr0
  have HC0 := Aside0.mk hc0
  clear hr0 hc0
  have HB := Aside0.mk (Below.refl w.heap.size w)
  have H : ((entry_place.f l0 a1).bind fun t334 => (if t334 < 0 then (some (0, false)) else (if 0 ≤ t334 then (if t334 < (l0.length : Int) then (some ((rd_T43 l0 t334).f1, true)) else (none)) else (none)))) = some (r1, r2) := h
  clear h
  replace H := Option.bind_eq_some_iff.mp H
  obtain ⟨t334, A30, H⟩ := H
  replace H : (if t334 < 0 then (some (0, false)) else (if 0 ≤ t334 then (if t334 < (l0.length : Int) then (some ((rd_T43 l0 t334).f1, true)) else (none)) else (none))) = some (r1, r2) := H
  have A3 := Aside0.mk A30
  clear A30
  by_cases c4 : t334 < 0
  · rw [if_pos c4] at H
    have c4b0 : decide (t334 < 0) = true := decide_eq_true c4
    clear c4
    simp only [Option.some.injEq, Prod.mk.injEq] at H
    obtain ⟨rfl, rfl⟩ := H
    go_enter Tryd.func27, Tryd.ntmps27
    go_wp2_with (first | ((with_reducible refine gate_callee (f := 49) rfl ?_); refine goesL_ (some 9) rfl rfl Tryd.func49 (by kernel_rfl) rfl #[.slice A0 l0.length c0, .string a1] rfl (by (try simp only [List.map_toArray, List.map_cons, List.map_nil]); first | done | rfl | (simp only [List.length_drop, List.length_take]; rfl)) ?_; (with_reducible refine (entry_place.calls _ _ l0 a1 t334 _ ?side1 ?side2 A3.out).mono ?_); (case side1 => repeat (first | exact HR0.out | (with_reducible refine Kd.C_alloc ?_ _) | (with_reducible refine Kd.C_drewN ?_ _) | (with_reducible refine Kd.C_drew ?_))); (case side2 => exact HC0.out); rintro e w5 ⟨rfl, hb⟩; refine ⟨_, rfl, ?_⟩; have n0_ := Aside0.mk (below_step (by repeat (first | (with_reducible first | exact HB.out | apply below_alloc | apply pw_below_drewN | apply below_drew1) | exact HB.out)) hb); clear HB; have HB := n0_; clear n0_; (try clear hb); (try clear hb2); (try clear hk); (try clear hi)))
    go_ret2
    exact ⟨by first | rfl | (simp [errW_none, errW_some] <;> rfl) | (simp [*, errW_none, errW_some] <;> rfl), by repeat (first | (with_reducible first | exact HB.out | apply below_alloc | apply pw_below_drewN | apply below_drew1) | exact HB.out)⟩
  · rw [if_neg c4] at H
    have c4b0 : decide (t334 < 0) = false := decide_eq_false c4
    clear c4
    by_cases c6 : 0 ≤ t334
    · rw [if_pos c6] at H
      have c6b0 : decide (0 ≤ t334) = true := decide_eq_true c6
      clear c6
      by_cases c7 : t334 < (l0.length : Int)
      · rw [if_pos c7] at H
        have c7b0 : decide (t334 < (l0.length : Int)) = true := decide_eq_true c7
        clear c7
        simp only [Option.some.injEq, Prod.mk.injEq] at H
        obtain ⟨rfl, rfl⟩ := H
        go_enter Tryd.func27, Tryd.ntmps27
        go_wp2_with (first | ((with_reducible refine gate_callee (f := 49) rfl ?_); refine goesL_ (some 9) rfl rfl Tryd.func49 (by kernel_rfl) rfl #[.slice A0 l0.length c0, .string a1] rfl (by (try simp only [List.map_toArray, List.map_cons, List.map_nil]); first | done | rfl | (simp only [List.length_drop, List.length_take]; rfl)) ?_; (with_reducible refine (entry_place.calls _ _ l0 a1 t334 _ ?side1 ?side2 A3.out).mono ?_); (case side1 => repeat (first | exact HR0.out | (with_reducible refine Kd.C_alloc ?_ _) | (with_reducible refine Kd.C_drewN ?_ _) | (with_reducible refine Kd.C_drew ?_))); (case side2 => exact HC0.out); rintro e w8 ⟨rfl, hb⟩; refine ⟨_, rfl, ?_⟩; have n0_ := Aside0.mk (below_step (by repeat (first | (with_reducible first | exact HB.out | apply below_alloc | apply pw_below_drewN | apply below_drew1) | exact HB.out)) hb); clear HB; have HB := n0_; clear n0_; (try clear hb); (try clear hb2); (try clear hk); (try clear hi); have p335 : 0 ≤ (t334 : Int) := of_decide_eq_true (by first | (with_reducible assumption) | assumption); have q335 : t334 < (l0.length : Int) := of_decide_eq_true (by first | (with_reducible assumption) | assumption); obtain ⟨ad335, e335, hx335_0, hx335_1⟩ := at_T43 HR0.out t334 p335 q335; cases e335; replace hx335_0 := (HB.out.cell (World.block_lt_of_cell? w _ hx335_0)).trans hx335_0; replace hx335_1 := (HB.out.cell (World.block_lt_of_cell? w _ hx335_1)).trans hx335_1; replace p335 := eq_true p335; replace q335 := eq_true q335))
        go_ret2
        exact ⟨by first | rfl | (simp [errW_none, errW_some] <;> rfl) | (simp [*, errW_none, errW_some] <;> rfl), by repeat (first | (with_reducible first | exact HB.out | apply below_alloc | apply pw_below_drewN | apply below_drew1) | exact HB.out)⟩
      · rw [if_neg c7] at H
        exact absurd H (by simp)
    · rw [if_neg c6] at H
      exact absurd H (by simp)

/-! ### api_Entry: function 50: by hand -/
section
variable {P : Program} {α : Type}
theorem eqlIn_nil (w : World) (d : Nat) (t e : TypeId) (a : Option Addr) (n c n' c' : Nat) (h : P.underlying t = some (.slice e)) : (Op.equalIn (d + 1) t (.slice a n c) (.slice none n' c')).run P w = .ok a.isNone w := by
  cases a <;> simp [Op.equalIn, run_underlying h]
theorem eql_nil (w : World) (t e : TypeId) (a : Option Addr) (n c n' c' : Nat) (h : P.underlying t = some (.slice e)) : (binOp .eql t (.slice a n c) (.slice none n' c')).run P w = .ok (.bool a.isNone) w := by
  simp only [binOp]
  simp [Op.equal, Op.maxDepth, eqlIn_nil w 9999 t e a n c n' c' h]
theorem own_open {d : Kd α} {e : Nat} {W : World} {base : Nat} {ok : Nat → Prop} {g n c : Nat} {xs : List α} (HO : d.R e W base ok (.slice (some ⟨g, 0, none⟩) n c) xs) :
    ∃ cur : Array Value, W.heap[g]? = some (.cells cur e (0, 0)) ∧ base ≤ g ∧ ok g ∧ xs.length = n ∧ n ≤ c ∧ c ≤ maxLen ∧ cur.size = c * d.sz ∧ Reps (d.M W base (fun k => ok k ∧ k ≠ g)) d.sz xs (cur.toList.take (n * d.sz)) := by
  obtain ⟨hn, hnc, _⟩ := Kd.R_reads' HO
  obtain ⟨hok, inner, hown, hr⟩ := HO
  rcases hown.2 with ⟨hv, _⟩ | ⟨g', cap', cur, hv, hb, hh, _, hcm, hcs, htake⟩
  · cases hv
  injection hv with ha _ hc
  injection ha with ha
  injection ha with hg
  subst hg; subst hc
  rw [← hn] at htake
  refine ⟨cur, hh, hb, hok _ (by simp [Value.ownBlock]), hn.symm, hnc, hcm, hcs, ?_⟩
  rw [htake]
  exact hr.imp_ (fun _ _ hp => d.M_mono (fun k hk => ⟨hk.1, fun he => hk.2 (by rw [he]; simp [Value.ownBlock])⟩) hp)
theorem own_close {d : Kd α} {e : Nat} {W : World} {base : Nat} {ok : Nat → Prop} {g n c : Nat} {xs : List α} {cur : Array Value} (hh : W.heap[g]? = some (.cells cur e (0, 0))) (hb : base ≤ g) (hok : ok g) (hl : xs.length = n) (hnc : n ≤ c) (hcm : c ≤ maxLen) (hcs : cur.size = c * d.sz)
    (hr : Reps (d.M W base (fun k => ok k ∧ k ≠ g)) d.sz xs (cur.toList.take (n * d.sz))) : d.R e W base ok (.slice (some ⟨g, 0, none⟩) n c) xs := by
  subst hl
  refine ⟨fun k hk => ?_, cur.toList.take (xs.length * d.sz), ⟨?_, .inr ⟨g, c, cur, rfl, hb, hh, hnc, hcm, hcs, rfl⟩⟩, hr.imp_ (fun _ _ hp => d.M_mono (fun k hk => ⟨hk.1, fun he => hk.2 (by simpa [Value.ownBlock] using he)⟩) hp)⟩
  · obtain rfl : g = k := by simpa [Value.ownBlock] using hk
    exact hok
  · have := Nat.mul_le_mul_right d.sz hnc
    have h2 : cur.toList.length = c * d.sz := (Array.length_toList (xs := cur)).trans hcs
    rw [List.length_take, h2]
    exact Nat.min_eq_left this
/-- A stretch of cells of a row of one's own is written: the row that stands there then. -/
theorem own_seg {d : Kd α} {e : Nat} {W : World} {base : Nat} {ok : Nat → Prop} {g n c : Nat} {xs ys : List α} (HO : d.R e W base ok (.slice (some ⟨g, 0, none⟩) n c) xs) (o : Nat) (cs : List Value) (hfit : o + cs.length ≤ c * d.sz) (hy : ys.length ≤ c)
    (hr : ∀ l : List Value, l.length = c * d.sz → Reps (d.M W base (fun k => ok k ∧ k ≠ g)) d.sz xs (l.take (n * d.sz)) → Reps (d.M W base (fun k => ok k ∧ k ≠ g)) d.sz ys ((l.take o ++ cs ++ l.drop (o + cs.length)).take (ys.length * d.sz))) :
    d.R e (W.setCells g o cs) base ok (.slice (some ⟨g, 0, none⟩) ys.length c) ys ∧ W.grownBy (W.setCells g o cs) (some g) := by
  obtain ⟨cur, hh, hb, hok, hl, hnc, hcm, hcs, hreps⟩ := own_open HO
  obtain ⟨cur', h3, h4, h5⟩ := setCells_row cs o W cur hh (by omega)
  obtain ⟨s1, s2, s3, s4⟩ := setCells_same g cs o W
  have hfar : ∀ k', k' ≠ g → (W.setCells g o cs).heap[k']? = W.heap[k']? := fun k' hk' => setCells_far cs _ k' hk'
  refine ⟨own_close h3 hb hok rfl hy hcm (by rw [h4, hcs]) ?_, ⟨s1, s2, s3, by rw [s4]; exact Nat.le_refl _, fun k' _ hk' => hfar k' (fun he => hk' (by rw [he]))⟩⟩
  rw [h5]
  exact (hr cur.toList (by rw [Array.length_toList, hcs]) hreps).imp_ (fun _ _ hp => d.M_move (fun k hk => hfar k hk.2) hp)
theorem copy_run {W : World} (dT sT ty elem : TypeId) (g o dLen dCap : Nat) (a : Addr) (sLen sCap : Nat) (cs : List Value) (sz : Nat)
    (hu : P.underlying dT = some (.slice elem)) (hs : (P.info? elem).map (·.size) = some sz) (hn : cs.length = Nat.min sLen dLen * sz)
    (hsrc : ∀ j v, cs[j]? = some v → W.cell? (a.add j) = some v) (hc : ∀ j, j < cs.length → (W.cell? ⟨g, o + j, none⟩).isSome = true) (hf : ∀ j, j < cs.length → W.frozen? ⟨g, o + j, none⟩ = false) (h1 : ∀ v ∈ cs, v.oneCell' = true) :
    (Builtin.copy_ #[dT, sT] ty #[.slice (some ⟨g, o, none⟩) dLen dCap, .slice (some a) sLen sCap]).run P W = .ok (goInt (Nat.min sLen dLen : Nat)) (W.setCells g o cs) := by
  have hl := run_loadCells_list (P := P) W a cs hsrc
  have hst := run_storeCells_cells (P := P) g o cs 0 W (by simpa using hc) (by simpa using hf) h1
  cases hq : P.info? elem with
  | none => simp [hq] at hs
  | some i =>
    have hi : i.size = sz := by simpa [hq] using hs
    simp [Builtin.copy_, run_underlying hu, Builtin.lenOf, Builtin.firstCells, sizeOf, typeInfo, hq, hi, ← hn, hl, hst]
theorem clear_run {W : World} (t e ty : TypeId) (z : Value) (ht : P.underlying t = some (.slice e)) (hz : (P.info? e).map (·.zero) = some (some z)) (g o n c : Nat) (hn : 0 < n)
    (hc : ∀ j, j < (Builtin.zeroCells z.cells n).size → (W.cell? ⟨g, o + j, none⟩).isSome = true) (hf : ∀ j, j < (Builtin.zeroCells z.cells n).size → W.frozen? ⟨g, o + j, none⟩ = false) (h1 : ∀ v ∈ (Builtin.zeroCells z.cells n).toList, v.oneCell' = true) :
    (Builtin.clear_ #[t] ty #[.slice (some ⟨g, o, none⟩) n c]).run P W = .ok (.tuple #[]) (W.setCells g o (Builtin.zeroCells z.cells n).toList) := by
  have hst := run_storeCells_cells (P := P) g o (Builtin.zeroCells z.cells n).toList 0 W (by simpa using hc) (by simpa using hf) h1
  simp only [Nat.add_zero] at hst
  obtain ⟨m, rfl⟩ : ∃ m, n = m + 1 := ⟨n - 1, by omega⟩
  cases hq : P.info? e with
  | none => simp [hq] at hz
  | some i =>
    have hi : i.zero = some z := by simpa [hq] using hz
    simp [Builtin.clear_, run_underlying ht, zeroValue, typeInfo, hq, hi, hst]
theorem own_cells {d : Kd α} {e : Nat} {W : World} {base : Nat} {ok : Nat → Prop} {g n c : Nat} {xs : List α} (HO : d.R e W base ok (.slice (some ⟨g, 0, none⟩) n c) xs) (k : Nat) (hk : k < c * d.sz) : (W.cell? ⟨g, k, none⟩).isSome = true ∧ W.frozen? ⟨g, k, none⟩ = false := by
  obtain ⟨cur, hh, _, _, _, _, _, hcs, _⟩ := own_open HO
  refine ⟨?_, blk_frozen hh _⟩
  rw [cell_of_row W g _ cur e (0, 0) hh]
  simp; omega
end
section
variable {P : Program} {ops : Array Oper} {rest : List Oper} {o : Oper} {a : Act} {Q : Exit → Act → World → Prop}
theorem wpList_copy_run {W : World} (hgd : o.guard = none) (d s : Operand) (t t' : TypeId) (ho : o.op = .call { callee := .builtin .copy, args := #[d, s], argTypes := #[t, t'] }) (v u : Value) (hd : a.eval d = v) (hs : a.eval s = u) {v' : Value} {w' : World}
    (hr : (Builtin.copy_ #[t, t'] o.type #[v, u]).run P W = .ok v' w') (h : wpList P ops Q rest (a.put o.dst v') w') : wpList P ops Q (o :: rest) a W :=
  wpList_plain hgd fun _ hK => by
    unfold Oper.wp execOp
    simp only [ho, resolve, invoke, builtin, Sem.run_bind, Sem.run_pure, Result.andThen_ok, List.map_toArray, List.map_cons, List.map_nil, hd, hs, hr]
    exact hK _ _ h
theorem wpList_append_run {W : World} (hgd : o.guard = none) (d s : Operand) (t t' : TypeId) (ho : o.op = .call { callee := .builtin .append, args := #[d, s], argTypes := #[t, t'] }) (v u : Value) (hd : a.eval d = v) (hs : a.eval s = u) {v' : Value} {w' : World}
    (hr : (Builtin.append_ #[t, t'] o.type #[v, u]).run P W = .ok v' w') (h : wpList P ops Q rest (a.put o.dst v') w') : wpList P ops Q (o :: rest) a W :=
  wpList_plain hgd fun _ hK => by
    unfold Oper.wp execOp
    simp only [ho, resolve, invoke, builtin, Sem.run_bind, Sem.run_pure, Result.andThen_ok, List.map_toArray, List.map_cons, List.map_nil, hd, hs, hr]
    exact hK _ _ h
theorem wpList_clear_run {W : World} (hgd : o.guard = none) (x : Operand) (t : TypeId) (ho : o.op = .call { callee := .builtin .clear, args := #[x], argTypes := #[t] }) (v : Value) (hd : a.eval x = v) {v' : Value} {w' : World}
    (hr : (Builtin.clear_ #[t] o.type #[v]).run P W = .ok v' w') (h : wpList P ops Q rest (a.put o.dst v') w') : wpList P ops Q (o :: rest) a W :=
  wpList_plain hgd fun _ hK => by
    unfold Oper.wp execOp
    simp only [ho, resolve, invoke, builtin, Sem.run_bind, Sem.run_pure, Result.andThen_ok, List.map_toArray, List.map_cons, List.map_nil, hd, hr]
    exact hK _ _ h
theorem step_copy_run {W : World} {K : Act → World → Prop} {N : Option Tmp} (hw : Region.wanted o (yielded ops a.tmps) = true) (hN : o.dst = N) (d s : Operand) (t t' : TypeId) (ho : o.op = .call { callee := .builtin .copy, args := #[d, s], argTypes := #[t, t'] }) (v u : Value) (hd : a.eval d = v) (hs : a.eval s = u) {v' : Value} {w' : World}
    (hr : (Builtin.copy_ #[t, t'] o.type #[v, u]).run P W = .ok v' w') (h : K (a.put N v') w') : if Region.wanted o (yielded ops a.tmps) = true then Oper.wp P o a W K Q else K (a.put N undef) W := by
  rw [if_pos hw]
  subst hN
  unfold Oper.wp execOp
  simp only [ho, resolve, invoke, builtin, Sem.run_bind, Sem.run_pure, Result.andThen_ok, List.map_toArray, List.map_cons, List.map_nil, hd, hs, hr]
  exact h
end
/-! rows whose elements are cells alone -/
structure Flat {α : Type} (d : Kd α) (enc : α → List Value) : Prop where
  put : ∀ w base ok x, d.M w base ok x (enc x)
  len : ∀ x, (enc x).length = d.sz
  one : ∀ x, ∀ u ∈ enc x, u.oneCell' = true
  op : ∀ {w base ok x cs}, d.M w base ok x cs → cs = enc x
section
variable {P : Program} {α : Type} {d : Kd α} {enc : α → List Value}
theorem flat_len (F : Flat d enc) : ∀ xs : List α, (xs.flatMap enc).length = xs.length * d.sz
  | [] => by simp
  | x :: t => by rw [List.flatMap_cons, List.length_append, flat_len F t, F.len, List.length_cons, Nat.succ_mul, Nat.add_comm]
theorem flat_one (F : Flat d enc) (xs : List α) : ∀ u ∈ xs.flatMap enc, u.oneCell' = true := by
  intro u hu
  obtain ⟨x, _, h⟩ := List.mem_flatMap.1 hu
  exact F.one x u h
theorem flat_reps (F : Flat d enc) (W : World) (base : Nat) (ok : Nat → Prop) : ∀ xs : List α, Reps (d.M W base ok) d.sz xs (xs.flatMap enc)
  | [] => Reps.none _ _
  | x :: t => Reps.front (F.put W base ok x) (F.len x) (flat_reps F W base ok t) (by rw [List.flatMap_cons])
theorem reps_flat (F : Flat d enc) {W : World} {base : Nat} {ok : Nat → Prop} : ∀ {xs : List α} {cs : List Value}, Reps (d.M W base ok) d.sz xs cs → cs = xs.flatMap enc
  | [], cs, h => List.eq_nil_of_length_eq_zero (by simpa using h.1)
  | x :: t, cs, h => by
    have h0 := F.op (h.2 0 x rfl)
    rw [Nat.zero_mul, List.drop_zero] at h0
    have h1 : Reps (d.M W base ok) d.sz t (cs.drop d.sz) := by
      have := Kd.reps_drop (m := 1) h
      simpa using this
    rw [List.flatMap_cons, ← reps_flat F h1, ← h0, List.take_append_drop]
def OwnF (W : World) (g e : Nat) (L : List Value) : Prop := ∃ cur : Array Value, W.heap[g]? = some (.cells cur e (0, 0)) ∧ cur.toList = L
theorem OwnF.cell {W : World} {g e : Nat} {L : List Value} (h : OwnF W g e L) (k : Nat) : W.cell? ⟨g, k, none⟩ = L[k]? := by
  obtain ⟨cur, hh, rfl⟩ := h
  rw [cell_of_row W g _ cur e (0, 0) hh, Array.getElem?_toList]
theorem OwnF.fz {W : World} {g e : Nat} {L : List Value} (h : OwnF W g e L) (k : Nat) : W.frozen? ⟨g, k, none⟩ = false := by
  obtain ⟨cur, hh, _⟩ := h
  exact blk_frozen hh _
theorem OwnF.seg {W : World} {g e : Nat} {L : List Value} (h : OwnF W g e L) (o : Nat) (cs : List Value) (hf : o + cs.length ≤ L.length) : OwnF (W.setCells g o cs) g e (L.take o ++ cs ++ L.drop (o + cs.length)) ∧ W.grownBy (W.setCells g o cs) (some g) := by
  obtain ⟨cur, hh, rfl⟩ := h
  rw [Array.length_toList] at hf
  obtain ⟨cur', h3, h4, h5⟩ := setCells_row cs o W cur hh hf
  obtain ⟨s1, s2, s3, s4⟩ := setCells_same g cs o W
  exact ⟨⟨cur', h3, h5⟩, ⟨s1, s2, s3, by rw [s4]; exact Nat.le_refl _, fun k' _ hk' => setCells_far cs _ k' (fun he => hk' (by rw [he]))⟩⟩
theorem OwnF.grown {W W1 : World} {g e : Nat} {L : List Value} {row : Option Nat} (h : OwnF W g e L) (hg : W.grownBy W1 row) (hne : some g ≠ row) : OwnF W1 g e L := by
  obtain ⟨cur, hh, hl⟩ := h
  exact ⟨cur, blk_grown hh hg hne, hl⟩
theorem own_flat (F : Flat d enc) {e : Nat} {W : World} {base : Nat} {ok : Nat → Prop} {g n c : Nat} {xs : List α} (HO : d.R e W base ok (.slice (some ⟨g, 0, none⟩) n c) xs) :
    ∃ L, OwnF W g e L ∧ L.length = c * d.sz ∧ L.take (n * d.sz) = xs.flatMap enc ∧ base ≤ g ∧ ok g ∧ xs.length = n ∧ n ≤ c ∧ c ≤ maxLen := by
  obtain ⟨cur, hh, hb, hok, hl, hnc, hcm, hcs, hr⟩ := own_open HO
  exact ⟨cur.toList, ⟨cur, hh, rfl⟩, by rw [Array.length_toList, hcs], reps_flat F hr, hb, hok, hl, hnc, hcm⟩
theorem flat_own (F : Flat d enc) {e : Nat} {W : World} {base : Nat} {ok : Nat → Prop} {g n c : Nat} {xs : List α} {L : List Value} (h : OwnF W g e L) (hl : L.length = c * d.sz) (ht : L.take (n * d.sz) = xs.flatMap enc) (hb : base ≤ g) (hok : ok g) (hn : xs.length = n) (hnc : n ≤ c) (hcm : c ≤ maxLen) :
    d.R e W base ok (.slice (some ⟨g, 0, none⟩) n c) xs := by
  obtain ⟨cur, hh, rfl⟩ := h
  rw [Array.length_toList] at hl
  exact own_close hh hb hok hn hnc hcm hl (by rw [ht]; exact flat_reps F _ _ _ _)
/-- append(s, make([]T, m)...), where there is no room: a new row. -/
theorem run_zeros_grow (w : World) (t ti ty e : TypeId) (i : TypeInfo) (z : Value) (ht : P.underlying t = some (.slice e)) {k : IntKind} (hti : P.underlying ti = some (.int k)) (hi : P.info? e = some i) (hz : i.zero = some z)
    (hzs : z.cells.size = i.size) (hsz : 0 < i.size) (hb0 : 0 < i.bytes) (A : Option Addr) (n cap : Nat) (xs : List Value) (kx : IntKind) (m : Nat) (hm : 0 < m) (hcap : cap < n + m) (hbytes : (n + m) * i.bytes ≤ 140737488355328)
    (hfo : (Builtin.firstCells i.size n (.slice A n cap)).run P w.drew = .ok xs.toArray w.drew) :
    (Builtin.append_ #[t, ti] ty #[.slice A n cap, .int kx m]).run P w =
      .ok (.slice (some ⟨w.heap.size, 0, none⟩) (n + m) (grownCap w (n + m) cap e)) (w.drew.alloc (.cells (xs.toArray ++ Builtin.zeroCells z.cells m ++ Builtin.zeroCells z.cells (grownCap w (n + m) cap e - (n + m))) e)) := by
  have hle : n + m ≤ 140737488355328 := Nat.le_trans (Nat.le_mul_of_pos_right _ hb0) hbytes
  have hw : IntKind.i64.wrap (m : Int) = m := by rw [IntKind.wrap_i64]; omega
  have hneg : ¬ ((m : Int) < 0) := by omega
  have hmb : m * i.bytes ≤ 140737488355328 := Nat.le_trans (Nat.mul_le_mul_right _ (Nat.le_add_left m n)) hbytes
  have hbig : ¬ (281474976710656 < (m : Int) * (i.bytes : Int)) := by
    rw [← Int.natCast_mul]
    omega
  have hsn : i.size ≠ 0 := by omega
  have hn : ¬ (n + m ≤ cap) := by omega
  have h63' : ¬ (9223372036854775807 < ((n : Int) + (m : Int))) := by omega
  have hfit := growslice_fits hcap hbytes
  have h48' : ¬ (281474976710656 < Builtin.nextslicecap (n + m) cap * i.bytes) := by omega
  have hmz : ¬ (m * i.size = 0) := Nat.mul_ne_zero (by omega) hsn
  simp [Builtin.append_, run_underlying ht, run_underlying hti, sizeOf, typeInfo, zeroValue, hi, hz, asInt, asIntOf, hw, hneg, hbig, hn, h63', h48', Question.forced, hfo, newRow, grownCap, hmz]
theorem zeros_grow (F : Flat d enc) {W : World} (t ti e : TypeId) (z : Value) (bytes : Nat) (ht : P.underlying t = some (.slice e)) {k : IntKind} (hti : P.underlying ti = some (.int k)) (hinfo : (P.info? e).map (fun i => (i.zero, i.size, i.bytes)) = some (some z, d.sz, bytes)) (hz : z.cells.size = d.sz) (hs0 : 0 < d.sz) (hb0 : 0 < bytes)
    {g c q : Nat} {L : List Value} (hO : OwnF W g e L) (hL : L.length = c * d.sz) (hq : q ≤ c) (kx : IntKind) (m : Nat) (hm : 0 < m) (hcap : c < q + m) (hl : (q + m) * bytes ≤ 140737488355328) :
    ∃ cap w1 L1, (∀ ty, (Builtin.append_ #[t, ti] ty #[.slice (some ⟨g, 0, none⟩) q c, .int kx m]).run P W = .ok (.slice (some ⟨W.heap.size, 0, none⟩) (q + m) cap) w1) ∧ OwnF w1 W.heap.size e L1 ∧ L1.length = cap * d.sz ∧ q + m ≤ cap ∧ cap ≤ maxLen ∧ L1.take (q * d.sz) = L.take (q * d.sz) ∧ W.grownBy w1 none := by
  obtain ⟨i, hi, hzz⟩ := Option.map_eq_some_iff.1 hinfo
  simp only [Prod.mk.injEq] at hzz
  obtain ⟨hz0, hz1, hz2⟩ := hzz
  subst hz2
  have hle : q + m ≤ 140737488355328 := Nat.le_trans (Nat.le_mul_of_pos_right _ hb0) hl
  have hqs : q * d.sz ≤ c * d.sz := Nat.mul_le_mul_right _ hq
  have htl : (L.take (q * d.sz)).length = q * d.sz := by rw [List.length_take, hL]; exact Nat.min_eq_left hqs
  have hfo : (Builtin.firstCells i.size q (.slice (some ⟨g, 0, none⟩) q c)).run P W.drew = .ok (L.take (q * d.sz)).toArray W.drew :=
    run_firstCells_some (P := P) W.drew i.size q _ q c (L.take (q * d.sz)) (by rw [htl, hz1]) (fun j u hj => by
      have hjl : j < (L.take (q * d.sz)).length := (List.getElem?_eq_some_iff.1 hj).1
      rw [add_at, Nat.zero_add]
      have h0 := hO.cell j
      rw [List.getElem?_take, if_pos (by omega)] at hj
      exact h0.trans hj)
  have hge := grownCap_ge W (q + m) c e
  have hcm : grownCap W (q + m) c e ≤ maxLen := grownCap_le_maxLen W (q + m) c e (by simp only [maxLen]; omega)
  refine ⟨_, _, _, fun ty => run_zeros_grow W t ti ty e i z ht hti hi hz0 (by rw [hz, hz1]) (by omega) hb0 (some ⟨g, 0, none⟩) q c _ kx m hm hcap hl hfo, ⟨_, heap_alloc_new W.drew _, rfl⟩, ?_, hge, hcm, ?_, ⟨rfl, rfl, rfl, by simp, fun k hk _ => heap_alloc_old W.drew _ hk⟩⟩
  · simp only [Array.toList_append, List.length_append, Array.length_toList, size_zeroCells, hz, htl, ← Nat.add_mul]
    congr 1
    omega
  · rw [Array.toList_append, Array.toList_append, List.append_assoc]
    exact List.take_left' htl
end
theorem reads_one {α : Type} {d : Kd α} {enc : α → List Value} (F : Flat d enc) {W : World} {vb e : Nat} {x : α} (hv : OwnF W vb e (enc x)) : ReadsRow (d.K W) d.sz W (some ⟨vb, 0, none⟩) 1 [x] := by
  refine ⟨rfl, by decide, fun _ => ⟨_, rfl, fun j p hj => ?_⟩⟩
  have hj0 : j = 0 := by have := (List.getElem?_eq_some_iff.1 hj).1; simpa using this
  subst hj0
  obtain rfl : x = p := by simpa using hj
  refine ⟨enc x, F.len x, d.K_of_M (F.put W 0 (fun _ => True) x), fun i u hi => ?_⟩
  rw [Nat.zero_mul, Nat.zero_add, add_at, Nat.zero_add]
  exact (hv.cell i).trans hi
theorem goInt_nat (n : Nat) : goInt (n : Nat) = .int .i64 n := rfl
theorem OwnF.lt {W : World} {g e : Nat} {L : List Value} (h : OwnF W g e L) : g < W.heap.size := by
  obtain ⟨cur, hh, _⟩ := h
  exact (Array.getElem?_eq_some_iff.1 hh).1
theorem OwnF.there {W : World} {g e : Nat} {L : List Value} (h : OwnF W g e L) (k : Nat) (hk : k < L.length) : (W.cell? ⟨g, k, none⟩).isSome = true := by
  rw [h.cell, List.getElem?_eq_getElem hk]; rfl
/-- The cells of a row from one of its elements on. -/
theorem flat_from {α : Type} {d : Kd α} {enc : α → List Value} (F : Flat d enc) {xs : List α} {L : List Value} {n i : Nat} (hn : xs.length = n) (hi : i ≤ n) (hL : L.take (n * d.sz) = xs.flatMap enc) (j : Nat) (u : Value) (hj : ((xs.drop i).flatMap enc)[j]? = some u) : L[i * d.sz + j]? = some u := by
  have hjl : j < ((xs.drop i).flatMap enc).length := (List.getElem?_eq_some_iff.1 hj).1
  rw [flat_len F, List.length_drop, hn, Nat.sub_mul] at hjl
  have hle : i * d.sz ≤ n * d.sz := Nat.mul_le_mul_right _ hi
  have h1 : (L.take (n * d.sz))[i * d.sz + j]? = L[i * d.sz + j]? := by rw [List.getElem?_take, if_pos (by omega)]
  rw [← h1, hL]
  have h2 : xs.flatMap enc = (xs.take i).flatMap enc ++ (xs.drop i).flatMap enc := by rw [← List.flatMap_append, List.take_append_drop]
  have h3 : ((xs.take i).flatMap enc).length = i * d.sz := by rw [flat_len F, List.length_take, hn, Nat.min_eq_left hi]
  rw [h2, List.getElem?_append_right (by rw [h3]; omega), h3, Nat.add_sub_cancel_left]
  exact hj
theorem flat_take {α : Type} {d : Kd α} {enc : α → List Value} (F : Flat d enc) {xs : List α} {L : List Value} {n i : Nat} (hn : xs.length = n) (hi : i ≤ n) (hL : L.take (n * d.sz) = xs.flatMap enc) : L.take (i * d.sz) = (xs.take i).flatMap enc := by
  have hle : i * d.sz ≤ n * d.sz := Nat.mul_le_mul_right _ hi
  have h2 : xs.flatMap enc = (xs.take i).flatMap enc ++ (xs.drop i).flatMap enc := by rw [← List.flatMap_append, List.take_append_drop]
  have h3 : ((xs.take i).flatMap enc).length = i * d.sz := by rw [flat_len F, List.length_take, hn, Nat.min_eq_left hi]
  rw [← Nat.min_eq_left hle, ← List.take_take, hL, h2]
  exact List.take_left' h3
theorem OwnF.shape {W : World} {g e : Nat} {L : List Value} (h : OwnF W g e L) : W.shape? g = some (e, L.length) := by
  obtain ⟨cur, hh, rfl⟩ := h
  simp [World.shape?, hh]
theorem sizeOf_run {P : Program} {e : TypeId} {sz : Nat} (h : (P.info? e).map (·.size) = some sz) (w : World) : (sizeOf e).run P w = .ok sz w := by
  cases hq : P.info? e with
  | none => simp [hq] at h
  | some i =>
    have hi : i.size = sz := by simpa [hq] using h
    simp [sizeOf, typeInfo, hq, hi]
def api_Entry.f (l0 : List S43) : Option (List S43) := if l0.length * 24 ≤ 140737488355328 then some l0 else none
set_option maxHeartbeats 4000000 in
theorem api_Entry.calls (A0 : Option Addr) (c0 : Nat) (l0 : List S43) (r : List S43) (w : World) (hr0 : Kd.C k43 w A0 l0.length l0) (hc0 : l0.length ≤ c0) (h : api_Entry.f l0 = some r) :
    Calls Tryd.prog 50 #[.slice A0 l0.length c0] w fun e w' => ∃ v0_ : Value, e = .returned (v0_) ∧ Kd.R k43 43 w' w.heap.size (fun _ => True) v0_ r ∧ Below w.heap.size w w' := by
  unfold api_Entry.f at h
  by_cases c1 : l0.length * 24 ≤ 140737488355328
  · rw [if_pos c1] at h
    injection h with h
    subst h
    have HR0 := Aside0.mk hr0
    clear hr0
    have q_ : ∀ (w : World) (a : Option Addr) (n c n' c' : Nat), (binOp .eql 32 (.slice a n c) (.slice none n' c')).run Tryd.prog w = .ok (.bool a.isNone) w := fun w a n c n' c' => eql_nil w _ _ a n c n' c' Tryd.underlying32
    cases A0 with
    | none =>
      go_enter Tryd.func50, Tryd.ntmps50
      go_wp2
      go_ret
      have hn : l0 = [] := by
        rcases Nat.eq_zero_or_pos l0.length with h0 | h0
        · exact List.eq_nil_of_length_eq_zero h0
        · obtain ⟨ad, h, _⟩ := HR0.out.2.2 h0
          cases h
      subst hn
      exact ⟨_, rfl, Kd.R_nil _ _ _ _ _, Below.refl _ _⟩
    | some ad =>
      go_enter Tryd.func50, Tryd.ntmps50
      go_wp2_with (first | ((with_reducible refine gate_builtin (b := .append) (xs := #[.tmp 5, .tmp 6]) rfl ?_); (try (refine gate_guard (by rfl) ?_; dsimp only)); at_builtin; refine Kd.R_append_rows k43 (Rr := k43.K (w.alloc (.cells #[] 43))) (w0 := w) w.heap.size rfl (.tmp 5) (.tmp 6) 32 43 (.agg #[.string ⟨#[]⟩, .int .i64 0]) 24 rfl Tryd.underlying32 info43 rfl (by decide) (by omega) (.slice (some ⟨w.heap.size, 0, none⟩) 0 0) ([] : List S43) l0 _ _ _ (fun _ => True) (fun k => some k ≠ some w.heap.size) rfl rfl ?aO ?aR ?aM (fun _ h => ⟨trivial, h⟩) (fun _ _ => trivial) ?aB ?aS ?aL ?_))
      case aO => exact ⟨fun _ _ => trivial, [], World.ownsRow_made w #[] 0 (Nat.le_refl _) (Nat.zero_le _) (by simp), Reps.none _ _⟩
      case aR => exact Kd.C_alloc HR0.out _
      case aM => exact fun x cs h => by obtain rfl := k43_open h; exact k43_mkM _ _ _ x
      case aB => exact below_alloc (Below.refl _ _) _
      case aS => exact below_size (below_alloc (Below.refl _ _) _)
      case aL => simp; omega
      intro v1 w1 ho hb hg hat
      have HO := Aside0.mk ho
      have HB := Aside0.mk hb
      clear ho hb hg hat
      go_wp2
      go_ret
      exact ⟨_, rfl, HO.out, HB.out⟩
  · rw [if_neg c1] at h
    cases h

end Go.Proofs.YtgmbmkjdfmoanaaDoor.Q
