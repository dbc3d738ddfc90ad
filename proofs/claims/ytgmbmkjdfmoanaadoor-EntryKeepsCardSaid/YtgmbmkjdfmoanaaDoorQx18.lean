-- Written by mp.py (a program of this repo, over the print) for this seat: functions, contracts, walks.
import Derived.Test.YtgmbmkjdfmoanaaDoorQx0
import Derived.Test.YtgmbmkjdfmoanaaDoorQx17
namespace Go.Proofs.YtgmbmkjdfmoanaaDoor.Q
open Go.RowKit Go.Proofs.YtgmbmkjdfmoanaaDoorW.PrintWords Go.Proofs.YtgmbmkjdfmoanaaDoorW.PrintLast Go.Proofs.YtgmbmkjdfmoanaaDoorW.PrintMore
attribute [local go_sem] max2_int min2_int max_two min_two max_three min_three max_four min_four   -- for this text's walks alone
set_option linter.unusedVariables false
set_option linter.unusedSimpArgs false

/-! ### entry_Put: function 28: by hand -/
def entry_Put.enc (x : S43) : List Value := [.string x.f0, .int .i64 x.f1]
theorem entry_Put.flat : Flat k43 entry_Put.enc := ⟨fun w b o x => k43_mkM w b o x, fun _ => rfl, fun x u hu => by
  revert hu
  unfold entry_Put.enc
  simp only [List.mem_cons, List.not_mem_nil, or_false]
  intro h
  (repeat' (rcases h with h | h)) <;> rfl, fun h => k43_openM h⟩
set_option maxHeartbeats 8000000 in
theorem entry_Put.insert_end (A : Option Addr) (c : Nat) (xs : List S43) (x : S43) (vb : Nat) (W w0 : World) (base : Nat) (ok : Nat → Prop) (hO : Kd.R k43 43 W base ok (.slice A xs.length c) xs) (hv : OwnF W vb 43 (entry_Put.enc x)) (hbase : base ≤ W.heap.size) (hB : Below base w0 W) (hfresh : ∀ k, W.heap.size ≤ k → ok k) (hbig : (xs.length + 1) * 24 ≤ 140737488355328) :
    Calls Tryd.prog 53 #[.slice A xs.length c, .int .i64 (xs.length : Int), .slice (some ⟨vb, 0, none⟩) 1 1] W fun e w' => ∃ v : Value, e = .returned v ∧ Kd.R k43 43 w' base ok v (xs ++ [x]) ∧ Below base w0 w' := by
  have hl := (Kd.R_reads' hO).2.1
  have HV := Aside0.mk (reads_one entry_Put.flat hv)
  have HO := Aside0.mk hO
  have HB := Aside0.mk hB
  have HF := Aside0.mk hfresh
  clear hO hv hB hfresh
  have hlen : (xs.length : Int) ≤ 9223372036854775807 := by omega
  have l1 : (0 : Int) ≤ (xs.length : Int) := by omega
  have l2 : (xs.length : Int) ≤ (c : Int) := by omega
  cases A with
  | none =>
    obtain ⟨hx0, hc0⟩ : xs = [] ∧ c = 0 := by
      obtain ⟨_, inner, hown, _⟩ := HO.out
      rcases hown.2 with ⟨h, h0⟩ | ⟨g, cap, cur, h, _⟩
      · injection h with _ _ h2
        exact ⟨List.eq_nil_of_length_eq_zero h0, h2⟩
      · cases h
    subst hx0
    subst hc0
    go_enter Tryd.func53, Tryd.ntmps53
    go_wp2_with (first | ((with_reducible refine gate_builtin (b := .append) (xs := #[.tmp 23, .tmp 24]) rfl ?_); (try (refine gate_guard (by rfl) ?_; dsimp only)); at_builtin; refine Kd.R_append_rows k43 (Rr := k43.K W) (w0 := w0) base rfl (.tmp 23) (.tmp 24) 32 43 (.agg #[.string ⟨#[]⟩, .int .i64 0]) 24 rfl Tryd.underlying32 info43 rfl (by decide) (by omega) (.slice none 0 0) ([] : List S43) [x] _ _ _ ok (fun _ => False) rfl rfl ?aO ?aR ?aM (fun _ h => h.elim) HF.out ?aB ?aS ?aL ?_))
    case aO => exact HO.out
    case aR => exact HV.out
    case aM => exact fun y cs h => by obtain rfl := k43_open h; exact k43_mkM _ _ _ y
    case aB => exact HB.out
    case aS => exact hbase
    case aL => simp
    intro v1 w1 ho hb hg hat
    have HO2 := Aside0.mk ho
    have HB2 := Aside0.mk hb
    clear ho hb hg hat
    go_wp2
    go_ret
    exact ⟨_, rfl, HO2.out, HB2.out⟩
  | some ad =>
    go_enter Tryd.func53, Tryd.ntmps53
    go_wp2_with (first | ((with_reducible refine gate_builtin (b := .append) (xs := #[.tmp 23, .tmp 24]) rfl ?_); (try (refine gate_guard (by rfl) ?_; dsimp only)); at_builtin; refine Kd.R_append_rows k43 (Rr := k43.K W) (w0 := w0) base rfl (.tmp 23) (.tmp 24) 32 43 (.agg #[.string ⟨#[]⟩, .int .i64 0]) 24 rfl Tryd.underlying32 info43 rfl (by decide) (by omega) (.slice (some ad) xs.length c) xs [x] _ _ _ ok (fun _ => False) rfl rfl ?aO ?aR ?aM (fun _ h => h.elim) HF.out ?aB ?aS ?aL ?_))
    all_goals (try (case aO => exact HO.out))
    all_goals (try (case aR => exact HV.out))
    all_goals (try (case aM => exact fun y cs h => by obtain rfl := k43_open h; exact k43_mkM _ _ _ y))
    all_goals (try (case aB => exact HB.out))
    all_goals (try (case aS => exact hbase))
    all_goals (try (case aL => exact hbig))
    all_goals intro v1 w1 ho hb hg hat
    all_goals have HO2 := Aside0.mk ho
    all_goals have HB2 := Aside0.mk hb
    all_goals clear ho hb hg hat
    all_goals go_wp2
    all_goals go_ret
    all_goals exact ⟨_, rfl, HO2.out, HB2.out⟩
set_option maxHeartbeats 16000000 in
set_option maxRecDepth 100000 in
theorem entry_Put.insert_grow (g c i : Nat) (xs : List S43) (x : S43) (vb : Nat) (W w0 : World) (base : Nat) (ok : Nat → Prop) (hO : Kd.R k43 43 W base ok (.slice (some ⟨g, 0, none⟩) xs.length c) xs) (hv : OwnF W vb 43 (entry_Put.enc x)) (hi : i < xs.length) (hroom : c < xs.length + 1) (hbase : base ≤ W.heap.size) (hB : Below base w0 W) (hfresh : ∀ k, W.heap.size ≤ k → ok k) (hbig : (xs.length + 1) * 24 ≤ 140737488355328) :
    Calls Tryd.prog 53 #[.slice (some ⟨g, 0, none⟩) xs.length c, .int .i64 (i : Int), .slice (some ⟨vb, 0, none⟩) 1 1] W fun e w' => ∃ v : Value, e = .returned v ∧ Kd.R k43 43 w' base ok v (xs.take i ++ x :: xs.drop i) ∧ Below base w0 w' := by
  have F := entry_Put.flat
  have hsz : k43.sz = 2 := rfl
  obtain ⟨L, hL, hLl, hLt, hbg, hok, _, hnc, hcm⟩ := own_flat F hO
  obtain ⟨cap, w1, L1, hrun, hL1, hL1l, hcap, hcapm, hL1t, hg1⟩ := zeros_grow (P := Tryd.prog) F 32 3 43 (.agg #[.string ⟨#[]⟩, .int .i64 0]) 24 Tryd.underlying32 Tryd.underlying3 info43 rfl (by decide) (by omega) hL hLl (q := i) (by omega) .i64 (xs.length + 1 - i) (by omega) (by omega) (by rw [show i + (xs.length + 1 - i) = xs.length + 1 by omega]; exact hbig)
  clear hO
  generalize hn : xs.length = n at *
  rw [show i + (n + 1 - i) = n + 1 by omega] at hrun hcap
  rw [show ((n + 1 - i : Nat) : Int) = (n : Int) + 1 - (i : Int) by omega] at hrun
  have hvlt := hv.lt
  have hglt := hL.lt
  have hok2 := hfresh _ (Nat.le_refl W.heap.size)
  have hBase := hbase
  obtain ⟨g2, hg2⟩ : ∃ g2, g2 = W.heap.size := ⟨_, rfl⟩
  rw [← hg2] at hrun hL1 hvlt hglt hok2 hBase
  have hsB : base ≤ w1.heap.size := Nat.le_trans hbase hg1.size
  have hB1 := hB.grown hg1 hbase (fun k hk => by cases hk)
  have hv1 := hv.grown hg1 (by simp)
  have hLg := hL.grown hg1 (by simp)
  have hel : (entry_Put.enc x).length = 2 := rfl
  have hm0 : maxLen ≤ 9223372036854775807 := by decide
  rw [hsz] at hLl hLt hL1l hL1t
  have hfit1 : i * 2 + (entry_Put.enc x).length ≤ L1.length := by rw [hel, hL1l]; omega
  obtain ⟨hL2, hg2'⟩ := hL1.seg (i * 2) (entry_Put.enc x) hfit1
  have hc1 : ∀ ty dc sc, (Builtin.copy_ #[32, 32] ty #[.slice (some ⟨g2, i * 2, none⟩) (n + 1 - i) dc, .slice (some ⟨vb, 0, none⟩) 1 sc]).run Tryd.prog w1 = .ok (.int .i64 (Nat.min 1 (n + 1 - i) : Nat)) (w1.setCells g2 (i * 2) (entry_Put.enc x)) := fun ty dc sc =>
    copy_run (P := Tryd.prog) (W := w1) 32 32 ty 43 g2 (i * 2) (n + 1 - i) dc ⟨vb, 0, none⟩ 1 sc (entry_Put.enc x) 2 Tryd.underlying32 (by kernel_rfl) (by rw [hel]; simp only [Nat.min_def]; split <;> omega)
      (fun j u hj => by rw [add_at, Nat.zero_add]; exact (hv1.cell j).trans hj) (fun j hj => hL1.there _ (by omega)) (fun j _ => hL1.fz _) (F.one x)
  have hB2 := hB1.grown hg2' hsB (fun k hk => by injection hk with hk; omega)
  have hLg2 := hLg.grown hg2' (by intro hc; injection hc with hc; omega)
  have hs2 : base ≤ (w1.setCells g2 (i * 2) (entry_Put.enc x)).heap.size := Nat.le_trans hsB hg2'.size
  generalize w1.setCells g2 (i * 2) (entry_Put.enc x) = w2 at hc1 hL2 hB2 hLg2 hs2
  have hL2l : (L1.take (i * 2) ++ entry_Put.enc x ++ L1.drop (i * 2 + (entry_Put.enc x).length)).length = cap * 2 := by
    rw [List.length_append, List.length_append, List.length_take, List.length_drop, hel, hL1l, Nat.min_eq_left (by omega)]
    omega
  have hL2t : (L1.take (i * 2) ++ entry_Put.enc x ++ L1.drop (i * 2 + (entry_Put.enc x).length)).take ((i + 1) * 2) = (xs.take i).flatMap entry_Put.enc ++ entry_Put.enc x := by
    have hT := flat_take F (i := i) hn (by omega) (by rw [hsz]; exact hLt)
    rw [hsz] at hT
    rw [hL1t, hT]
    exact List.take_left' (by rw [List.length_append, flat_len F, List.length_take, hn, Nat.min_eq_left (by omega), hel, hsz]; omega)
  generalize L1.take (i * 2) ++ entry_Put.enc x ++ L1.drop (i * 2 + (entry_Put.enc x).length) = L2 at hL2 hL2l hL2t
  have hDl : ((xs.drop i).flatMap entry_Put.enc).length = (n - i) * 2 := by rw [flat_len F, List.length_drop, hn, hsz]
  have hL2' : OwnF w2.drew g2 43 L2 := hL2
  have hLg2' : OwnF w2.drew g 43 L := hLg2
  have hB2' := below_drew1 hB2
  have hs2' : base ≤ w2.drew.heap.size := hs2
  have hfit2 : (i + 1) * 2 + ((xs.drop i).flatMap entry_Put.enc).length ≤ L2.length := by rw [hDl, hL2l]; omega
  obtain ⟨hL3, hg3⟩ := hL2'.seg ((i + 1) * 2) ((xs.drop i).flatMap entry_Put.enc) hfit2
  have hc2 : ∀ ty dc sc, (Builtin.copy_ #[32, 32] ty #[.slice (some ⟨g2, (i + 1) * 2, none⟩) (n - i) dc, .slice (some ⟨g, i * 2, none⟩) (n - i) sc]).run Tryd.prog w2.drew = .ok (.int .i64 (Nat.min (n - i) (n - i) : Nat)) (w2.drew.setCells g2 ((i + 1) * 2) ((xs.drop i).flatMap entry_Put.enc)) := fun ty dc sc =>
    copy_run (P := Tryd.prog) (W := w2.drew) 32 32 ty 43 g2 ((i + 1) * 2) (n - i) dc ⟨g, i * 2, none⟩ (n - i) sc ((xs.drop i).flatMap entry_Put.enc) 2 Tryd.underlying32 (by kernel_rfl) (by rw [hDl]; simp)
      (fun j u hj => by rw [add_at]; exact (hLg2'.cell _).trans (flat_from F hn (by omega) (by rw [hsz]; exact hLt) j u hj)) (fun j hj => hL2'.there _ (by omega)) (fun j _ => hL2'.fz _) (flat_one F _)
  have hB3 := hB2'.grown hg3 hs2' (fun k hk => by injection hk with hk; omega)
  generalize w2.drew.setCells g2 ((i + 1) * 2) ((xs.drop i).flatMap entry_Put.enc) = w3 at hc2 hL3 hB3
  have HR : Kd.R k43 43 w3 base ok (.slice (some ⟨g2, 0, none⟩) (n + 1) cap) (xs.take i ++ x :: xs.drop i) := by
    refine flat_own F hL3 ?_ ?_ hBase hok2 ?_ hcap hcapm
    · rw [List.length_append, List.length_append, List.length_take, List.length_drop, hDl, hL2l, hsz, Nat.min_eq_left (by omega)]
      omega
    · rw [hL2t, hsz, List.append_assoc ((xs.take i).flatMap _ ++ _), List.flatMap_append, List.flatMap_cons, ← List.append_assoc, ← List.append_assoc]
      exact List.take_left' (by rw [List.length_append, List.length_append, hDl, flat_len F, List.length_take, hn, Nat.min_eq_left (by omega), hel, hsz]; omega)
    · rw [List.length_append, List.length_cons, List.length_take, List.length_drop, hn]; omega
  have HR3 := Aside0.mk HR
  have HB3 := Aside0.mk hB3
  have HC2 := Aside0.mk hc2
  have hcap63 : (cap : Int) ≤ 9223372036854775807 := by omega
  clear HR hB3 hc2 hL3 hg3 hfit2 hs2' hB2' hLg2' hL2' hDl hL2t hL2l hs2 hLg2 hB2 hg2' hL2 hfit1 hL1t hL1l hLt hLl hel hLg hv1 hB1 hsB hBase hok2 hg1 hL1 hL hv hB hfresh hbg hok F hg2
  have d1 : decide ((i : Int) = (n : Int)) = false := decide_eq_false (by omega)
  have d2 : decide ((c : Int) < (n : Int) + 1) = true := decide_eq_true (by omega)
  have w1_ : IntKind.i64.wrap ((n : Int) + 1) = (n : Int) + 1 := by rw [i64_w]; unfold wrap64; omega
  have w2_ : IntKind.i64.wrap ((n : Int) + 1 - (i : Int)) = (n : Int) + 1 - (i : Int) := by rw [i64_w]; unfold wrap64; omega
  have w3_ : IntKind.i64.wrap ((i : Int) + 1) = (i : Int) + 1 := by rw [i64_w]; unfold wrap64; omega
  have l1 : (0 : Int) ≤ (i : Int) := by omega
  have l2 : (i : Int) ≤ (n : Int) := by omega
  have l3 : (n : Int) ≤ (c : Int) := by omega
  have l4 : (i : Int) ≤ (c : Int) := by omega
  have l5 : (i : Int) ≤ (n : Int) + 1 := by omega
  have l6 : ((n + 1 : Nat) : Int) ≤ (cap : Int) := by omega
  have l7 : ¬ (cap = i) := by omega
  have l8 : ¬ (c = i) := by omega
  have l9 : ¬ (cap = i + 1) := by omega
  have l10 : (i : Int) + 1 ≤ (n : Int) + 1 := by omega
  have l11 : (0 : Int) ≤ (i : Int) + 1 := by omega
  have e1 : ((i : Int) + 1).toNat = i + 1 := by omega
  go_enter Tryd.func53, Tryd.ntmps53
  go_wp2_with (first | ((with_reducible refine gate_builtin (b := .append) (xs := #[.tmp 34, .tmp 39]) rfl ?_); at_builtin; refine wpList_append_run rfl (.tmp 34) (.tmp 39) 32 3 rfl _ _ rfl rfl (hrun _) ?_) | ((with_reducible refine gate_builtin (b := .copy) (xs := #[.tmp 43, .tmp 44]) rfl ?_); at_builtin; refine wpList_copy_run rfl (.tmp 43) (.tmp 44) 32 32 rfl _ _ rfl rfl (hc1 _ _ _) ?_))
  refine start_ (n := 9) (S := fun _ => True) (ds := []) #[false, false, false, false, false, false, false, false, false] (by kernel_rfl) rfl rfl trivial (fun _ => ?_)
  refine pure_ (i := 0) (N := some 46) (v := ?_) (a' := ?_) #[true, false, false, false, false, false, false, false, false] rfl rfl (by kernel_rfl) (fun _ _ _ h => h) (Or.inl ⟨by rfl, ?_⟩) ?_ ?_
  rotate_left
  · intro w'; go_simp; first | with_reducible rfl | ((repeat rw [if_pos (by omega)]); all_goals (with_reducible rfl))
  rotate_left
  · simp only [Act.put, List.setIfInBounds_toArray, List.set_cons_zero, List.set_cons_succ, i64_w, i32_w]; rfl
  refine pure_ (i := 1) (N := some 47) (v := ?_) (a' := ?_) #[true, true, false, false, false, false, false, false, false] rfl rfl (by kernel_rfl) (fun _ _ _ h => h) (Or.inl ⟨by rfl, ?_⟩) ?_ ?_
  rotate_left
  · intro w'; go_simp; first | with_reducible rfl | ((repeat rw [if_pos (by omega)]); all_goals (with_reducible rfl))
  rotate_left
  · simp only [Act.put, List.setIfInBounds_toArray, List.set_cons_zero, List.set_cons_succ, i64_w, i32_w]; rfl
  refine pure_ (i := 2) (N := some 48) (v := ?_) (a' := ?_) #[true, true, true, false, false, false, false, false, false] rfl rfl (by kernel_rfl) (fun _ _ _ h => h) (Or.inl ⟨by rfl, ?_⟩) ?_ ?_
  rotate_left
  · intro w'; go_simp; first | with_reducible rfl | ((repeat rw [if_pos (by omega)]); all_goals (with_reducible rfl))
  rotate_left
  · simp only [Act.put, List.setIfInBounds_toArray, List.set_cons_zero, List.set_cons_succ, i64_w, i32_w]; rfl
  refine pure_ (i := 3) (N := some 49) (v := ?_) (a' := ?_) #[true, true, true, true, false, false, false, false, false] rfl rfl (by kernel_rfl) (fun _ _ _ h => h) (Or.inl ⟨by rfl, ?_⟩) ?_ ?_
  rotate_left
  · intro w'; go_simp; first | with_reducible rfl | ((repeat rw [if_pos (by omega)]); all_goals (with_reducible rfl))
  rotate_left
  · simp only [Act.put, List.setIfInBounds_toArray, List.set_cons_zero, List.set_cons_succ, i64_w, i32_w]; rfl
  refine pure_ (i := 4) (N := some 50) (v := ?_) (a' := ?_) #[true, true, true, true, true, false, false, false, false] rfl rfl (by kernel_rfl) (fun _ _ _ h => h) (Or.inl ⟨by rfl, ?_⟩) ?_ ?_
  rotate_left
  · intro w'; go_simp; first | with_reducible rfl | ((repeat rw [if_pos (by omega)]); all_goals (with_reducible rfl))
  rotate_left
  · simp only [Act.put, List.setIfInBounds_toArray, List.set_cons_zero, List.set_cons_succ, i64_w, i32_w]; rfl
  refine pure_ (i := 5) (N := some 51) (v := ?_) (a' := ?_) #[true, true, true, true, true, true, false, false, false] rfl rfl (by kernel_rfl) (fun _ _ _ h => h) (Or.inl ⟨by rfl, ?_⟩) ?_ ?_
  rotate_left
  · intro w'; go_simp; first | with_reducible rfl | ((repeat rw [if_pos (by omega)]); all_goals (with_reducible rfl))
  rotate_left
  · simp only [Act.put, List.setIfInBounds_toArray, List.set_cons_zero, List.set_cons_succ, i64_w, i32_w]; rfl
  refine pure_ (i := 6) (N := some 52) (v := ?_) (a' := ?_) #[true, true, true, true, true, true, true, false, false] rfl rfl (by kernel_rfl) (fun _ _ _ h => h) (Or.inl ⟨by rfl, ?_⟩) ?_ ?_
  rotate_left
  · intro w'; go_simp; first | with_reducible rfl | ((repeat rw [if_pos (by omega)]); all_goals (with_reducible rfl))
  rotate_left
  · simp only [Act.put, List.setIfInBounds_toArray, List.set_cons_zero, List.set_cons_succ, i64_w, i32_w]; rfl
  refine pure_ (i := 7) (N := some 53) (v := ?_) (a' := ?_) #[true, true, true, true, true, true, true, true, false] rfl rfl (by kernel_rfl) (fun _ _ _ h => h) (Or.inl ⟨by rfl, ?_⟩) ?_ ?_
  rotate_left
  · intro w'; go_simp; first | with_reducible rfl | ((repeat rw [if_pos (by omega)]); all_goals (with_reducible rfl))
  rotate_left
  · simp only [Act.put, List.setIfInBounds_toArray, List.set_cons_zero, List.set_cons_succ, i64_w, i32_w]; rfl
  refine one_ (i := 8) (N := some 54) #[true, true, true, true, true, true, true, true, true] rfl rfl (by kernel_rfl) (by decide) (fun K hK => ?_)
  refine step_copy_run (by rfl) rfl (.tmp 50) (.tmp 53) 32 32 rfl (.slice (some ⟨g2, (i + 1) * 2, none⟩) (n - i) (cap - (i + 1))) (.slice (some ⟨g, i * 2, none⟩) (n - i) (c - i)) (by rfl) (by rfl) (HC2.out _ _ _) ?_
  refine hK.out _ _ trivial (fun _ => ?_)
  clear hK K
  refine norm_ (a' := ?_) ?_ ?_
  rotate_left
  · show Act.put _ (some 54) _ = _
    simp only [Act.put, List.setIfInBounds_toArray, List.set_cons_zero, List.set_cons_succ, i64_w, i32_w]; rfl
  refine done_ (by kernel_rfl) ?_
  go_wp2
  go_ret
  exact ⟨_, rfl, HR3.out, HB3.out⟩
set_option maxHeartbeats 16000000 in
set_option maxRecDepth 100000 in
theorem entry_Put.insert_room (g c i : Nat) (xs : List S43) (x : S43) (vb : Nat) (W w0 : World) (base : Nat) (ok : Nat → Prop) (hO : Kd.R k43 43 W base ok (.slice (some ⟨g, 0, none⟩) xs.length c) xs) (hv : OwnF W vb 43 (entry_Put.enc x)) (hne : vb ≠ g) (hi : i < xs.length) (hroom : xs.length + 1 ≤ c) (hbase : base ≤ W.heap.size) (hB : Below base w0 W) :
    Calls Tryd.prog 53 #[.slice (some ⟨g, 0, none⟩) xs.length c, .int .i64 (i : Int), .slice (some ⟨vb, 0, none⟩) 1 1] W fun e w' => ∃ v : Value, e = .returned v ∧ Kd.R k43 43 w' base ok v (xs.take i ++ x :: xs.drop i) ∧ Below base w0 w' := by
  have F := entry_Put.flat
  have hsz : k43.sz = 2 := rfl
  obtain ⟨L, hL, hLl, hLt, hbg, hok, _, hnc, hcm⟩ := own_flat F hO
  clear hO
  generalize hn : xs.length = n at *
  rw [hsz] at hLl hLt
  have hel : (entry_Put.enc x).length = 2 := rfl
  have hm0 : maxLen ≤ 9223372036854775807 := by decide
  have hov : ∀ lb cb, (callFunc 67 #[.slice (some ⟨vb, 0, none⟩) 1 1, .slice (some ⟨g, (i + 1) * 2, none⟩) lb cb]).run Tryd.prog W = .ok (.value (.bool false)) W := fun lb cb => by
    rw [run_callFunc_extern Tryd.func67 (by kernel_rfl) (by kernel_rfl) (by kernel_rfl) (e := Extern.SlicesOverlaps.overlaps #[32, 32] #[4]) (by kernel_rfl),
      Lib.run_overlaps_apart W 32 4 43 Tryd.underlying32 2 (fun w => sizeOf_run (by kernel_rfl) w) ⟨vb, 0, none⟩ ⟨g, (i + 1) * 2, none⟩ 1 1 lb cb hne _ _ _ _ hv.shape hL.shape (by rw [hLl]; omega) (hv.fz 0) (hv.fz _)]
    rfl
  have hDl : ((xs.drop i).flatMap entry_Put.enc).length = (n - i) * 2 := by rw [flat_len F, List.length_drop, hn, hsz]
  have hL' : OwnF W.drew g 43 L := hL
  have hv' : OwnF W.drew vb 43 (entry_Put.enc x) := hv
  have hB' := below_drew1 hB
  have hs' : base ≤ W.drew.heap.size := hbase
  obtain ⟨hLA, hgA⟩ := hL'.seg ((i + 1) * 2) ((xs.drop i).flatMap entry_Put.enc) (by rw [hDl, hLl]; omega)
  have hcA : ∀ ty dc sc, (Builtin.copy_ #[32, 32] ty #[.slice (some ⟨g, (i + 1) * 2, none⟩) (n - i) dc, .slice (some ⟨g, i * 2, none⟩) (n + 1 - i) sc]).run Tryd.prog W.drew = .ok (.int .i64 (Nat.min (n + 1 - i) (n - i) : Nat)) (W.drew.setCells g ((i + 1) * 2) ((xs.drop i).flatMap entry_Put.enc)) := fun ty dc sc =>
    copy_run (P := Tryd.prog) (W := W.drew) 32 32 ty 43 g ((i + 1) * 2) (n - i) dc ⟨g, i * 2, none⟩ (n + 1 - i) sc ((xs.drop i).flatMap entry_Put.enc) 2 Tryd.underlying32 (by kernel_rfl) (by rw [hDl]; simp only [Nat.min_def]; split <;> omega)
      (fun j u hj => by rw [add_at]; exact (hL'.cell _).trans (flat_from F hn (by omega) (by rw [hsz]; exact hLt) j u hj)) (fun j hj => hL'.there _ (by rw [hLl]; omega)) (fun j _ => hL'.fz _) (flat_one F _)
  have hBA := hB'.grown hgA hs' (fun k hk => by injection hk with hk; omega)
  have hsA : base ≤ (W.drew.setCells g ((i + 1) * 2) ((xs.drop i).flatMap entry_Put.enc)).heap.size := Nat.le_trans hs' hgA.size
  have hvA := hv'.grown hgA (by intro hc; injection hc with hc; exact hne hc)
  generalize W.drew.setCells g ((i + 1) * 2) ((xs.drop i).flatMap entry_Put.enc) = wA at hcA hLA hBA hsA hvA
  have hT := flat_take F (i := i) hn (by omega) (by rw [hsz]; exact hLt)
  rw [hsz] at hT
  have hAl : (L.take ((i + 1) * 2) ++ (xs.drop i).flatMap entry_Put.enc ++ L.drop ((i + 1) * 2 + ((xs.drop i).flatMap entry_Put.enc).length)).length = c * 2 := by
    rw [List.length_append, List.length_append, List.length_take, List.length_drop, hDl, hLl, Nat.min_eq_left (by omega)]
    omega
  have hAt : (L.take ((i + 1) * 2) ++ (xs.drop i).flatMap entry_Put.enc ++ L.drop ((i + 1) * 2 + ((xs.drop i).flatMap entry_Put.enc).length)).take (i * 2) = (xs.take i).flatMap entry_Put.enc := by
    rw [List.append_assoc, List.take_append_of_le_length (by rw [List.length_take, hLl, Nat.min_eq_left (by omega)]; omega), List.take_take, Nat.min_eq_left (by omega), hT]
  have hAd : (L.take ((i + 1) * 2) ++ (xs.drop i).flatMap entry_Put.enc ++ L.drop ((i + 1) * 2 + ((xs.drop i).flatMap entry_Put.enc).length)).drop ((i + 1) * 2) = (xs.drop i).flatMap entry_Put.enc ++ L.drop ((i + 1) * 2 + ((xs.drop i).flatMap entry_Put.enc).length) := by
    rw [List.append_assoc]
    exact List.drop_left' (by rw [List.length_take, hLl]; exact Nat.min_eq_left (by omega))
  generalize L.drop ((i + 1) * 2 + ((xs.drop i).flatMap entry_Put.enc).length) = rest at hLA hAl hAt hAd
  generalize L.take ((i + 1) * 2) ++ (xs.drop i).flatMap entry_Put.enc ++ rest = LA at hLA hAl hAt hAd
  obtain ⟨hLB, hgB⟩ := hLA.seg (i * 2) (entry_Put.enc x) (by rw [hel, hAl]; omega)
  have hcB : ∀ ty dc sc, (Builtin.copy_ #[32, 32] ty #[.slice (some ⟨g, i * 2, none⟩) (n + 1 - i) dc, .slice (some ⟨vb, 0, none⟩) 1 sc]).run Tryd.prog wA = .ok (.int .i64 (Nat.min 1 (n + 1 - i) : Nat)) (wA.setCells g (i * 2) (entry_Put.enc x)) := fun ty dc sc =>
    copy_run (P := Tryd.prog) (W := wA) 32 32 ty 43 g (i * 2) (n + 1 - i) dc ⟨vb, 0, none⟩ 1 sc (entry_Put.enc x) 2 Tryd.underlying32 (by kernel_rfl) (by rw [hel]; simp only [Nat.min_def]; split <;> omega)
      (fun j u hj => by rw [add_at, Nat.zero_add]; exact (hvA.cell j).trans hj) (fun j hj => hLA.there _ (by rw [hAl]; omega)) (fun j _ => hLA.fz _) (F.one x)
  have hBB := hBA.grown hgB hsA (fun k hk => by injection hk with hk; omega)
  generalize wA.setCells g (i * 2) (entry_Put.enc x) = wB at hcB hLB hBB
  have HR : Kd.R k43 43 wB base ok (.slice (some ⟨g, 0, none⟩) (n + 1) c) (xs.take i ++ x :: xs.drop i) := by
    refine flat_own F hLB ?_ ?_ hbg hok ?_ hroom hcm
    · rw [List.length_append, List.length_append, List.length_take, List.length_drop, hel, hAl, hsz, Nat.min_eq_left (by omega)]
      omega
    · rw [hAt, hel, show i * 2 + 2 = (i + 1) * 2 by omega, hAd, hsz, List.flatMap_append, List.flatMap_cons, List.append_assoc, ← List.append_assoc (entry_Put.enc x), ← List.append_assoc]
      exact List.take_left' (by rw [List.length_append, List.length_append, hDl, flat_len F, List.length_take, hn, Nat.min_eq_left (by omega), hel, hsz]; omega)
    · rw [List.length_append, List.length_cons, List.length_take, List.length_drop, hn]; omega
  have HRB := Aside0.mk HR
  have HBB := Aside0.mk hBB
  have HCA := Aside0.mk hcA
  have HCB := Aside0.mk hcB
  have hc63 : (c : Int) ≤ 9223372036854775807 := by omega
  clear HR hBB hcA hcB hLB hgB hLA hAl hAt hAd hT hvA hsA hBA hgA hs' hB' hv' hL' hDl hel hLt hLl hok hbg hL hB hv F
  have d1 : decide ((i : Int) = (n : Int)) = false := decide_eq_false (by omega)
  have d2 : decide ((c : Int) < (n : Int) + 1) = false := decide_eq_false (by omega)
  have w1_ : IntKind.i64.wrap ((n : Int) + 1) = (n : Int) + 1 := by rw [i64_w]; unfold wrap64; omega
  have w3_ : IntKind.i64.wrap ((i : Int) + 1) = (i : Int) + 1 := by rw [i64_w]; unfold wrap64; omega
  have l1 : (0 : Int) ≤ (i : Int) := by omega
  have l2 : (i : Int) ≤ (n : Int) := by omega
  have l3 : (n : Int) ≤ (c : Int) := by omega
  have l5 : (i : Int) ≤ (n : Int) + 1 := by omega
  have l6 : (0 : Int) ≤ (n : Int) + 1 := by omega
  have l6' : (n : Int) + 1 ≤ (c : Int) := by omega
  have l8 : ¬ (c = i) := by omega
  have l9 : ¬ (c = i + 1) := by omega
  have l10 : (i : Int) + 1 ≤ (n : Int) + 1 := by omega
  have l11 : (0 : Int) ≤ (i : Int) + 1 := by omega
  have e1 : ((i : Int) + 1).toNat = i + 1 := by omega
  have e2 : ((n : Int) + 1).toNat = n + 1 := by omega
  go_enter Tryd.func53, Tryd.ntmps53
  go_wp2_with (simp only [hov])
  refine start_ (n := 9) (S := fun _ => True) (ds := []) #[false, false, false, false, false, false, false, false, false] (by kernel_rfl) rfl rfl trivial (fun _ => ?_)
  refine pure_ (i := 0) (N := some 69) (v := ?_) (a' := ?_) #[true, false, false, false, false, false, false, false, false] rfl rfl (by kernel_rfl) (fun _ _ _ h => h) (Or.inl ⟨by rfl, ?_⟩) ?_ ?_
  rotate_left
  · intro w'; go_simp; first | with_reducible rfl | ((repeat rw [if_pos (by omega)]); all_goals (with_reducible rfl))
  rotate_left
  · simp only [Act.put, List.setIfInBounds_toArray, List.set_cons_zero, List.set_cons_succ, i64_w, i32_w]; rfl
  refine pure_ (i := 1) (N := some 70) (v := ?_) (a' := ?_) #[true, true, false, false, false, false, false, false, false] rfl rfl (by kernel_rfl) (fun _ _ _ h => h) (Or.inl ⟨by rfl, ?_⟩) ?_ ?_
  rotate_left
  · intro w'; go_simp; first | with_reducible rfl | ((repeat rw [if_pos (by omega)]); all_goals (with_reducible rfl))
  rotate_left
  · simp only [Act.put, List.setIfInBounds_toArray, List.set_cons_zero, List.set_cons_succ, i64_w, i32_w]; rfl
  refine pure_ (i := 2) (N := some 71) (v := ?_) (a' := ?_) #[true, true, true, false, false, false, false, false, false] rfl rfl (by kernel_rfl) (fun _ _ _ h => h) (Or.inl ⟨by rfl, ?_⟩) ?_ ?_
  rotate_left
  · intro w'; go_simp; first | with_reducible rfl | ((repeat rw [if_pos (by omega)]); all_goals (with_reducible rfl))
  rotate_left
  · simp only [Act.put, List.setIfInBounds_toArray, List.set_cons_zero, List.set_cons_succ, i64_w, i32_w]; rfl
  refine pure_ (i := 3) (N := some 72) (v := ?_) (a' := ?_) #[true, true, true, true, false, false, false, false, false] rfl rfl (by kernel_rfl) (fun _ _ _ h => h) (Or.inl ⟨by rfl, ?_⟩) ?_ ?_
  rotate_left
  · intro w'; go_simp; first | with_reducible rfl | ((repeat rw [if_pos (by omega)]); all_goals (with_reducible rfl))
  rotate_left
  · simp only [Act.put, List.setIfInBounds_toArray, List.set_cons_zero, List.set_cons_succ, i64_w, i32_w]; rfl
  refine pure_ (i := 4) (N := some 73) (v := ?_) (a' := ?_) #[true, true, true, true, true, false, false, false, false] rfl rfl (by kernel_rfl) (fun _ _ _ h => h) (Or.inl ⟨by rfl, ?_⟩) ?_ ?_
  rotate_left
  · intro w'; go_simp; first | with_reducible rfl | ((repeat rw [if_pos (by omega)]); all_goals (with_reducible rfl))
  rotate_left
  · simp only [Act.put, List.setIfInBounds_toArray, List.set_cons_zero, List.set_cons_succ, i64_w, i32_w]; rfl
  refine pure_ (i := 5) (N := some 74) (v := ?_) (a' := ?_) #[true, true, true, true, true, true, false, false, false] rfl rfl (by kernel_rfl) (fun _ _ _ h => h) (Or.inl ⟨by rfl, ?_⟩) ?_ ?_
  rotate_left
  · intro w'; go_simp; first | with_reducible rfl | ((repeat rw [if_pos (by omega)]); all_goals (with_reducible rfl))
  rotate_left
  · simp only [Act.put, List.setIfInBounds_toArray, List.set_cons_zero, List.set_cons_succ, i64_w, i32_w]; rfl
  refine pure_ (i := 6) (N := some 75) (v := ?_) (a' := ?_) #[true, true, true, true, true, true, true, false, false] rfl rfl (by kernel_rfl) (fun _ _ _ h => h) (Or.inl ⟨by rfl, ?_⟩) ?_ ?_
  rotate_left
  · intro w'; go_simp; first | with_reducible rfl | ((repeat rw [if_pos (by omega)]); all_goals (with_reducible rfl))
  rotate_left
  · simp only [Act.put, List.setIfInBounds_toArray, List.set_cons_zero, List.set_cons_succ, i64_w, i32_w]; rfl
  refine pure_ (i := 7) (N := some 76) (v := ?_) (a' := ?_) #[true, true, true, true, true, true, true, true, false] rfl rfl (by kernel_rfl) (fun _ _ _ h => h) (Or.inl ⟨by rfl, ?_⟩) ?_ ?_
  rotate_left
  · intro w'; go_simp; first | with_reducible rfl | ((repeat rw [if_pos (by omega)]); all_goals (with_reducible rfl))
  rotate_left
  · simp only [Act.put, List.setIfInBounds_toArray, List.set_cons_zero, List.set_cons_succ, i64_w, i32_w]; rfl
  refine one_ (i := 8) (N := some 77) #[true, true, true, true, true, true, true, true, true] rfl rfl (by kernel_rfl) (by decide) (fun K hK => ?_)
  refine step_copy_run (by rfl) rfl (.tmp 73) (.tmp 76) 32 32 rfl (.slice (some ⟨g, (i + 1) * 2, none⟩) (n - i) (c - (i + 1))) (.slice (some ⟨g, i * 2, none⟩) (n + 1 - i) (c - i)) (by rfl) (by rfl) (HCA.out _ _ _) ?_
  refine hK.out _ _ trivial (fun _ => ?_)
  clear hK K
  refine norm_ (a' := ?_) ?_ ?_
  rotate_left
  · show Act.put _ (some 77) _ = _
    simp only [Act.put, List.setIfInBounds_toArray, List.set_cons_zero, List.set_cons_succ, i64_w, i32_w]; rfl
  refine done_ (by kernel_rfl) ?_
  have hcB := HCB.out
  go_wp2_with (first | ((with_reducible refine gate_builtin (b := .copy) (xs := #[.tmp 80, .tmp 81]) rfl ?_); at_builtin; refine wpList_copy_run rfl (.tmp 80) (.tmp 81) 32 32 rfl _ _ rfl rfl (hcB _ _ _) ?_))
  go_ret
  exact ⟨_, rfl, HRB.out, HBB.out⟩
theorem entry_Put.insert (A : Option Addr) (c i : Nat) (xs : List S43) (x : S43) (vb : Nat) (W w0 : World) (base : Nat) (ok : Nat → Prop) (hO : Kd.R k43 43 W base ok (.slice A xs.length c) xs) (hv : OwnF W vb 43 (entry_Put.enc x)) (hne : ∀ k, (Value.slice A xs.length c).ownBlock = some k → vb ≠ k) (hi : i ≤ xs.length) (hbase : base ≤ W.heap.size) (hB : Below base w0 W) (hfresh : ∀ k, W.heap.size ≤ k → ok k) (hbig : (xs.length + 1) * 24 ≤ 140737488355328) :
    Calls Tryd.prog 53 #[.slice A xs.length c, .int .i64 (i : Int), .slice (some ⟨vb, 0, none⟩) 1 1] W fun e w' => ∃ v : Value, e = .returned v ∧ Kd.R k43 43 w' base ok v (xs.take i ++ x :: xs.drop i) ∧ Below base w0 w' := by
  by_cases h : i = xs.length
  · subst h
    rw [List.take_length, List.drop_length]
    exact entry_Put.insert_end A c xs x vb W w0 base ok hO hv hbase hB hfresh hbig
  · have hlt : i < xs.length := by omega
    obtain ⟨g, rfl⟩ : ∃ g, A = some ⟨g, 0, none⟩ := by
      obtain ⟨_, inner, hown, _⟩ := hO
      rcases hown.2 with ⟨_, h0⟩ | ⟨g, cap, cur, hv, _⟩
      · omega
      · injection hv with ha
        exact ⟨g, ha⟩
    by_cases hr : c < xs.length + 1
    · exact entry_Put.insert_grow g c i xs x vb W w0 base ok hO hv hlt hr hbase hB hfresh hbig
    · exact entry_Put.insert_room g c i xs x vb W w0 base ok hO hv (hne g (by simp [Value.ownBlock])) hlt (by omega) hbase hB
set_option maxHeartbeats 4000000 in
theorem entry_Put.search_ (p : S43 → Bool) (g1 : Nat) (A : Option Addr) (c : Nat) (l : List S43) (w : World) (hr : Kd.C k43 w A l.length l) (hc : l.length ≤ c)
    (hp : ∀ (x : S43) (w1 : World), Below w.heap.size w w1 → Calls Tryd.prog 52 #[.agg #[.string x.f0, .int .i64 x.f1], .pointer (some ⟨g1, 0, none⟩)] w1 fun e w' => e = .returned (.bool (p x)) ∧ Below w1.heap.size w1 w') :
    Calls Tryd.prog 66 #[.slice A l.length c, .func (.func 52) #[] #[.pointer (some ⟨g1, 0, none⟩)]] w fun e w' => e = .returned (.int .i64 (entry_place.at p 0 l)) ∧ Below w.heap.size w w' := by
  have HR := Aside0.mk hr
  have HP := Aside0.mk hp
  clear hr hp
  go_enter Tryd.func66, Tryd.ntmps66
  go_wp2
  go_loopw [8] (fun v8 wr => ∃ i : Nat, i ≤ l.length ∧ v8 = .int .i64 i ∧ Below w.heap.size w wr ∧ entry_place.at p (i : Int) (l.drop i) = entry_place.at p 0 l) (fun v8 _ => l.length - (intOf v8).toNat)
  case atStart => exact ⟨0, Nat.zero_le _, rfl, Below.refl _ _, rfl⟩
  case round =>
    obtain ⟨i, hi, rfl, hB, hall⟩ := hrel
    have HB := Aside0.mk hB
    have HA := Aside0.mk hall
    have HR1 := Aside0.mk (Kd.C_below HR.out hB)
    clear hB hall
    by_cases hlt : i < l.length
    · have c0 : (i : Int) < (l.length : Int) := by omega
      have p0 : (0 : Int) ≤ (i : Int) := by omega
      have ha := HA.out
      rw [List.drop_eq_getElem_cons hlt] at ha
      have hg : l[i] = rd_T43 l (i : Int) := by
        unfold rd_T43
        rw [Int.toNat_natCast, List.getD_eq_getElem?_getD, List.getElem?_eq_getElem hlt]; rfl
      rw [hg] at ha
      rw [show ∀ (i : Int) x t, entry_place.at p i (x :: t) = if p x = true then i else entry_place.at p (i + 1) t from fun _ _ _ => rfl] at ha
      have HA1 := Aside0.mk ha
      clear ha hg
      obtain ⟨ad, e_, hx0, hx1⟩ := at_T43 HR1.out (i : Int) p0 c0
      subst e_
      simp only [Int.toNat_natCast] at hx0 hx1
      have c1 : decide ((i : Int) < (l.length : Int)) = true := decide_eq_true c0
      have hlen : (l.length : Int) ≤ 9223372036854775807 := by have := Kd.C_max HR1.out; omega
      have p1 := eq_true p0
      have q1 := eq_true c0
      have HC := Aside0.mk (HP.out (rd_T43 l (i : Int)) _ HB.out)
      generalize rd_T43 l (i : Int) = x at HA1 HC hx0 hx1
      go_wp2_with fail
      refine HC.out.mono ?_
      rintro e w1 ⟨rfl, hb⟩
      have HB2 := Aside0.mk (below_step HB.out hb)
      clear hb HC
      cases hpx : p x with
      | false =>
        have hn := HA1.out
        rw [hpx, if_neg (by decide)] at hn
        clear hpx HA1
        go_wp2
        go_roundw
        case rel => exact ⟨i + 1, by omega, by go_num, HB2.out, by rw [← hn]; rfl⟩
        case measure => simp [intOf]; omega
      | true =>
        have hn := HA1.out
        rw [hpx, if_pos rfl] at hn
        clear hpx HA1
        go_wp2
        go_ret
        exact ⟨by rw [← hn]; rfl, HB2.out⟩
    · obtain rfl : i = l.length := by omega
      have c1 : decide ((l.length : Int) < (l.length : Int)) = false := decide_eq_false (by omega)
      have hn := HA.out
      rw [List.drop_length] at hn
      rw [show ∀ i : Int, entry_place.at p i [] = -1 from fun _ => rfl] at hn
      go_wp2
      go_ret
      exact ⟨by rw [← hn]; rfl, HB.out⟩
set_option maxHeartbeats 4000000 in
theorem entry_Put.find_ (p : S43 → Bool) (g1 : Nat) (A : Option Addr) (c : Nat) (l : List S43) (w : World) (hr : Kd.C k43 w A l.length l) (hc : l.length ≤ c)
    (hp : ∀ (x : S43) (w1 : World), Below w.heap.size w w1 → Calls Tryd.prog 52 #[.agg #[.string x.f0, .int .i64 x.f1], .pointer (some ⟨g1, 0, none⟩)] w1 fun e w' => e = .returned (.bool (p x)) ∧ Below w1.heap.size w1 w') :
    Calls Tryd.prog 51 #[.slice A l.length c, .func (.func 52) #[] #[.pointer (some ⟨g1, 0, none⟩)]] w fun e w' => e = .returned (.int .i64 (entry_place.at p 0 l)) ∧ Below w.heap.size w w' := by
  have H := Aside0.mk (entry_Put.search_ p g1 A c l w hr hc hp)
  clear hr hp
  go_enter Tryd.func51, Tryd.ntmps51
  go_wp2_with fail
  refine H.out.mono ?_
  rintro e w1 ⟨rfl, hB⟩
  have HB := Aside0.mk hB
  clear hB H
  go_wp2
  go_ret
  exact ⟨rfl, HB.out⟩
def entry_Put.gt (s : ByteArray) (x : S43) : Bool := (!Go.Op.bytesLess x.f0.toList s.toList) && !(x.f0.toList == s.toList)
set_option maxHeartbeats 4000000 in
theorem entry_Put.clos (s : ByteArray) (y : Int) (g : Nat) (x : S43) (w : World) (hb : w.heap[g]? = some (.cells #[.string s, .int .i64 y] 43 (0, 0))) :
    Calls Tryd.prog 52 #[.agg #[.string x.f0, .int .i64 x.f1], .pointer (some ⟨g, 0, none⟩)] w fun e w' => e = .returned (.bool (entry_Put.gt s x)) ∧ Below w.heap.size w w' := by
  have hu_ := Tryd.underlying43
  have HG := Aside0.mk hb
  clear hb
  go_enter Tryd.func52, Tryd.ntmps52
  go_wp2_with (first | ((with_reducible refine gate_dst (N := 2) rfl ?_); (try (refine gate_guard (by rfl) ?_; dsimp only)); refine box_event ?hg (N := 2) ?hd (cs := #[.string x.f0, .int .i64 x.f1]) (t := 43) ?hr ?_; (case hd => rfl); (case hg => rfl); (case hr => first | (go_simp; done) | (go_simp; rfl)); intro gb hg w7 hbox hb; have n0_ := Aside0.mk (blk_below HG.out hb); have HB := Aside0.mk hb; have BK := Aside0.mk hbox; clear HG; have HG := n0_; clear n0_ hb hbox hg; have hcz0 : w7.cell? ⟨gb, 0, none⟩ = some (.string x.f0) := (blk_cell BK.out 0).trans rfl; have hcz1 : w7.cell? ⟨gb, 1, none⟩ = some (.int .i64 x.f1) := (blk_cell BK.out 1).trans rfl; have hcg : w7.cell? ⟨g, 0, none⟩ = some (.string s) := (blk_cell HG.out 0).trans rfl; have hfz0 := blk_frozen BK.out 0; have hfz1 := blk_frozen BK.out 1))
  go_ret
  exact ⟨by unfold entry_Put.gt; first | rfl | (simp; done), HB.out⟩
/-- At which place a name that is not there is put. -/
def entry_Put.pos (s : ByteArray) (l : List S43) : Nat := if entry_place.at (entry_Put.gt s) 0 l < 0 then l.length else (entry_place.at (entry_Put.gt s) 0 l).toNat
def entry_Put.f (l0 : List S43) (a1_0 : ByteArray) (a1_1 : Int) : Option (List S43) :=
  (api_Entry.f l0).bind fun m => if 0 ≤ entry_place.at (entry_place.is a1_0) 0 l0 then some (m.set (entry_place.at (entry_place.is a1_0) 0 l0).toNat ⟨a1_0, a1_1⟩)
    else if (l0.length + 1) * 24 ≤ 140737488355328 then some (m.take (entry_Put.pos a1_0 l0) ++ ⟨a1_0, a1_1⟩ :: m.drop (entry_Put.pos a1_0 l0)) else none
set_option maxHeartbeats 16000000 in
set_option maxRecDepth 100000 in
theorem entry_Put.calls (A0 : Option Addr) (c0 : Nat) (l0 : List S43) (a1_0 : ByteArray) (a1_1 : Int) (r : List S43) (w : World) (hr0 : Kd.C k43 w A0 l0.length l0) (hc0 : l0.length ≤ c0) (h : entry_Put.f l0 a1_0 a1_1 = some r) :
    Calls Tryd.prog 28 #[.slice A0 l0.length c0, .agg #[.string a1_0, .int .i64 a1_1]] w fun e w' => ∃ v0_ : Value, e = .returned (v0_) ∧ Kd.R k43 43 w' w.heap.size (fun _ => True) v0_ r ∧ Below w.heap.size w w' := by
  have hu_ := Tryd.underlying43
  have HR := Aside0.mk hr0
  have H := Aside0.mk h
  clear hr0 h
  go_enter Tryd.func28, Tryd.ntmps28
  go_wp2_with (first | ((with_reducible refine gate_dst (N := 3) rfl ?_); (try (refine gate_guard (by rfl) ?_; dsimp only)); refine box_event ?hg (N := 3) ?hd (cs := #[.string a1_0, .int .i64 a1_1]) (t := 43) ?hr ?_; (case hd => rfl); (case hg => rfl); (case hr => first | (go_simp; done) | (go_simp; rfl)); intro gb hg w7 hbox hb; have n0_ := Aside0.mk (Kd.C_below HR.out hb); have HB := Aside0.mk hb; have BK := Aside0.mk hbox; clear HR; have HR := n0_; clear n0_ hb hbox; have hgb := Aside0.mk (show w.heap.size ≤ gb from by rw [hg]; exact Nat.le_refl _); clear hg; have hcz0 : w7.cell? ⟨gb, 0, none⟩ = some (.string a1_0) := (blk_cell BK.out 0).trans rfl; have hcz1 : w7.cell? ⟨gb, 1, none⟩ = some (.int .i64 a1_1) := (blk_cell BK.out 1).trans rfl; have hfz0 := blk_frozen BK.out 0; have hfz1 := blk_frozen BK.out 1))
  have h := H.out
  clear H
  unfold entry_Put.f at h
  obtain ⟨m, hm, h⟩ := Option.bind_eq_some_iff.mp h
  obtain rfl : l0 = m := by
    unfold api_Entry.f at hm
    split at hm
    · exact Option.some.inj hm
    · cases hm
  have HM := Aside0.mk hm
  have H := Aside0.mk h
  clear hm h
  refine (api_Entry.calls A0 c0 l0 l0 _ HR.out hc0 HM.out).mono ?_
  rintro e w8 ⟨v, rfl, hR, hb⟩
  obtain ⟨A, c, rfl⟩ := Kd.R_slice hR
  have n0_ := Aside0.mk (Kd.C_below HR.out hb)
  have n1_ := Aside0.mk (below_step HB.out hb)
  have n2_ := Aside0.mk (blk_below BK.out hb)
  have hs7 := Aside0.mk (below_size HB.out)
  have HB0 := Aside0.mk HB.out
  have HB7 := Aside0.mk hb
  clear HR HB BK hcz0 hcz1 hfz0 hfz1
  have HR := n0_; have HB := n1_; have BK := n2_
  have HO := Aside0.mk hR
  clear n0_ n1_ n2_ hR hb
  have hcz0 : w8.cell? ⟨gb, 0, none⟩ = some (.string a1_0) := (blk_cell BK.out 0).trans rfl
  have hcz1 : w8.cell? ⟨gb, 1, none⟩ = some (.int .i64 a1_1) := (blk_cell BK.out 1).trans rfl
  have hfz0 := blk_frozen BK.out 0
  have hfz1 := blk_frozen BK.out 1
  go_wp2_with fail
  refine (entry_place.calls A0 c0 l0 a1_0 _ _ HR.out hc0 rfl).mono ?_
  rintro e w9 ⟨rfl, hb⟩
  have n0_ := Aside0.mk (Kd.C_below HR.out hb)
  have n1_ := Aside0.mk (below_step HB7.out hb)
  have n2_ := Aside0.mk (blk_below BK.out hb)
  have n3_ := Aside0.mk (Kd.R_below HO.out hb)
  clear HR HB BK HO HB7 hcz0 hcz1 hfz0 hfz1 hb
  have HR := n0_; have HB7 := n1_; have BK := n2_; have HO := n3_
  clear n0_ n1_ n2_ n3_
  have hcz0 : w9.cell? ⟨gb, 0, none⟩ = some (.string a1_0) := (blk_cell BK.out 0).trans rfl
  have hcz1 : w9.cell? ⟨gb, 1, none⟩ = some (.int .i64 a1_1) := (blk_cell BK.out 1).trans rfl
  have hfz0 := blk_frozen BK.out 0
  have hfz1 := blk_frozen BK.out 1
  have h := H.out
  clear H
  have hlm : (l0.length : Int) ≤ 9223372036854775807 := by have := Kd.C_max HR.out; omega
  have hS7 := below_size HB7.out
  by_cases c1 : 0 ≤ entry_place.at (entry_place.is a1_0) 0 l0
  · rw [if_pos c1] at h
    obtain ⟨i, hi, hlt⟩ := entry_place.at_lt (entry_place.is a1_0) 0 l0 (by omega) (by omega)
    rw [Int.zero_add] at hi
    rw [hi] at h c1
    rw [hi]
    injection h with h
    subst h
    obtain ⟨g, rfl⟩ : ∃ g, A = some ⟨g, 0, none⟩ := by
      obtain ⟨_, inner, hown, _⟩ := HO.out
      rcases hown.2 with ⟨_, h0⟩ | ⟨g, cap, cur, hv, _⟩
      · omega
      · injection hv with ha
        exact ⟨g, ha⟩
    have b1 := decide_eq_true c1
    have c0 : (i : Int) < (l0.length : Int) := by omega
    obtain ⟨ad, cc, e_, hcl, hK, hcc⟩ := Kd.C_get (Kd.R_reads' HO.out).2.2 z43 (i : Int) c1 c0
    cases e_
    have HC := Aside0.mk hcc
    have p1 := eq_true c1
    have q1 := eq_true c0
    clear hcc hK
    go_wp2_with (first | ((with_reducible refine gate_store (t := 43) (p := 18) rfl ?_); refine Kd.R_store k43 (w0 := w7) w7.heap.size rfl rfl 43 (.tmp 18) (.tmp 17) rfl 43 (o' := i * 2) (i : Int) 0 l0 ⟨a1_0, a1_1⟩ (.agg #[.string a1_0, .int .i64 a1_1]) [.string a1_0, .int .i64 a1_1] cc (fun _ => True) (fun _ => False) ?ha ?hoff ?hx ?hu ?ht ?h1 HO.out c1 c0 hcl ?hcc ?hj ?hM (fun _ hk => hk.elim) HB7.out ?_))
    case ha => rfl
    case hoff => rfl
    case hx => rfl
    case hu => rfl
    case ht => kernel_rfl
    case h1 => exact List.all_eq_true.1 (by rfl)
    case hcc => exact fun j u hj => by have := HC.out j u hj; rwa [add_at, Nat.zero_add] at this
    case hj => exact Nat.le_refl _
    case hM =>
      rw [List.take_zero, List.nil_append, List.drop_eq_nil_of_le (by rw [hcl]; exact Nat.le_refl _), List.append_nil]
      exact k43_mkM _ _ _ ⟨a1_0, a1_1⟩
    intro w10 hO hB hg
    have HO2 := Aside0.mk hO
    have HB2 := Aside0.mk (below_step HB0.out hB)
    clear hO hB hg
    go_wp2
    go_ret
    exact ⟨_, rfl, Kd.R_lower HO2.out hs7.out, HB2.out⟩
  · rw [if_neg c1] at h
    have b1 := decide_eq_false c1
    by_cases hbig : (l0.length + 1) * 24 ≤ 140737488355328
    · rw [if_pos hbig] at h
      injection h with h
      subst h
      generalize entry_place.at (entry_place.is a1_0) 0 l0 = t1 at c1 b1
      go_wp2_with fail
      refine (entry_Put.find_ (entry_Put.gt a1_0) gb A0 c0 l0 _ HR.out hc0 (fun x w1 hb => entry_Put.clos a1_0 a1_1 gb x w1 (blk_below BK.out hb))).mono ?_
      rintro e w10 ⟨rfl, hb⟩
      have n1_ := Aside0.mk (below_step HB7.out hb)
      have n2_ := Aside0.mk (blk_below BK.out hb)
      have n3_ := Aside0.mk (Kd.R_below HO.out hb)
      clear HR BK HO HB7 hcz0 hcz1 hfz0 hfz1 hb
      have HB7 := n1_; have BK := n2_; have HO := n3_
      clear n1_ n2_ n3_
      have hcz0 : w10.cell? ⟨gb, 0, none⟩ = some (.string a1_0) := (blk_cell BK.out 0).trans rfl
      have hcz1 : w10.cell? ⟨gb, 1, none⟩ = some (.int .i64 a1_1) := (blk_cell BK.out 1).trans rfl
      have hfz0 := blk_frozen BK.out 0
      have hfz1 := blk_frozen BK.out 1
      have hS8 := below_size HB7.out
      have hpos : entry_Put.pos a1_0 l0 = if entry_place.at (entry_Put.gt a1_0) 0 l0 < 0 then l0.length else (entry_place.at (entry_Put.gt a1_0) 0 l0).toNat := rfl
      have hple : entry_Put.pos a1_0 l0 ≤ l0.length := by
        rw [hpos]
        by_cases c2 : entry_place.at (entry_Put.gt a1_0) 0 l0 < 0
        · rw [if_pos c2]; exact Nat.le_refl _
        · rw [if_neg c2]
          obtain ⟨j, hj, hlt⟩ := entry_place.at_lt (entry_Put.gt a1_0) 0 l0 (by omega) c2
          omega
      have hcall : ∀ W, w10.heap.size ≤ W.heap.size → Below w10.heap.size w10 W → OwnF W w10.heap.size 43 (entry_Put.enc ⟨a1_0, a1_1⟩) → Calls Tryd.prog 53 #[.slice A l0.length c, .int .i64 (entry_Put.pos a1_0 l0 : Int), .slice (some ⟨w10.heap.size, 0, none⟩) 1 1] W fun e w' => ∃ v : Value, e = .returned v ∧ Kd.R k43 43 w' w7.heap.size (fun _ => True) v (l0.take (entry_Put.pos a1_0 l0) ++ ⟨a1_0, a1_1⟩ :: l0.drop (entry_Put.pos a1_0 l0)) ∧ Below w7.heap.size w7 w' := fun W hW hb hv =>
        entry_Put.insert A c (entry_Put.pos a1_0 l0) l0 ⟨a1_0, a1_1⟩ w10.heap.size W w7 w7.heap.size _ (Kd.R_below HO.out hb) hv (fun k hk => by have := Kd.R_lt HO.out k hk; omega) hple (Nat.le_trans hS8 hW) (below_step HB7.out hb) (fun _ _ => trivial) hbig
      have HCL := Aside0.mk hcall
      clear hcall
      by_cases c2 : entry_place.at (entry_Put.gt a1_0) 0 l0 < 0
      · rw [if_pos c2] at hpos
        rw [show ((entry_Put.pos a1_0 l0 : Nat) : Int) = (l0.length : Int) from by rw [hpos]] at HCL
        have b2 := decide_eq_true c2
        go_wp2_with fail
        refine (HCL.out _ (by simp) (below_alloc (Below.refl _ _) _) ⟨_, heap_alloc_new _ _, rfl⟩).mono ?_
        rintro e w11 ⟨v, rfl, hO, hB⟩
        have HO2 := Aside0.mk hO
        have HB2 := Aside0.mk (below_step HB0.out hB)
        clear hO hB
        go_wp2
        go_ret
        exact ⟨_, rfl, Kd.R_lower HO2.out hs7.out, HB2.out⟩
      · rw [if_neg c2] at hpos
        obtain ⟨j, hj, hlt⟩ := entry_place.at_lt (entry_Put.gt a1_0) 0 l0 (by omega) c2
        rw [Int.zero_add] at hj
        rw [hj, Int.toNat_natCast] at hpos
        rw [hj] at c2 ⊢
        rw [show ((entry_Put.pos a1_0 l0 : Nat) : Int) = (j : Int) from by rw [hpos]] at HCL
        have b2 := decide_eq_false c2
        go_wp2_with fail
        refine (HCL.out _ (by simp) (below_alloc (Below.refl _ _) _) ⟨_, heap_alloc_new _ _, rfl⟩).mono ?_
        rintro e w11 ⟨v, rfl, hO, hB⟩
        have HO2 := Aside0.mk hO
        have HB2 := Aside0.mk (below_step HB0.out hB)
        clear hO hB
        go_wp2
        go_ret
        exact ⟨_, rfl, Kd.R_lower HO2.out hs7.out, HB2.out⟩
    · rw [if_neg hbig] at h
      cases h

end Go.Proofs.YtgmbmkjdfmoanaaDoor.Q
