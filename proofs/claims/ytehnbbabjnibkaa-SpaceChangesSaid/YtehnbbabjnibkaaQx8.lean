-- Written by mp.py (a program of this repo, over the print) for this seat: functions, contracts, walks.
import Derived.Test.YtehnbbabjnibkaaQx0
import Derived.Test.YtehnbbabjnibkaaQx2
import Derived.Test.YtehnbbabjnibkaaQx3
import Derived.Test.YtehnbbabjnibkaaQx6
import Derived.Test.YtehnbbabjnibkaaQx7
namespace Go.Proofs.Ytehnbbabjnibkaa.Q
open Go.RowKit Go.Proofs.YtehnbbabjnibkaaW.PrintWords Go.Proofs.YtehnbbabjnibkaaW.PrintLast Go.Proofs.YtehnbbabjnibkaaW.PrintMore
attribute [local go_sem] max2_int min2_int max_two min_two max_three min_three max_four min_four   -- for this text's walks alone
set_option linter.unusedVariables false
set_option linter.unusedSimpArgs false

/-! ### space_Take: function 16: by hand -/
open List (setIfInBounds_toArray set_cons_zero set_cons_succ)
set_option maxHeartbeats 8000000 in
set_option maxRecDepth 100000 in
theorem space_Take.step (k : Nat) (a0_0 a0_1 a0_2 a0_3 : Int) (g1 g2 g3 : Nat) (A : Option Addr) (c : Nat) (vs : Value) (m : List ByteArray) (s : List Int) (z p b : Int) (t : ByteArray) (w0 w : World)
  (hB : Below w0.heap.size w0 w) (h1 : w.heap[g1]? = some (.cells #[.slice A m.length c] 24 (0, 0))) (h2 : w.heap[g2]? = some (.cells #[vs] 30 (0, 0)))
  (h3 : w.heap[g3]? = some (.cells #[.int .i64 a0_0, .int .i64 a0_1, .int .i64 a0_2, .int .i64 a0_3] 23 (0, 0))) (e2 : w0.heap.size ≤ g2)
  (hO : Kd.R Kd.string 9 w w0.heap.size (fun k_ => w0.heap.size ≤ k_) (.slice A m.length c) m) (hS : Kd.R (Kd.int .i64) 3 w w0.heap.size (fun k_ => w0.heap.size ≤ k_) vs s)
  (hz : 0 ≤ z) (hz' : z < (m.length : Int)) (hl : s.length < 17592186044416)
  (hset : bitmap_Set.f (rdOf ByteArray.empty m z) p true = some t) (hbeg : layout_Begin.f k a0_0 a0_1 a0_2 a0_3 z = some b) :
  Calls Try.prog 40 #[.int .i64 z, .int .i64 p, .pointer (some ⟨g1, 0, none⟩), .pointer (some ⟨g2, 0, none⟩), .pointer (some ⟨g3, 0, none⟩)] w fun e w' => e = .returned (.tuple #[]) ∧ ∃ vs' : Value, Below w0.heap.size w0 w' ∧
   w'.heap[g1]? = some (.cells #[.slice A m.length c] 24 (0, 0)) ∧ w'.heap[g2]? = some (.cells #[vs'] 30 (0, 0)) ∧
   w'.heap[g3]? = some (.cells #[.int .i64 a0_0, .int .i64 a0_1, .int .i64 a0_2, .int .i64 a0_3] 23 (0, 0)) ∧
   Kd.R Kd.string 9 w' w0.heap.size (fun k_ => w0.heap.size ≤ k_) (.slice A m.length c) (m.set z.toNat t) ∧ Kd.R (Kd.int .i64) 3 w' w0.heap.size (fun k_ => w0.heap.size ≤ k_) vs' (s ++ [wrap64 (b + p)]) := by
 have hu_ := Try.underlying23
 have HB := Aside0.mk hB
 have B1 := Aside0.mk h1
 have B2 := Aside0.mk h2
 have B3 := Aside0.mk h3
 have HO := Aside0.mk hO
 have HS := Aside0.mk hS
 have HT := Aside0.mk hset
 have HG := Aside0.mk hbeg
 have LM := Aside0.mk hl
 have PZ := Aside0.mk hz
 have QZ := Aside0.mk hz'
 obtain ⟨g, c, eo, gb, gl, cl, HGr⟩ := Kd.R_form HO.out (by have := PZ.out; have := QZ.out; omega)
 injection eo with e1 e_ e3
 subst e1
 subst e3
 have GB := Aside0.mk gb
 clear hB h1 h2 h3 hO hS hset hbeg hl hz hz' e_ gb gl cl HGr
 go_enter Try.func40, Try.ntmps40
 try go_wp2_with fail
 have n0_ := Aside0.mk (Kd.R_drew HO.out)
 have n1_ := Aside0.mk (Kd.R_drew HS.out)
 have n2_ := Aside0.mk (blk_drew B1.out)
 have n3_ := Aside0.mk (blk_drew B2.out)
 have n4_ := Aside0.mk (blk_drew B3.out)
 have n5_ := Aside0.mk (below_drew1 HB.out)
 clear HO HS B1 B2 B3 HB
 have HO := n0_; have HS := n1_; have B1 := n2_; have B2 := n3_; have B3 := n4_; have HB := n5_
 clear n0_ n1_ n2_ n3_ n4_ n5_
 have p0 := eq_true PZ.out
 have q0 := eq_true QZ.out
 refine start_ (n := 10) (S := fun w' => w'.cell? ⟨g1, 0, none⟩ = some (.slice (some ⟨g, 0, none⟩) m.length c) ∧ w'.cell? ⟨g, z.toNat, none⟩ = some (.string (rdOf ByteArray.empty m z))) (ds := [9]) #[false, false, false, false, false, false, false, false, false, false] (by kernel_rfl) rfl rfl ⟨(blk_cell B1.out 0).trans rfl, (Kd.R_celln (⟨#[]⟩ : ByteArray) HO.out z PZ.out QZ.out).1⟩ (fun hHeld => ?_)
 generalize w.drew = w1 at HO HS B1 B2 B3 HB hHeld ⊢
 refine pure_ (i := 1) (N := some 8) (v := ?_) (a' := ?_) #[false, true, false, false, false, false, false, false, false, false] rfl rfl (by kernel_rfl) (fun _ _ _ h => h) (Or.inl ⟨by rfl, ?_⟩) ?_ ?_
 rotate_left
 ·intro w'; go_simp; with_reducible rfl
 rotate_left
 ·simp only [Act.put, setIfInBounds_toArray, set_cons_zero, set_cons_succ, i64_w, i32_w]; rfl
 refine pure_ (i := 3) (N := some 10) (v := ?_) (a' := ?_) #[false, true, false, true, false, false, false, false, false, false] rfl rfl (by kernel_rfl) (fun _ _ _ h => h) (Or.inl ⟨by rfl, ?_⟩) ?_ ?_
 rotate_left
 ·intro w'; go_simp; with_reducible rfl
 rotate_left
 ·simp only [Act.put, setIfInBounds_toArray, set_cons_zero, set_cons_succ, i64_w, i32_w]; rfl
 refine pure_ (i := 6) (N := some 13) (v := ?_) (a' := ?_) #[false, true, false, true, false, false, true, false, false, false] rfl rfl (by kernel_rfl) (fun _ _ _ h => h) (Or.inl ⟨by rfl, ?_⟩) ?_ ?_
 rotate_left
 ·intro w'; go_simp; with_reducible rfl
 rotate_left
 ·simp only [Act.put, setIfInBounds_toArray, set_cons_zero, set_cons_succ, i64_w, i32_w]; rfl
 refine take_ (i := 0) (N := some 7) (v := ?_) (a' := ?_) #[true, true, false, true, false, false, true, false, false, false] rfl rfl (by kernel_rfl) (fun _ _ _ h => h) (Or.inl ⟨by rfl, ?_⟩) hHeld ?_ ?_
 rotate_left
 ·rintro w' ⟨s0, s1⟩; go_simp; with_reducible rfl
 rotate_left
 ·simp only [Act.put, setIfInBounds_toArray, set_cons_zero, set_cons_succ, i64_w, i32_w]; rfl
 refine take_ (i := 2) (N := some 9) (v := ?_) (a' := ?_) #[true, true, true, true, false, false, true, false, false, false] rfl rfl (by kernel_rfl) (fun _ _ _ h => h) (Or.inl ⟨by rfl, ?_⟩) hHeld ?_ ?_
 rotate_left
 ·rintro w' ⟨s0, s1⟩; go_simp; with_reducible rfl
 rotate_left
 ·simp only [Act.put, setIfInBounds_toArray, set_cons_zero, set_cons_succ, i64_w, i32_w]; rfl
 refine pure_ (i := 4) (N := some 11) (v := ?_) (a' := ?_) #[true, true, true, true, true, false, true, false, false, false] rfl rfl (by kernel_rfl) (fun _ _ _ h => h) (Or.inl ⟨by rfl, ?_⟩) ?_ ?_
 rotate_left
 ·intro w'; go_simp; with_reducible rfl
 rotate_left
 ·simp only [Act.put, setIfInBounds_toArray, set_cons_zero, set_cons_succ, i64_w, i32_w]; rfl
 refine take_ (i := 5) (N := some 12) (v := ?_) (a' := ?_) #[true, true, true, true, true, true, true, false, false, false] rfl rfl (by kernel_rfl) (fun _ _ _ h => h) (Or.inl ⟨by rfl, ?_⟩) hHeld ?_ ?_
 rotate_left
 ·rintro w' ⟨s0, s1⟩; go_simp; with_reducible rfl
 rotate_left
 ·simp only [Act.put, setIfInBounds_toArray, set_cons_zero, set_cons_succ, i64_w, i32_w]; rfl
 refine one_ (i := 7) (N := some 14) #[true, true, true, true, true, true, true, true, false, false] rfl rfl (by kernel_rfl) (by decide) (fun K hK => ?_)
 refine goes_ Try.func41 (by kernel_rfl) rfl #[.string (rdOf ByteArray.empty m z), .int .i64 p, .bool true] (by rfl) rfl rfl (by (try simp only [List.map_toArray, List.map_cons, List.map_nil]); first | done | rfl) ?_
 with_reducible refine (bitmap_Set.calls _ p true t _ HT.out).mono ?_
 rintro e w2 ⟨rfl, hb⟩
 refine ⟨_, rfl, ?_⟩
 have n0_ := Aside0.mk (Kd.R_below HO.out hb)
 have n1_ := Aside0.mk (Kd.R_below HS.out hb)
 have n2_ := Aside0.mk (blk_below B1.out hb)
 have n3_ := Aside0.mk (blk_below B2.out hb)
 have n4_ := Aside0.mk (blk_below B3.out hb)
 have n5_ := Aside0.mk (below_step HB.out hb)
 clear HO HS B1 B2 B3 HB hb
 have HO := n0_; have HS := n1_; have B1 := n2_; have B2 := n3_; have B3 := n4_; have HB := n5_
 clear n0_ n1_ n2_ n3_ n4_ n5_
 obtain ⟨hy_, hz_⟩ := Kd.R_celln (⟨#[]⟩ : ByteArray) HO.out z PZ.out QZ.out
 refine hK.out _ _ ⟨(blk_cell B1.out 0).trans rfl, hy_⟩ (fun hHeld => ?_)
 clear hK K
 refine norm_ (a' := ?_) ?_ ?_
 rotate_left
 ·show Act.put _ (some 14) _ = _
  simp only [Act.put, setIfInBounds_toArray, set_cons_zero, set_cons_succ, i64_w, i32_w]; rfl
 refine pure_ (i := 8) (N := some 15) (v := ?_) (a' := ?_) #[true, true, true, true, true, true, true, true, true, false] rfl rfl (by kernel_rfl) (fun _ _ _ h => h) (Or.inl ⟨by rfl, ?_⟩) ?_ ?_
 rotate_left
 ·intro w'; go_simp; with_reducible rfl
 rotate_left
 ·simp only [Act.put, setIfInBounds_toArray, set_cons_zero, set_cons_succ, i64_w, i32_w]; rfl
 refine last_ (i := 9) (N := none) #[true, true, true, true, true, true, true, true, true, true] rfl rfl (by kernel_rfl) (by decide) (fun K hK => ?_)
 obtain ⟨hP1, hP2⟩ := Kd.R_putg HO.out z t
 refine skip_ (w1 := ?_) (by rfl) rfl ?_ ?_
 rotate_left
 ·go_simp
  rfl
 refine hK.out _ _ ?_
 clear hK K
 refine done_ (by kernel_rfl) ?_
 have hg : w2.grownBy _ (some g) := hP2
 have n1_ := Aside0.mk (Kd.R_drew (Kd.R_over' (v := .slice (some ⟨g, 0, none⟩) m.length c) HS.out (Kd.R_typed HO.out) (by decide) hg))
 have n2_ := Aside0.mk (blk_drew (blk_grown B1.out hg (Kd.R_ne HO.out B1.out (by decide))))
 have n3_ := Aside0.mk (blk_drew (blk_grown B2.out hg (Kd.R_ne HO.out B2.out (by decide))))
 have n4_ := Aside0.mk (blk_drew (blk_grown B3.out hg (Kd.R_ne HO.out B3.out (by decide))))
 have n5_ := Aside0.mk (below_drew1 (below_set (j := z.toNat) (v := .string t) HB.out GB.out))
 have n0_ := Aside0.mk (Kd.R_drew hP1)
 clear HO HS B1 B2 B3 HB hy_ hz_ hHeld hg hP1 hP2
 have HO := n0_; have HS := n1_; have B1 := n2_; have B2 := n3_; have B3 := n4_; have HB := n5_
 clear n0_ n1_ n2_ n3_ n4_ n5_
 try go_wp2_with fail
 refine start_ (n := 9) (S := fun w' => w'.cell? ⟨g2, 0, none⟩ = some vs ∧ w'.cell? ⟨g3, 0, none⟩ = some (.int .i64 a0_0) ∧ w'.cell? ⟨g3, 1, none⟩ = some (.int .i64 a0_1) ∧ w'.cell? ⟨g3, 2, none⟩ = some (.int .i64 a0_2) ∧ w'.cell? ⟨g3, 3, none⟩ = some (.int .i64 a0_3)) (ds := [8]) #[false, false, false, false, false, false, false, false, false] (by kernel_rfl) rfl rfl ⟨(blk_cell B2.out 0).trans rfl, (blk_cell B3.out 0).trans rfl, (blk_cell B3.out 1).trans rfl, (blk_cell B3.out 2).trans rfl, (blk_cell B3.out 3).trans rfl⟩ (fun hHeld => ?_)
 generalize World.drew _ = w4 at HO HS B1 B2 B3 HB hHeld ⊢
 refine pure_ (i := 2) (N := some 18) (v := ?_) (a' := ?_) #[false, false, true, false, false, false, false, false, false] rfl rfl (by kernel_rfl) (fun _ _ _ h => h) (Or.inl ⟨by rfl, ?_⟩) ?_ ?_
 rotate_left
 ·intro w'; go_simp; with_reducible rfl
 rotate_left
 ·simp only [Act.put, setIfInBounds_toArray, set_cons_zero, set_cons_succ, i64_w, i32_w]; rfl
 refine pure_ (i := 4) (N := some 20) (v := ?_) (a' := ?_) #[false, false, true, false, true, false, false, false, false] rfl rfl (by kernel_rfl) (fun _ _ _ h => h) (Or.inl ⟨by rfl, ?_⟩) ?_ ?_
 rotate_left
 ·intro w'; go_simp; with_reducible rfl
 rotate_left
 ·simp only [Act.put, setIfInBounds_toArray, set_cons_zero, set_cons_succ, i64_w, i32_w]; rfl
 refine take_ (i := 0) (N := some 16) (v := ?_) (a' := ?_) #[true, false, true, false, true, false, false, false, false] rfl rfl (by kernel_rfl) (fun _ _ _ h => h) (Or.inl ⟨by rfl, ?_⟩) hHeld ?_ ?_
 rotate_left
 ·rintro w' ⟨s0, s1, s2, s3, s4⟩; go_simp; with_reducible rfl
 rotate_left
 ·simp only [Act.put, setIfInBounds_toArray, set_cons_zero, set_cons_succ, i64_w, i32_w]; rfl
 refine take_ (i := 1) (N := some 17) (v := ?_) (a' := ?_) #[true, true, true, false, true, false, false, false, false] rfl rfl (by kernel_rfl) (fun _ _ _ h => h) (Or.inl ⟨by rfl, ?_⟩) hHeld ?_ ?_
 rotate_left
 ·rintro w' ⟨s0, s1, s2, s3, s4⟩; go_simp; with_reducible rfl
 rotate_left
 ·simp only [Act.put, setIfInBounds_toArray, set_cons_zero, set_cons_succ, i64_w, i32_w]; rfl
 refine one_ (i := 3) (N := some 19) #[true, true, true, true, true, false, false, false, false] rfl rfl (by kernel_rfl) (by decide) (fun K hK => ?_)
 refine goes_ Try.func23 (by kernel_rfl) rfl #[.agg #[.int .i64 a0_0, .int .i64 a0_1, .int .i64 a0_2, .int .i64 a0_3], .int .i64 z] (by rfl) rfl rfl (by (try simp only [List.map_toArray, List.map_cons, List.map_nil]); first | done | rfl) ?_
 with_reducible refine (layout_Begin.calls k a0_0 a0_1 a0_2 a0_3 z b _ HG.out).mono ?_
 rintro e w5 ⟨rfl, hb⟩
 refine ⟨_, rfl, ?_⟩
 have n0_ := Aside0.mk (Kd.R_below HO.out hb)
 have n1_ := Aside0.mk (Kd.R_below HS.out hb)
 have n2_ := Aside0.mk (blk_below B1.out hb)
 have n3_ := Aside0.mk (blk_below B2.out hb)
 have n4_ := Aside0.mk (blk_below B3.out hb)
 have n5_ := Aside0.mk (below_step HB.out hb)
 clear HO HS B1 B2 B3 HB hb
 have HO := n0_; have HS := n1_; have B1 := n2_; have B2 := n3_; have B3 := n4_; have HB := n5_
 clear n0_ n1_ n2_ n3_ n4_ n5_
 refine hK.out _ _ ⟨(blk_cell B2.out 0).trans rfl, (blk_cell B3.out 0).trans rfl, (blk_cell B3.out 1).trans rfl, (blk_cell B3.out 2).trans rfl, (blk_cell B3.out 3).trans rfl⟩ (fun hHeld => ?_)
 clear hK K
 refine norm_ (a' := ?_) ?_ ?_
 rotate_left
 ·show Act.put _ (some 19) _ = _
  simp only [Act.put, setIfInBounds_toArray, set_cons_zero, set_cons_succ, i64_w, i32_w]; rfl
 refine pure_ (i := 5) (N := some 21) (v := ?_) (a' := ?_) #[true, true, true, true, true, true, false, false, false] rfl rfl (by kernel_rfl) (fun _ _ _ h => h) (Or.inl ⟨by rfl, ?_⟩) ?_ ?_
 rotate_left
 ·intro w'; go_simp; with_reducible rfl
 rotate_left
 ·simp only [Act.put, setIfInBounds_toArray, set_cons_zero, set_cons_succ, i64_w, i32_w]; rfl
 refine one_ (i := 6) (N := some 22) #[true, true, true, true, true, true, true, false, false] rfl rfl (by kernel_rfl) (by decide) (fun K hK => ?_)
 refine value_ (w1 := ?_) (v := ?_) (by rfl) rfl ?_ ?_
 rotate_left 2
 ·go_simp
  constructor
  ·rfl
  ·rfl
 refine hK.out _ _ ⟨(blk_cell (blk_alloc B2.out _) 0).trans rfl, (blk_cell (blk_alloc B3.out _) 0).trans rfl, (blk_cell (blk_alloc B3.out _) 1).trans rfl, (blk_cell (blk_alloc B3.out _) 2).trans rfl, (blk_cell (blk_alloc B3.out _) 3).trans rfl⟩ (fun hHeld => ?_)
 clear hK K
 refine norm_ (a' := ?_) ?_ ?_
 rotate_left
 ·show Act.put _ (some 22) _ = _
  simp only [Act.put, setIfInBounds_toArray, set_cons_zero, set_cons_succ, i64_w, i32_w]; rfl
 refine one_ (i := 7) (N := some 23) #[true, true, true, true, true, true, true, true, false] rfl rfl (by kernel_rfl) (by decide) (fun K hK => ?_)
 refine Kd.R_append_step (Kd.int .i64) (w0 := w0) w0.heap.size (by rfl) (.tmp 16) (.tmp 22) 30 3 (.int .i64 0) 8 rfl Try.underlying30 info3 rfl (by decide) (by omega) vs s (wrap64 (b + p)) [.int .i64 (wrap64 (b + p))] (fun k_ => w0.heap.size ≤ k_) (fun _ => False) rfl rfl ?aP (fun _ hk => hk.elim) ?aF ?aO ?aB ?aS ?aL ?_
 (case aP => exact rfl)
 (case aB => exact HB.out)
 (case aF => exact (fun k_ hk => Nat.le_trans (below_size HB.out) hk))
 (case aO => exact HS.out)
 (case aS => exact below_size HB.out)
 (case aL => have := LM.out; omega)
 intro v1 w7 ho hb hg hat
 have n0_ := Aside0.mk (Kd.R_over' HO.out (Kd.R_typed HS.out) (by decide) hg)
 have n2_ := Aside0.mk (blk_grown B1.out hg (Kd.R_ne HS.out B1.out (by decide)))
 have n3_ := Aside0.mk (blk_grown B2.out hg (Kd.R_ne HS.out B2.out (by decide)))
 have n4_ := Aside0.mk (blk_grown B3.out hg (Kd.R_ne HS.out B3.out (by decide)))
 clear HO HS B1 B2 B3 HB hg hat
 have HO := n0_; have HS := Aside0.mk ho; have B1 := n2_; have B2 := n3_; have B3 := n4_; have HB := Aside0.mk hb
 clear n0_ n2_ n3_ n4_ ho hb
 obtain ⟨A2, c2, ev⟩ := Kd.R_slice HS.out
 simp only [List.length_append, List.length_cons, List.length_nil, Nat.zero_add] at ev
 subst ev
 refine hK.out _ _ ⟨(blk_cell B2.out 0).trans rfl, (blk_cell B3.out 0).trans rfl, (blk_cell B3.out 1).trans rfl, (blk_cell B3.out 2).trans rfl, (blk_cell B3.out 3).trans rfl⟩ (fun hHeld => ?_)
 clear hK K
 refine norm_ (a' := ?_) ?_ ?_
 rotate_left
 ·show Act.put _ (some 23) _ = _
  simp only [Act.put, setIfInBounds_toArray, set_cons_zero, set_cons_succ, i64_w, i32_w]; rfl
 refine last_ (i := 8) (N := none) #[true, true, true, true, true, true, true, true, true] rfl rfl (by kernel_rfl) (by decide) (fun K hK => ?_)
 have hs_ : w7.cell? ⟨g2, 0, none⟩ = some vs := (blk_cell B2.out 0).trans rfl
 have hfs_ := blk_frozen B2.out 0
 refine skip_ (w1 := ?_) (by rfl) rfl ?_ ?_
 rotate_left
 ·go_simp
  rfl
 refine hK.out _ _ ?_
 clear hK K
 refine done_ (by kernel_rfl) ?_
 try go_wp2
 go_end0
 have d1 : g1 ≠ g2 := by
  rintro rfl
  have h1 := B1.out.symm.trans B2.out
  injection h1 with h1
  injection h1 with _ h1
  exact absurd h1 (by decide)
 have d3 : g3 ≠ g2 := by
  rintro rfl
  have h1 := B3.out.symm.trans B2.out
  injection h1 with h1
  injection h1 with _ h1
  exact absurd h1 (by decide)
 exact ⟨rfl, _, below_set HB.out e2, blk_far B1.out d1 _, blk_put B2.out 0 _ rfl, blk_far B3.out d3 _, Kd.R_set HO.out B2.out (by decide) 0 _, Kd.R_set HS.out B2.out (by decide) 0 _⟩
def space_Take.l0 (a0_0 a0_1 a0_2 a0_3 n : Int) : Nat → List ByteArray → List Int → Int → Option (List ByteArray × List Int × Bool)
 | 0, _, _, _ => none
 | k + 1, m, s, z => if (s.length : Int) < n then (if 0 ≤ z then (if z < (m.length : Int) then
   (bitmap_First.f k (rdOf ByteArray.empty m z) 2).bind fun p => if p < 0 then space_Take.l0 a0_0 a0_1 a0_2 a0_3 n k m s (Int.tmod (wrap64 (z + 1)) 4) else (if p ≥ a0_3 then space_Take.l0 a0_0 a0_1 a0_2 a0_3 n k m s (Int.tmod (wrap64 (z + 1)) 4) else
    (bitmap_Set.f (rdOf ByteArray.empty m z) p true).bind fun t => (layout_Begin.f k a0_0 a0_1 a0_2 a0_3 z).bind fun b =>
     if s.length < 17592186044416 then space_Take.l0 a0_0 a0_1 a0_2 a0_3 n k (m.set z.toNat t) (s ++ [wrap64 (b + p)]) z else none) else none) else none) else some (m, s, true)
def space_Take.f (k : Nat) (a0_0 a0_1 a0_2 a0_3 : Int) (l1 : List ByteArray) (a2 a3 : Int) : Option (List ByteArray × List Int × Bool) :=
 if a2 < 0 then some (l1, [], false) else if a2 ≥ 4 then some (l1, [], false) else if a3 < 0 then some (l1, [], false) else
 (space_Right.f k a0_0 a0_1 a0_2 a0_3 l1).bind fun r => if r = true then (space_Free.f k a0_0 a0_1 a0_2 a0_3 l1).bind fun fr => if fr < a3 then some (l1, [], false) else (slices_Clone_string_string.f l1).bind fun m => space_Take.l0 a0_0 a0_1 a0_2 a0_3 a3 k m [] a2 else some (l1, [], false)
theorem space_Take.mono_l : ∀ k a0 a1 a2 a3 n m s z, LeO (space_Take.l0 a0 a1 a2 a3 n k m s z) (space_Take.l0 a0 a1 a2 a3 n (k + 1) m s z)
 | 0, _, _, _, _, _, _, _, _ => fun r h => by simp [space_Take.l0] at h
 | k + 1, a0, a1, a2, a3, n, m, s, z => by
  have ih := space_Take.mono_l k
  rw [space_Take.l0, space_Take.l0]
  repeat' first
   | (with_reducible exact ih _ _ _ _ _ _ _ _)
   | (with_reducible exact bitmap_First.mono _ _ _)
   | (with_reducible exact layout_Begin.mono _ _ _ _ _ _)
   | (with_reducible exact LeO.refl _)
   | (with_reducible exact LeO.none _)
   | (with_reducible refine LeO.ite ?_ ?_)
   | (with_reducible refine LeO.bind ?_ (fun _ => ?_))
theorem space_Take.mono : ∀ a0 a1 a2 a3 a4 a5 a6 k, LeO (space_Take.f k a0 a1 a2 a3 a4 a5 a6) (space_Take.f (k + 1) a0 a1 a2 a3 a4 a5 a6) := by
 intro a0 a1 a2 a3 a4 a5 a6 k
 unfold space_Take.f
 repeat' first
   | (with_reducible exact space_Take.mono_l _ _ _ _ _ _ _ _ _)
   | (with_reducible exact space_Right.mono _ _ _ _ _ _)
   | (with_reducible exact space_Free.mono _ _ _ _ _ _)
   | (with_reducible exact LeO.refl _)
   | (with_reducible exact LeO.none _)
   | (with_reducible refine LeO.ite ?_ ?_)
   | (with_reducible refine LeO.bind ?_ (fun _ => ?_))
set_option maxHeartbeats 8000000 in
set_option maxRecDepth 100000 in
theorem space_Take.calls (k : Nat) (a0_0 : Int) (a0_1 : Int) (a0_2 : Int) (a0_3 : Int) (P1_ : Nat → Prop) (A1 : Option Addr) (c1 : Nat) (l1 : List ByteArray) (a2 : Int) (a3 : Int) (r1 : List ByteArray) (r2 : List Int) (r3 : Bool) (w : World) (hs1 : Kd.V Kd.string 9 w w.heap.size (fun k_ => P1_ k_) (.slice A1 l1.length c1) l1) (h : space_Take.f k a0_0 a0_1 a0_2 a0_3 l1 a2 a3 = some (r1, r2, r3)) :
  Calls Try.prog 16 #[.agg #[.int .i64 a0_0, .int .i64 a0_1, .int .i64 a0_2, .int .i64 a0_3], .slice A1 l1.length c1, .int .i64 a2, .int .i64 a3] w fun e w' => ∃ v0_ v1_ : Value, e = .returned (.tuple #[v0_, v1_, .bool r3]) ∧ Kd.V Kd.string 9 w' w.heap.size (fun k_ => (P1_ k_ ∨ w.heap.size ≤ k_) ∧ some k_ ≠ (v1_ : Value).ownBlock) v0_ r1 ∧ Kd.R (Kd.int .i64) 3 w' w.heap.size (fun k_ => (w.heap.size ≤ k_)) v1_ r2 ∧ Below w.heap.size w w' := by
 have hu_ := Try.underlying23
 have HO := Aside0.mk hs1
 have HB := Aside0.mk (Below.refl w.heap.size w)
 clear hs1
 unfold space_Take.f at h
 by_cases c1 : a2 < 0
 ·rw [if_pos c1] at h
  simp only [Option.some.injEq, Prod.mk.injEq] at h
  obtain ⟨rfl, rfl, rfl⟩ := h
  have b1 : decide (a2 < 0) = true := decide_eq_true c1
  go_enter Try.func16, Try.ntmps16
  go_wp2_with (first | ((with_reducible refine gate_dst (N := 4) rfl ?_); (try (refine gate_guard (by rfl) ?_; dsimp only)); refine box_event ?hg (N := 4) ?hd (cs := #[.int .i64 a0_0, .int .i64 a0_1, .int .i64 a0_2, .int .i64 a0_3]) (t := 23) ?hr ?_; (case hd => rfl); (case hg => rfl); (case hr => first | (go_simp; done) | (go_simp; rfl)); intro g3 hg w7 hbox hb; have n0_ := Aside0.mk (Kd.V_below (Kd.V_elderB HO.out g3 (Nat.le_of_eq hg.symm)) hb); have n1_ := Aside0.mk (below_step HB.out hb); have B3 := Aside0.mk hbox; have GE3 := Aside0.mk (show w.heap.size ≤ g3 from Nat.le_of_eq hg.symm); clear HO HB; have HO := n0_; have HB := n1_; clear n0_ n1_ hb hbox hg; have hcz0 : w7.cell? ⟨g3, 0, none⟩ = some (.int .i64 a0_0) := (blk_cell B3.out 0).trans rfl; have hcz1 : w7.cell? ⟨g3, 1, none⟩ = some (.int .i64 a0_1) := (blk_cell B3.out 1).trans rfl; have hcz2 : w7.cell? ⟨g3, 2, none⟩ = some (.int .i64 a0_2) := (blk_cell B3.out 2).trans rfl; have hcz3 : w7.cell? ⟨g3, 3, none⟩ = some (.int .i64 a0_3) := (blk_cell B3.out 3).trans rfl; have hfz0 := blk_frozen B3.out 0; have hfz1 := blk_frozen B3.out 1; have hfz2 := blk_frozen B3.out 2; have hfz3 := blk_frozen B3.out 3) | fail)
  (try (go_step3; go_wp2_with fail; (try (go_step3; go_wp2_with fail))))
  (try rw [Exit.noGoto_ret])
  go_ret3
  exact ⟨_, _, rfl, Kd.V_mono HO.out (fun _ hk => ⟨.inl hk.1, by simp [Value.ownBlock]⟩), Kd.R_nil _ _ _ _ _, HB.out⟩
 rw [if_neg c1] at h
 have b1 : decide (a2 < 0) = false := decide_eq_false c1
 by_cases c2 : a2 ≥ 4
 ·rw [if_pos c2] at h
  simp only [Option.some.injEq, Prod.mk.injEq] at h
  obtain ⟨rfl, rfl, rfl⟩ := h
  have b2 : decide (4 ≤ a2) = true := decide_eq_true c2
  go_enter Try.func16, Try.ntmps16
  go_wp2_with (first | ((with_reducible refine gate_dst (N := 4) rfl ?_); (try (refine gate_guard (by rfl) ?_; dsimp only)); refine box_event ?hg (N := 4) ?hd (cs := #[.int .i64 a0_0, .int .i64 a0_1, .int .i64 a0_2, .int .i64 a0_3]) (t := 23) ?hr ?_; (case hd => rfl); (case hg => rfl); (case hr => first | (go_simp; done) | (go_simp; rfl)); intro g3 hg w7 hbox hb; have n0_ := Aside0.mk (Kd.V_below (Kd.V_elderB HO.out g3 (Nat.le_of_eq hg.symm)) hb); have n1_ := Aside0.mk (below_step HB.out hb); have B3 := Aside0.mk hbox; have GE3 := Aside0.mk (show w.heap.size ≤ g3 from Nat.le_of_eq hg.symm); clear HO HB; have HO := n0_; have HB := n1_; clear n0_ n1_ hb hbox hg; have hcz0 : w7.cell? ⟨g3, 0, none⟩ = some (.int .i64 a0_0) := (blk_cell B3.out 0).trans rfl; have hcz1 : w7.cell? ⟨g3, 1, none⟩ = some (.int .i64 a0_1) := (blk_cell B3.out 1).trans rfl; have hcz2 : w7.cell? ⟨g3, 2, none⟩ = some (.int .i64 a0_2) := (blk_cell B3.out 2).trans rfl; have hcz3 : w7.cell? ⟨g3, 3, none⟩ = some (.int .i64 a0_3) := (blk_cell B3.out 3).trans rfl; have hfz0 := blk_frozen B3.out 0; have hfz1 := blk_frozen B3.out 1; have hfz2 := blk_frozen B3.out 2; have hfz3 := blk_frozen B3.out 3) | fail)
  (try (go_step3; go_wp2_with fail; (try (go_step3; go_wp2_with fail))))
  (try rw [Exit.noGoto_ret])
  go_ret3
  exact ⟨_, _, rfl, Kd.V_mono HO.out (fun _ hk => ⟨.inl hk.1, by simp [Value.ownBlock]⟩), Kd.R_nil _ _ _ _ _, HB.out⟩
 rw [if_neg c2] at h
 have b2 : decide (4 ≤ a2) = false := decide_eq_false c2
 by_cases c3 : a3 < 0
 ·rw [if_pos c3] at h
  simp only [Option.some.injEq, Prod.mk.injEq] at h
  obtain ⟨rfl, rfl, rfl⟩ := h
  have b3 : decide (a3 < 0) = true := decide_eq_true c3
  go_enter Try.func16, Try.ntmps16
  go_wp2_with (first | ((with_reducible refine gate_dst (N := 4) rfl ?_); (try (refine gate_guard (by rfl) ?_; dsimp only)); refine box_event ?hg (N := 4) ?hd (cs := #[.int .i64 a0_0, .int .i64 a0_1, .int .i64 a0_2, .int .i64 a0_3]) (t := 23) ?hr ?_; (case hd => rfl); (case hg => rfl); (case hr => first | (go_simp; done) | (go_simp; rfl)); intro g3 hg w7 hbox hb; have n0_ := Aside0.mk (Kd.V_below (Kd.V_elderB HO.out g3 (Nat.le_of_eq hg.symm)) hb); have n1_ := Aside0.mk (below_step HB.out hb); have B3 := Aside0.mk hbox; have GE3 := Aside0.mk (show w.heap.size ≤ g3 from Nat.le_of_eq hg.symm); clear HO HB; have HO := n0_; have HB := n1_; clear n0_ n1_ hb hbox hg; have hcz0 : w7.cell? ⟨g3, 0, none⟩ = some (.int .i64 a0_0) := (blk_cell B3.out 0).trans rfl; have hcz1 : w7.cell? ⟨g3, 1, none⟩ = some (.int .i64 a0_1) := (blk_cell B3.out 1).trans rfl; have hcz2 : w7.cell? ⟨g3, 2, none⟩ = some (.int .i64 a0_2) := (blk_cell B3.out 2).trans rfl; have hcz3 : w7.cell? ⟨g3, 3, none⟩ = some (.int .i64 a0_3) := (blk_cell B3.out 3).trans rfl; have hfz0 := blk_frozen B3.out 0; have hfz1 := blk_frozen B3.out 1; have hfz2 := blk_frozen B3.out 2; have hfz3 := blk_frozen B3.out 3) | fail)
  (try (go_step3; go_wp2_with fail; (try (go_step3; go_wp2_with fail))))
  (try rw [Exit.noGoto_ret])
  go_ret3
  exact ⟨_, _, rfl, Kd.V_mono HO.out (fun _ hk => ⟨.inl hk.1, by simp [Value.ownBlock]⟩), Kd.R_nil _ _ _ _ _, HB.out⟩
 rw [if_neg c3] at h
 have b3 : decide (a3 < 0) = false := decide_eq_false c3
 obtain ⟨r, hr, h⟩ := Option.bind_eq_some_iff.mp h
 have HRt := Aside0.mk hr
 have H := Aside0.mk h
 clear hr h
 go_enter Try.func16, Try.ntmps16
 go_wp2_with (first | ((with_reducible refine gate_dst (N := 4) rfl ?_); (try (refine gate_guard (by rfl) ?_; dsimp only)); refine box_event ?hg (N := 4) ?hd (cs := #[.int .i64 a0_0, .int .i64 a0_1, .int .i64 a0_2, .int .i64 a0_3]) (t := 23) ?hr ?_; (case hd => rfl); (case hg => rfl); (case hr => first | (go_simp; done) | (go_simp; rfl)); intro g3 hg w7 hbox hb; have n0_ := Aside0.mk (Kd.V_below (Kd.V_elderB HO.out g3 (Nat.le_of_eq hg.symm)) hb); have n1_ := Aside0.mk (below_step HB.out hb); have B3 := Aside0.mk hbox; have GE3 := Aside0.mk (show w.heap.size ≤ g3 from Nat.le_of_eq hg.symm); clear HO HB; have HO := n0_; have HB := n1_; clear n0_ n1_ hb hbox hg; have hcz0 : w7.cell? ⟨g3, 0, none⟩ = some (.int .i64 a0_0) := (blk_cell B3.out 0).trans rfl; have hcz1 : w7.cell? ⟨g3, 1, none⟩ = some (.int .i64 a0_1) := (blk_cell B3.out 1).trans rfl; have hcz2 : w7.cell? ⟨g3, 2, none⟩ = some (.int .i64 a0_2) := (blk_cell B3.out 2).trans rfl; have hcz3 : w7.cell? ⟨g3, 3, none⟩ = some (.int .i64 a0_3) := (blk_cell B3.out 3).trans rfl; have hfz0 := blk_frozen B3.out 0; have hfz1 := blk_frozen B3.out 1; have hfz2 := blk_frozen B3.out 2; have hfz3 := blk_frozen B3.out 3) | fail)
 (try (go_step3; go_wp2_with fail; (try (go_step3; go_wp2_with fail))))
 refine (space_Right.calls k a0_0 a0_1 a0_2 a0_3 _ _ l1 r _ (Kd.V_reads' HO.out).2.2 (Kd.V_reads' HO.out).2.1 HRt.out).mono ?_
 rintro e w8 ⟨rfl, hb⟩
 have n0_ := Aside0.mk (Kd.V_below HO.out hb)
 have n1_ := Aside0.mk (below_step HB.out hb)
 have n2_ := Aside0.mk (blk_below B3.out hb)
 clear HO HB B3 hb hcz0 hcz1 hcz2 hcz3 hfz0 hfz1 hfz2 hfz3
 have HO := n0_; have HB := n1_; have B3 := n2_
 clear n0_ n1_ n2_
 have hcz0 : w8.cell? ⟨g3, 0, none⟩ = some (.int .i64 a0_0) := (blk_cell B3.out 0).trans rfl
 have hcz1 : w8.cell? ⟨g3, 1, none⟩ = some (.int .i64 a0_1) := (blk_cell B3.out 1).trans rfl
 have hcz2 : w8.cell? ⟨g3, 2, none⟩ = some (.int .i64 a0_2) := (blk_cell B3.out 2).trans rfl
 have hcz3 : w8.cell? ⟨g3, 3, none⟩ = some (.int .i64 a0_3) := (blk_cell B3.out 3).trans rfl
 have hfz0 := blk_frozen B3.out 0
 have hfz1 := blk_frozen B3.out 1
 have hfz2 := blk_frozen B3.out 2
 have hfz3 := blk_frozen B3.out 3
 have h := H.out
 clear H
 cases r with
 | false =>
  rw [if_neg (by decide)] at h
  simp only [Option.some.injEq, Prod.mk.injEq] at h
  obtain ⟨rfl, rfl, rfl⟩ := h
  go_wp2
  (try rw [Exit.noGoto_ret])
  go_ret3
  exact ⟨_, _, rfl, Kd.V_mono HO.out (fun _ hk => ⟨.inl hk.1, by simp [Value.ownBlock]⟩), Kd.R_nil _ _ _ _ _, HB.out⟩
 | true =>
  rw [if_pos rfl] at h
  obtain ⟨fr, hfr, h⟩ := Option.bind_eq_some_iff.mp h
  have HF := Aside0.mk hfr
  have H := Aside0.mk h
  clear hfr h
  go_wp2_with fail
  refine (space_Free.calls k a0_0 a0_1 a0_2 a0_3 _ _ l1 fr _ (Kd.V_reads' HO.out).2.2 (Kd.V_reads' HO.out).2.1 HF.out).mono ?_
  rintro e w9 ⟨rfl, hb⟩
  have n0_ := Aside0.mk (Kd.V_below HO.out hb)
  have n1_ := Aside0.mk (below_step HB.out hb)
  have n2_ := Aside0.mk (blk_below B3.out hb)
  clear HO HB B3 hb hcz0 hcz1 hcz2 hcz3 hfz0 hfz1 hfz2 hfz3
  have HO := n0_; have HB := n1_; have B3 := n2_
  clear n0_ n1_ n2_
  have h := H.out
  clear H
  by_cases c4 : fr < a3
  ·rw [if_pos c4] at h
   have b4 : decide (fr < a3) = true := decide_eq_true c4
   simp only [Option.some.injEq, Prod.mk.injEq] at h
   obtain ⟨rfl, rfl, rfl⟩ := h
   go_wp2
   (try rw [Exit.noGoto_ret])
   go_ret3
   exact ⟨_, _, rfl, Kd.V_mono HO.out (fun _ hk => ⟨.inl hk.1, by simp [Value.ownBlock]⟩), Kd.R_nil _ _ _ _ _, HB.out⟩
  rw [if_neg c4] at h
  have b4 : decide (fr < a3) = false := decide_eq_false c4
  obtain ⟨m0, hm0, h⟩ := Option.bind_eq_some_iff.mp h
  have HM := Aside0.mk hm0
  have H := Aside0.mk h
  clear hm0 h
  go_wp2_with fail
  refine (slices_Clone_string_string.calls _ _ l1 m0 _ (Kd.V_reads' HO.out).2.2 (Kd.V_reads' HO.out).2.1 HM.out).mono ?_
  rintro e w10 ⟨v10, rfl, hR, hb⟩
  obtain ⟨A10, c10, rfl⟩ := Kd.R_slice hR
  have n0_ := Aside0.mk (Kd.R_mono (Kd.R_lower (Kd.R_bound hR) (below_size HB.out)) (ok' := fun k_ => w.heap.size ≤ k_) (fun k_ hk => Nat.le_trans (below_size HB.out) hk.2.1))
  have n1_ := Aside0.mk (below_step HB.out hb)
  have n2_ := Aside0.mk (blk_below B3.out hb)
  clear HO HB B3 hb hR
  have HO := n0_; have HB := n1_; have B3 := n2_
  clear n0_ n1_ n2_
  have GE2 := Aside0.mk (show w.heap.size ≤ w10.heap.size + 1 from Nat.le_succ_of_le (below_size HB.out))
  go_wp2
  (try (go_step3; go_wp2; (try (go_step3; go_wp2))))
  go_loopg [14] k (fun kq v14 w' => ∃ (m : List ByteArray) (s : List Int) (z : Int) (vs : Value), v14 = .int .i64 z ∧ Aside0 (space_Take.l0 a0_0 a0_1 a0_2 a0_3 a3 kq m s z = some (r1, r2, r3)) ∧ Aside0 (kq ≤ k) ∧ Aside0 (Below w.heap.size w w') ∧ Aside0 (w'.heap[w10.heap.size]? = some (.cells #[.slice A10 m.length c10] 24 (0, 0))) ∧ Aside0 (w'.heap[w10.heap.size + 1]? = some (.cells #[vs] 30 (0, 0))) ∧ Aside0 (w'.heap[g3]? = some (.cells #[.int .i64 a0_0, .int .i64 a0_1, .int .i64 a0_2, .int .i64 a0_3] 23 (0, 0))) ∧ Aside0 (Kd.R Kd.string 9 w' w.heap.size (fun k_ => w.heap.size ≤ k_) (.slice A10 m.length c10) m) ∧ Aside0 (Kd.R (Kd.int .i64) 3 w' w.heap.size (fun k_ => w.heap.size ≤ k_) vs s))
  case atStart => exact ⟨m0, [], a2, .slice none 0 0, rfl, H, ⟨Nat.le_refl _⟩, ⟨below_alloc (below_alloc HB.out _) _⟩, ⟨blk_alloc (heap_alloc_new w10 _) _⟩, ⟨by have e := heap_alloc_new (w10.alloc (.cells #[.slice A10 m0.length c10] 24)) (.cells #[.slice none 0 0] 30); simpa using e⟩, ⟨blk_alloc (blk_alloc B3.out _) _⟩, ⟨Kd.R_alloc (Kd.R_alloc HO.out _) _⟩, ⟨Kd.R_nil _ _ _ _ _⟩⟩
  case round =>
   clear H HO HB B3 HRt HF HM
   obtain ⟨m, s, z, vs, rfl, HA, HK, HB, B1, B2, B3, HO, HS⟩ := hrel
   cases gk with
   | zero => exact absurd HA.out (by simp [space_Take.l0])
   | succ k1 =>
    have H := HA.out
    clear HA
    rw [space_Take.l0] at H
    obtain ⟨A2, c2, ev⟩ := Kd.R_slice HS.out
    subst ev
    have hd1 : wr.cell? ⟨w10.heap.size, 0, none⟩ = some (.slice A10 m.length c10) := (blk_cell B1.out 0).trans rfl
    have hd2 : wr.cell? ⟨w10.heap.size + 1, 0, none⟩ = some (.slice A2 s.length c2) := (blk_cell B2.out 0).trans rfl
    have he1 := blk_frozen B1.out 0
    have he2 := blk_frozen B2.out 0
    have hcz0 : wr.cell? ⟨g3, 0, none⟩ = some (.int .i64 a0_0) := (blk_cell B3.out 0).trans rfl
    have hcz1 : wr.cell? ⟨g3, 1, none⟩ = some (.int .i64 a0_1) := (blk_cell B3.out 1).trans rfl
    have hcz2 : wr.cell? ⟨g3, 2, none⟩ = some (.int .i64 a0_2) := (blk_cell B3.out 2).trans rfl
    have hcz3 : wr.cell? ⟨g3, 3, none⟩ = some (.int .i64 a0_3) := (blk_cell B3.out 3).trans rfl
    have hfz0 := blk_frozen B3.out 0
    have hfz1 := blk_frozen B3.out 1
    have hfz2 := blk_frozen B3.out 2
    have hfz3 := blk_frozen B3.out 3
    by_cases q1 : (s.length : Int) < a3
    ·rw [if_pos q1] at H
     have d1 : decide ((s.length : Int) < a3) = true := decide_eq_true q1
     by_cases q2 : 0 ≤ z
     ·rw [if_pos q2] at H
      by_cases q3 : z < (m.length : Int)
      ·rw [if_pos q3] at H
       obtain ⟨p, hp, H⟩ := Option.bind_eq_some_iff.mp H
       have HP := Aside0.mk hp
       clear hp
       have H0 := Aside0.mk H
       clear H
       obtain ⟨ad, e_, hx0⟩ := Kd.at_string (Kd.R_reads' HO.out).2.2 z q2 q3
       cases e_
       have PZ := Aside0.mk q2
       have QZ := Aside0.mk q3
       have t2 := eq_true q2
       have t3 := eq_true q3
       clear q1 q2 q3
       go_wp2_with fail
       refine (bitmap_First.calls k1 _ 2 p _ HP.out).mono ?_
       rintro e w11 ⟨rfl, hb⟩
       have n0_ := Aside0.mk (Kd.R_below HO.out hb)
       have n1_ := Aside0.mk (Kd.R_below HS.out hb)
       have n2_ := Aside0.mk (blk_below B1.out hb)
       have n3_ := Aside0.mk (blk_below B2.out hb)
       have n4_ := Aside0.mk (blk_below B3.out hb)
       have n5_ := Aside0.mk (below_step HB.out hb)
       clear HO HS B1 B2 B3 HB hb hd1 hd2 he1 he2 hx0 hcz0 hcz1 hcz2 hcz3 hfz0 hfz1 hfz2 hfz3
       have HO := n0_; have HS := n1_; have B1 := n2_; have B2 := n3_; have B3 := n4_; have HB := n5_
       clear n0_ n1_ n2_ n3_ n4_ n5_
       have hcz0 : w11.cell? ⟨g3, 0, none⟩ = some (.int .i64 a0_0) := (blk_cell B3.out 0).trans rfl
       have hcz1 : w11.cell? ⟨g3, 1, none⟩ = some (.int .i64 a0_1) := (blk_cell B3.out 1).trans rfl
       have hcz2 : w11.cell? ⟨g3, 2, none⟩ = some (.int .i64 a0_2) := (blk_cell B3.out 2).trans rfl
       have hcz3 : w11.cell? ⟨g3, 3, none⟩ = some (.int .i64 a0_3) := (blk_cell B3.out 3).trans rfl
       have hfz0 := blk_frozen B3.out 0
       have hfz1 := blk_frozen B3.out 1
       have hfz2 := blk_frozen B3.out 2
       have hfz3 := blk_frozen B3.out 3
       have H := H0.out
       clear H0
       by_cases q4 : p < 0
       ·rw [if_pos q4] at H
        have d4 : decide (p < 0) = true := decide_eq_true q4
        have H1 := Aside0.mk H
        clear H q4
        go_wp2
        (try (go_step3; go_wp2; (try (go_step3; go_wp2))))
        go_roundg k1
        case measure => have := HK.out; omega
        case rel => exact ⟨m, s, _, _, rfl, H1, ⟨by have := HK.out; omega⟩, HB, B1, B2, B3, HO, HS⟩
       ·rw [if_neg q4] at H
        have d4 : decide (p < 0) = false := decide_eq_false q4
        by_cases q5 : p ≥ a0_3
        ·rw [if_pos q5] at H
         have d5 : decide (a0_3 ≤ p) = true := decide_eq_true q5
         have H1 := Aside0.mk H
         clear H q4 q5
         go_wp2
         (try (go_step3; go_wp2; (try (go_step3; go_wp2))))
         go_roundg k1
         case measure => have := HK.out; omega
         case rel => exact ⟨m, s, _, _, rfl, H1, ⟨by have := HK.out; omega⟩, HB, B1, B2, B3, HO, HS⟩
        ·rw [if_neg q5] at H
         have d5 : decide (a0_3 ≤ p) = false := decide_eq_false q5
         obtain ⟨t, ht, H⟩ := Option.bind_eq_some_iff.mp H
         obtain ⟨b, hb, H⟩ := Option.bind_eq_some_iff.mp H
         by_cases q6 : s.length < 17592186044416
         ·rw [if_pos q6] at H
          have HT := Aside0.mk ht
          have HG := Aside0.mk hb
          have LM := Aside0.mk q6
          have H1 := Aside0.mk H
          clear ht hb q6 H q4 q5
          go_wp2_with fail
          (try (go_step3; go_wp2_with fail; (try (go_step3; go_wp2_with fail))))
          refine (space_Take.step k1 a0_0 a0_1 a0_2 a0_3 _ _ g3 _ c10 _ m s z p b t w _ HB.out B1.out B2.out B3.out GE2.out HO.out HS.out PZ.out QZ.out LM.out HT.out HG.out).mono ?_
          rintro e w12 ⟨rfl, vs', hB, h1, h2, h3, hO, hS⟩
          have hl_ : (m.set z.toNat t).length = m.length := List.length_set ..
          rw [← hl_] at h1 hO
          have HB := Aside0.mk hB
          have B1 := Aside0.mk h1
          have B2 := Aside0.mk h2
          have B3 := Aside0.mk h3
          have HO := Aside0.mk hO
          have HS := Aside0.mk hS
          clear hB h1 h2 h3 hO hS
          go_wp2
          (try (go_step3; go_wp2; (try (go_step3; go_wp2))))
          go_roundg k1
          case measure => have := HK.out; omega
          case rel => exact ⟨_, _, _, _, rfl, H1, ⟨by have := HK.out; omega⟩, HB, B1, B2, B3, HO, HS⟩
         ·rw [if_neg q6] at H
          exact absurd H (by simp)
      ·rw [if_neg q3] at H
       exact absurd H (by simp)
     ·rw [if_neg q2] at H
      exact absurd H (by simp)
    ·rw [if_neg q1] at H
     have d1 : decide ((s.length : Int) < a3) = false := decide_eq_false q1
     simp only [Option.some.injEq, Prod.mk.injEq] at H
     obtain ⟨rfl, rfl, rfl⟩ := H
     go_wp2
     (try (go_step3; go_wp2; (try (go_step3; go_wp2))))
     have n0_ := Aside0.mk (Kd.R_drew HO.out)
     have n1_ := Aside0.mk (Kd.R_drew HS.out)
     have n2_ := Aside0.mk (blk_drew B1.out)
     have n3_ := Aside0.mk (blk_drew B2.out)
     have n5_ := Aside0.mk (below_drew1 HB.out)
     clear HO HS B1 B2 B3 HB hd1 hd2 he1 he2 hcz0 hcz1 hcz2 hcz3 hfz0 hfz1 hfz2 hfz3
     have HO := n0_; have HS := n1_; have B1 := n2_; have B2 := n3_; have HB := n5_
     clear n0_ n1_ n2_ n3_ n5_
     refine start_ (n := 5) (S := fun w' => w'.cell? ⟨w10.heap.size, 0, none⟩ = some (.slice A10 m.length c10) ∧ w'.cell? ⟨w10.heap.size + 1, 0, none⟩ = some (.slice A2 s.length c2)) (ds := []) #[false, false, false, false, false] (by kernel_rfl) rfl rfl ⟨(blk_cell B1.out 0).trans rfl, (blk_cell B2.out 0).trans rfl⟩ (fun hHeld => ?_)
     generalize wr.drew = w13 at HO HS B1 B2 HB hHeld ⊢
     refine take_ (i := 0) (N := some 68) (v := ?_) (a' := ?_) #[true, false, false, false, false] rfl rfl (by kernel_rfl) (fun _ _ _ h => h) (Or.inl ⟨by rfl, ?_⟩) hHeld ?_ ?_
     rotate_left
     ·rintro w' ⟨s0, s1⟩; go_simp; with_reducible rfl
     rotate_left
     ·simp only [Act.put, setIfInBounds_toArray, set_cons_zero, set_cons_succ, i64_w, i32_w]; rfl
     refine take_ (i := 1) (N := some 69) (v := ?_) (a' := ?_) #[true, true, false, false, false] rfl rfl (by kernel_rfl) (fun _ _ _ h => h) (Or.inl ⟨by rfl, ?_⟩) hHeld ?_ ?_
     rotate_left
     ·rintro w' ⟨s0, s1⟩; go_simp; with_reducible rfl
     rotate_left
     ·simp only [Act.put, setIfInBounds_toArray, set_cons_zero, set_cons_succ, i64_w, i32_w]; rfl
     refine pure_ (i := 2) (N := some 8) (v := ?_) (a' := ?_) #[true, true, true, false, false] rfl rfl (by kernel_rfl) (fun _ _ _ h => h) (Or.inl ⟨by rfl, ?_⟩) ?_ ?_
     rotate_left
     ·intro w'; go_simp; with_reducible rfl
     rotate_left
     ·simp only [Act.put, setIfInBounds_toArray, set_cons_zero, set_cons_succ, i64_w, i32_w]; rfl
     refine pure_ (i := 3) (N := some 9) (v := ?_) (a' := ?_) #[true, true, true, true, false] rfl rfl (by kernel_rfl) (fun _ _ _ h => h) (Or.inl ⟨by rfl, ?_⟩) ?_ ?_
     rotate_left
     ·intro w'; go_simp; with_reducible rfl
     rotate_left
     ·simp only [Act.put, setIfInBounds_toArray, set_cons_zero, set_cons_succ, i64_w, i32_w]; rfl
     refine pure_ (i := 4) (N := some 10) (v := ?_) (a' := ?_) #[true, true, true, true, true] rfl rfl (by kernel_rfl) (fun _ _ _ h => h) (Or.inl ⟨by rfl, ?_⟩) ?_ ?_
     rotate_left
     ·intro w'; go_simp; with_reducible rfl
     rotate_left
     ·simp only [Act.put, setIfInBounds_toArray, set_cons_zero, set_cons_succ, i64_w, i32_w]; rfl
     refine done_ (by kernel_rfl) ?_
     try go_wp2
     (try rw [Exit.noGoto_ret])
     go_ret3
     have HA_ := Kd.R_apart' HO.out (Kd.R_typed HS.out) (by decide)
     exact ⟨_, _, rfl, Kd.V_mono (Kd.R_V HA_) (fun k_ hk => ⟨.inr hk.1, hk.2⟩), HS.out, HB.out⟩

/-! ### layout_Zone: function 24 -/
def layout_Zone.l0 : Nat → Int → Int → Int → Int → Int → Int → Option (Int)
 | 0, _, _, _, _, _, _ => none
 | k + 1, x1, x9, x186000, x186001, x186002, x186003 => if x9 < 4 then ((layout_Begin.f k x186000 x186001 x186002 x186003 x9).bind fun t187 => (if x1 ≥ t187 then (if x1 < (wrap64 (t187 + x186003)) then (some x9) else (layout_Zone.l0 k x1 (wrap64 (x9 + 1)) x186000 x186001 x186002 x186003)) else (layout_Zone.l0 k x1 (wrap64 (x9 + 1)) x186000 x186001 x186002 x186003))) else (some (-1))
def layout_Zone.f (k : Nat) (a0_0 : Int) (a0_1 : Int) (a0_2 : Int) (a0_3 : Int) (a1 : Int) : Option (Int) := (layout_is.f k a0_0 a0_1 a0_2 a0_3).bind fun t186 => (if t186 = true then (layout_Zone.l0 k a1 0 a0_0 a0_1 a0_2 a0_3) else (some (-1)))
theorem layout_Zone.mono_l : ∀ k, (∀ y0 y1 y2 y3 y4 y5, LeO (layout_Zone.l0 k y0 y1 y2 y3 y4 y5) (layout_Zone.l0 (k + 1) y0 y1 y2 y3 y4 y5))
 | 0 => fun _ _ _ _ _ _ r h => by simp [layout_Zone.l0] at h
 | k + 1 => by
  have ih0 := layout_Zone.mono_l k
  ·intro y0 y1 y2 y3 y4 y5
   unfold layout_Zone.l0
   repeat' first
   | (with_reducible exact ih0 _ _ _ _ _ _)
   | (with_reducible exact layout_Begin.mono _ _ _ _ _ _)
   | (with_reducible exact layout_is.mono _ _ _ _ _)
   | (with_reducible exact LeO.refl _)
   | (with_reducible exact LeO.none _)
   | (with_reducible refine LeO.ite ?_ ?_)
   | (with_reducible refine LeO.bind ?_ (fun _ => ?_))
   | exact ih0 _ _ _ _ _ _
   | exact layout_Begin.mono _ _ _ _ _ _
   | exact layout_is.mono _ _ _ _ _
   | exact LeO.none _
   | refine LeO.ite ?_ ?_
   | refine LeO.bind ?_ (fun _ => ?_)
theorem layout_Zone.mono : ∀ a0 a1 a2 a3 a4 k, LeO (layout_Zone.f k a0 a1 a2 a3 a4) (layout_Zone.f (k + 1) a0 a1 a2 a3 a4) := by
 intro a0 a1 a2 a3 a4 k
 have ih0 := layout_Zone.mono_l k
 unfold layout_Zone.f
 repeat' first
   | (with_reducible exact ih0 _ _ _ _ _ _)
   | (with_reducible exact layout_Begin.mono _ _ _ _ _ _)
   | (with_reducible exact layout_is.mono _ _ _ _ _)
   | (with_reducible exact LeO.refl _)
   | (with_reducible exact LeO.none _)
   | (with_reducible refine LeO.ite ?_ ?_)
   | (with_reducible refine LeO.bind ?_ (fun _ => ?_))
   | exact ih0 _ _ _ _ _ _
   | exact layout_Begin.mono _ _ _ _ _ _
   | exact layout_is.mono _ _ _ _ _
   | exact LeO.none _
   | refine LeO.ite ?_ ?_
   | refine LeO.bind ?_ (fun _ => ?_)
set_option maxHeartbeats 8000000 in
set_option maxRecDepth 100000 in
theorem layout_Zone.calls (k : Nat) (a0_0 : Int) (a0_1 : Int) (a0_2 : Int) (a0_3 : Int) (a1 : Int) (r : Int) (w : World) (h : layout_Zone.f k a0_0 a0_1 a0_2 a0_3 a1 = some r) :
  Calls Try.prog 24 #[.agg #[.int .i64 a0_0, .int .i64 a0_1, .int .i64 a0_2, .int .i64 a0_3], .int .i64 a1] w fun e w' => e = .returned (.int .i64 r) ∧ Below w.heap.size w w' := by
 have hu23 := Try.underlying23
 have HB := Aside0.mk (Below.refl w.heap.size w)
 have H : ((layout_is.f k a0_0 a0_1 a0_2 a0_3).bind fun t186 => (if t186 = true then (layout_Zone.l0 k a1 0 a0_0 a0_1 a0_2 a0_3) else (some (-1)))) = some r := h
 clear h
 replace H := Option.bind_eq_some_iff.mp H
 obtain ⟨t186, A30, H⟩ := H
 replace H : (if t186 = true then (layout_Zone.l0 k a1 0 a0_0 a0_1 a0_2 a0_3) else (some (-1))) = some r := H
 have A3 := Aside0.mk A30
 clear A30
 by_cases c4 : t186 = true
 ·subst c4
  have H1 : (layout_Zone.l0 k a1 0 a0_0 a0_1 a0_2 a0_3) = some r := by rw [if_pos rfl] at H; exact H
  clear H
  have H := H1
  clear H1
  have H' := Aside0.mk H
  clear H
  go_enter Try.func24, Try.ntmps24
  go_wp2_with (first | ((with_reducible refine gate_dst (N := 2) rfl ?_); refine box_event ?hg (N := 2) ?hd (cs := #[.int .i64 a0_0, .int .i64 a0_1, .int .i64 a0_2, .int .i64 a0_3]) (t := 23) ?hr ?_; (case hd => rfl); (case hg => rfl); (case hr => first | (go_simp; done) | (go_simp; rfl)); intro gb185 hg w5 hbox hb; have n0_ := Aside0.mk (below_step (by repeat (first | (with_reducible first | exact HB.out | apply below_alloc | apply pw_below_drewN | apply below_drew1) | exact HB.out)) hb); have n1_ := Aside0.mk (hbox); have n2_ := Aside0.mk ((by rw [hg]; exact (below_size (by repeat (first | (with_reducible first | exact HB.out | apply below_alloc | apply pw_below_drewN | apply below_drew1) | exact HB.out))) : w.heap.size ≤ gb185)); have n3_ := Aside0.mk ((by rw [hg]; exact (below_size (by repeat (first | (with_reducible first | exact HB.out | apply below_alloc | apply pw_below_drewN | apply below_drew1) | exact HB.out))) : w.heap.size ≤ gb185)); clear HB; have HB := n0_; have BK185 := n1_; have GW185 := n2_; have GE185 := n3_; clear n0_ n1_ n2_ n3_; clear hb hbox hg; have hcz6_0 : w5.cell? ⟨gb185, 0, none⟩ = some (.int .i64 a0_0) := (blk_cell BK185.out 0).trans rfl; have hcz6_1 : w5.cell? ⟨gb185, 1, none⟩ = some (.int .i64 a0_1) := (blk_cell BK185.out 1).trans rfl; have hcz6_2 : w5.cell? ⟨gb185, 2, none⟩ = some (.int .i64 a0_2) := (blk_cell BK185.out 2).trans rfl; have hcz6_3 : w5.cell? ⟨gb185, 3, none⟩ = some (.int .i64 a0_3) := (blk_cell BK185.out 3).trans rfl; have hfz6_0 := blk_frozen BK185.out 0; have hfz6_1 := blk_frozen BK185.out 1; have hfz6_2 := blk_frozen BK185.out 2; have hfz6_3 := blk_frozen BK185.out 3) | ((with_reducible refine gate_callee (f := 45) rfl ?_); refine goesL_ (some 8) rfl rfl Try.func45 (by kernel_rfl) rfl #[.agg #[.int .i64 a0_0, .int .i64 a0_1, .int .i64 a0_2, .int .i64 a0_3]] rfl (by (try simp only [List.map_toArray, List.map_cons, List.map_nil]); first | done | rfl | (simp only [List.length_drop, List.length_take]; rfl)) ?_; (with_reducible refine (layout_is.calls k a0_0 a0_1 a0_2 a0_3 true _ A3.out).mono ?_); rintro e w7 ⟨rfl, hb⟩; refine ⟨_, rfl, ?_⟩; have n0_ := Aside0.mk (blk_below (g := gb185) (o := .cells #[.int .i64 a0_0, .int .i64 a0_1, .int .i64 a0_2, .int .i64 a0_3] 23 (0, 0)) (by (with_reducible repeat (first | refine blk_drewN ?_ _ | refine blk_drew ?_ | refine blk_alloc ?_ _)); exact BK185.out) hb); have n1_ := Aside0.mk (below_step (by repeat (first | (with_reducible first | exact HB.out | apply below_alloc | apply pw_below_drewN | apply below_drew1 | refine below_set ?_ GE185.out) | exact HB.out)) hb); clear BK185; clear HB; have BK185 := n0_; have HB := n1_; clear n0_ n1_; (try clear hb); (try clear hb2); (try clear hk); (try clear hi)))
  go_loopg [9] k (fun kq v9 w' => ∃ (x9_1 : Int), v9 = .int .i64 x9_1 ∧ Aside0 (layout_Zone.l0 kq a1 x9_1 a0_0 a0_1 a0_2 a0_3 = some r) ∧ Aside0 (kq ≤ k) ∧ Aside0 (w'.heap[gb185]? = some (.cells #[.int .i64 a0_0, .int .i64 a0_1, .int .i64 a0_2, .int .i64 a0_3] 23 (0, 0))) ∧ Aside0 (Below w.heap.size w w'))
  case atStart => exact ⟨(0), (by first | rfl | (simp; done) | (simp [*]; done)), H', ⟨Nat.le_refl _⟩, ⟨by (with_reducible repeat (first | refine blk_drewN ?_ _ | refine blk_drew ?_ | refine blk_alloc ?_ _)); exact BK185.out⟩, ⟨by repeat (first | (with_reducible first | exact HB.out | apply below_alloc | apply pw_below_drewN | apply below_drew1 | refine below_set ?_ GE185.out) | exact HB.out)⟩⟩
  case round =>
   clear H'
   try clear c2
   try clear p2
   try clear c4
   try clear hcz6_0
   try clear hcz6_1
   try clear hcz6_2
   try clear hcz6_3
   try clear hfz6_0
   try clear hfz6_1
   try clear hfz6_2
   try clear hfz6_3
   obtain ⟨x9_1, rfl, HA, HK1, BK185, HB⟩ := hrel
   cases gk with
   | zero => exact absurd HA.out (by simp [layout_Zone.l0])
   | succ k1 =>
    have H := HA.out
    clear HA
    simp only [layout_Zone.l0] at H
    by_cases c8 : x9_1 < 4
    ·rw [if_pos c8] at H
     have c8b0 : decide (x9_1 < 4) = true := decide_eq_true c8
     clear c8
     replace H := Option.bind_eq_some_iff.mp H
     obtain ⟨t187, A90, H⟩ := H
     replace H : (if a1 ≥ t187 then (if a1 < (wrap64 (t187 + a0_3)) then (some x9_1) else (layout_Zone.l0 k1 a1 (wrap64 (x9_1 + 1)) a0_0 a0_1 a0_2 a0_3)) else (layout_Zone.l0 k1 a1 (wrap64 (x9_1 + 1)) a0_0 a0_1 a0_2 a0_3)) = some r := H
     have A9 := Aside0.mk A90
     clear A90
     by_cases c10 : a1 ≥ t187
     ·rw [if_pos c10] at H
      have c10b0 : decide (t187 ≤ a1) = true := decide_eq_true c10
      clear c10
      by_cases c11 : a1 < (wrap64 (t187 + a0_3))
      ·rw [if_pos c11] at H
       have c11b0 : decide (a1 < (wrap64 (t187 + a0_3))) = true := decide_eq_true c11
       clear c11
       obtain rfl := Option.some.inj H
       have hcz12_0 : wr.cell? ⟨gb185, 0, none⟩ = some (.int .i64 a0_0) := (blk_cell BK185.out 0).trans rfl
       have hcz12_1 : wr.cell? ⟨gb185, 1, none⟩ = some (.int .i64 a0_1) := (blk_cell BK185.out 1).trans rfl
       have hcz12_2 : wr.cell? ⟨gb185, 2, none⟩ = some (.int .i64 a0_2) := (blk_cell BK185.out 2).trans rfl
       have hcz12_3 : wr.cell? ⟨gb185, 3, none⟩ = some (.int .i64 a0_3) := (blk_cell BK185.out 3).trans rfl
       have hfz12_0 := blk_frozen BK185.out 0
       have hfz12_1 := blk_frozen BK185.out 1
       have hfz12_2 := blk_frozen BK185.out 2
       have hfz12_3 := blk_frozen BK185.out 3
       go_wp2_with (first | ((with_reducible refine gate_callee (f := 23) rfl ?_); refine goesL_ (some 14) rfl rfl Try.func23 (by kernel_rfl) rfl #[.agg #[.int .i64 a0_0, .int .i64 a0_1, .int .i64 a0_2, .int .i64 a0_3], .int .i64 x9_1] rfl (by (try simp only [List.map_toArray, List.map_cons, List.map_nil]); first | done | rfl | (simp only [List.length_drop, List.length_take]; rfl)) ?_; (with_reducible refine (layout_Begin.calls k1 a0_0 a0_1 a0_2 a0_3 x9_1 t187 _ A9.out).mono ?_); rintro e w13 ⟨rfl, hb⟩; refine ⟨_, rfl, ?_⟩; have n0_ := Aside0.mk (blk_below (g := gb185) (o := .cells #[.int .i64 a0_0, .int .i64 a0_1, .int .i64 a0_2, .int .i64 a0_3] 23 (0, 0)) (by (with_reducible repeat (first | refine blk_drewN ?_ _ | refine blk_drew ?_ | refine blk_alloc ?_ _)); exact BK185.out) hb); have n1_ := Aside0.mk (below_step (by repeat (first | (with_reducible first | exact HB.out | apply below_alloc | apply pw_below_drewN | apply below_drew1 | refine below_set ?_ GE185.out) | exact HB.out)) hb); clear BK185; clear HB; have BK185 := n0_; have HB := n1_; clear n0_ n1_; (try clear hb); (try clear hb2); (try clear hk); (try clear hi); have hcz14_0 : w13.cell? ⟨gb185, 0, none⟩ = some (.int .i64 a0_0) := (blk_cell BK185.out 0).trans rfl; have hcz14_1 : w13.cell? ⟨gb185, 1, none⟩ = some (.int .i64 a0_1) := (blk_cell BK185.out 1).trans rfl; have hcz14_2 : w13.cell? ⟨gb185, 2, none⟩ = some (.int .i64 a0_2) := (blk_cell BK185.out 2).trans rfl; have hcz14_3 : w13.cell? ⟨gb185, 3, none⟩ = some (.int .i64 a0_3) := (blk_cell BK185.out 3).trans rfl; have hfz14_0 := blk_frozen BK185.out 0; have hfz14_1 := blk_frozen BK185.out 1; have hfz14_2 := blk_frozen BK185.out 2; have hfz14_3 := blk_frozen BK185.out 3))
       go_ret
       exact ⟨by first | rfl | (simp [errW_none, errW_some] <;> rfl) | (simp [*, errW_none, errW_some] <;> rfl), by repeat (first | (with_reducible first | exact HB.out | apply below_alloc | apply pw_below_drewN | apply below_drew1 | refine below_set ?_ GE185.out) | exact HB.out)⟩
      ·rw [if_neg c11] at H
       have c11b0 : decide (a1 < (wrap64 (t187 + a0_3))) = false := decide_eq_false c11
       clear c11
       have H' := Aside0.mk H
       clear H
       have hcz15_0 : wr.cell? ⟨gb185, 0, none⟩ = some (.int .i64 a0_0) := (blk_cell BK185.out 0).trans rfl
       have hcz15_1 : wr.cell? ⟨gb185, 1, none⟩ = some (.int .i64 a0_1) := (blk_cell BK185.out 1).trans rfl
       have hcz15_2 : wr.cell? ⟨gb185, 2, none⟩ = some (.int .i64 a0_2) := (blk_cell BK185.out 2).trans rfl
       have hcz15_3 : wr.cell? ⟨gb185, 3, none⟩ = some (.int .i64 a0_3) := (blk_cell BK185.out 3).trans rfl
       have hfz15_0 := blk_frozen BK185.out 0
       have hfz15_1 := blk_frozen BK185.out 1
       have hfz15_2 := blk_frozen BK185.out 2
       have hfz15_3 := blk_frozen BK185.out 3
       go_wp2_with (first | ((with_reducible refine gate_callee (f := 23) rfl ?_); refine goesL_ (some 14) rfl rfl Try.func23 (by kernel_rfl) rfl #[.agg #[.int .i64 a0_0, .int .i64 a0_1, .int .i64 a0_2, .int .i64 a0_3], .int .i64 x9_1] rfl (by (try simp only [List.map_toArray, List.map_cons, List.map_nil]); first | done | rfl | (simp only [List.length_drop, List.length_take]; rfl)) ?_; (with_reducible refine (layout_Begin.calls k1 a0_0 a0_1 a0_2 a0_3 x9_1 t187 _ A9.out).mono ?_); rintro e w16 ⟨rfl, hb⟩; refine ⟨_, rfl, ?_⟩; have n0_ := Aside0.mk (blk_below (g := gb185) (o := .cells #[.int .i64 a0_0, .int .i64 a0_1, .int .i64 a0_2, .int .i64 a0_3] 23 (0, 0)) (by (with_reducible repeat (first | refine blk_drewN ?_ _ | refine blk_drew ?_ | refine blk_alloc ?_ _)); exact BK185.out) hb); have n1_ := Aside0.mk (below_step (by repeat (first | (with_reducible first | exact HB.out | apply below_alloc | apply pw_below_drewN | apply below_drew1 | refine below_set ?_ GE185.out) | exact HB.out)) hb); clear BK185; clear HB; have BK185 := n0_; have HB := n1_; clear n0_ n1_; (try clear hb); (try clear hb2); (try clear hk); (try clear hi); have hcz17_0 : w16.cell? ⟨gb185, 0, none⟩ = some (.int .i64 a0_0) := (blk_cell BK185.out 0).trans rfl; have hcz17_1 : w16.cell? ⟨gb185, 1, none⟩ = some (.int .i64 a0_1) := (blk_cell BK185.out 1).trans rfl; have hcz17_2 : w16.cell? ⟨gb185, 2, none⟩ = some (.int .i64 a0_2) := (blk_cell BK185.out 2).trans rfl; have hcz17_3 : w16.cell? ⟨gb185, 3, none⟩ = some (.int .i64 a0_3) := (blk_cell BK185.out 3).trans rfl; have hfz17_0 := blk_frozen BK185.out 0; have hfz17_1 := blk_frozen BK185.out 1; have hfz17_2 := blk_frozen BK185.out 2; have hfz17_3 := blk_frozen BK185.out 3))
       go_roundg k1
       case measure => have := HK1.out; omega
       case rel => exact ⟨(wrap64 (x9_1 + 1)), (by first | rfl | (simp; done) | (simp [*]; done)), H', ⟨by have := HK1.out; omega⟩, ⟨by (with_reducible repeat (first | refine blk_drewN ?_ _ | refine blk_drew ?_ | refine blk_alloc ?_ _)); exact BK185.out⟩, ⟨by repeat (first | (with_reducible first | exact HB.out | apply below_alloc | apply pw_below_drewN | apply below_drew1 | refine below_set ?_ GE185.out) | exact HB.out)⟩⟩
     ·rw [if_neg c10] at H
      have c10b0 : decide (t187 ≤ a1) = false := decide_eq_false c10
      clear c10
      have H' := Aside0.mk H
      clear H
      have hcz18_0 : wr.cell? ⟨gb185, 0, none⟩ = some (.int .i64 a0_0) := (blk_cell BK185.out 0).trans rfl
      have hcz18_1 : wr.cell? ⟨gb185, 1, none⟩ = some (.int .i64 a0_1) := (blk_cell BK185.out 1).trans rfl
      have hcz18_2 : wr.cell? ⟨gb185, 2, none⟩ = some (.int .i64 a0_2) := (blk_cell BK185.out 2).trans rfl
      have hcz18_3 : wr.cell? ⟨gb185, 3, none⟩ = some (.int .i64 a0_3) := (blk_cell BK185.out 3).trans rfl
      have hfz18_0 := blk_frozen BK185.out 0
      have hfz18_1 := blk_frozen BK185.out 1
      have hfz18_2 := blk_frozen BK185.out 2
      have hfz18_3 := blk_frozen BK185.out 3
      go_wp2_with (first | ((with_reducible refine gate_callee (f := 23) rfl ?_); refine goesL_ (some 14) rfl rfl Try.func23 (by kernel_rfl) rfl #[.agg #[.int .i64 a0_0, .int .i64 a0_1, .int .i64 a0_2, .int .i64 a0_3], .int .i64 x9_1] rfl (by (try simp only [List.map_toArray, List.map_cons, List.map_nil]); first | done | rfl | (simp only [List.length_drop, List.length_take]; rfl)) ?_; (with_reducible refine (layout_Begin.calls k1 a0_0 a0_1 a0_2 a0_3 x9_1 t187 _ A9.out).mono ?_); rintro e w19 ⟨rfl, hb⟩; refine ⟨_, rfl, ?_⟩; have n0_ := Aside0.mk (blk_below (g := gb185) (o := .cells #[.int .i64 a0_0, .int .i64 a0_1, .int .i64 a0_2, .int .i64 a0_3] 23 (0, 0)) (by (with_reducible repeat (first | refine blk_drewN ?_ _ | refine blk_drew ?_ | refine blk_alloc ?_ _)); exact BK185.out) hb); have n1_ := Aside0.mk (below_step (by repeat (first | (with_reducible first | exact HB.out | apply below_alloc | apply pw_below_drewN | apply below_drew1 | refine below_set ?_ GE185.out) | exact HB.out)) hb); clear BK185; clear HB; have BK185 := n0_; have HB := n1_; clear n0_ n1_; (try clear hb); (try clear hb2); (try clear hk); (try clear hi)))
      go_roundg k1
      case measure => have := HK1.out; omega
      case rel => exact ⟨(wrap64 (x9_1 + 1)), (by first | rfl | (simp; done) | (simp [*]; done)), H', ⟨by have := HK1.out; omega⟩, ⟨by (with_reducible repeat (first | refine blk_drewN ?_ _ | refine blk_drew ?_ | refine blk_alloc ?_ _)); exact BK185.out⟩, ⟨by repeat (first | (with_reducible first | exact HB.out | apply below_alloc | apply pw_below_drewN | apply below_drew1 | refine below_set ?_ GE185.out) | exact HB.out)⟩⟩
    ·rw [if_neg c8] at H
     have c8b0 : decide (x9_1 < 4) = false := decide_eq_false c8
     clear c8
     obtain rfl := Option.some.inj H
     go_wp2
     go_ret
     exact ⟨by first | rfl | (simp [errW_none, errW_some] <;> rfl) | (simp [*, errW_none, errW_some] <;> rfl), by repeat (first | (with_reducible first | exact HB.out | apply below_alloc | apply pw_below_drewN | apply below_drew1 | refine below_set ?_ GE185.out) | exact HB.out)⟩
 ·replace c4 := Bool.eq_false_iff.mpr c4
  subst c4
  have H1 : (some (-1)) = some r := by rw [if_neg (show ¬ (false = true) by decide)] at H; exact H
  clear H
  have H := H1
  clear H1
  obtain rfl := Option.some.inj H
  go_enter Try.func24, Try.ntmps24
  go_wp2_with (first | ((with_reducible refine gate_dst (N := 2) rfl ?_); refine box_event ?hg (N := 2) ?hd (cs := #[.int .i64 a0_0, .int .i64 a0_1, .int .i64 a0_2, .int .i64 a0_3]) (t := 23) ?hr ?_; (case hd => rfl); (case hg => rfl); (case hr => first | (go_simp; done) | (go_simp; rfl)); intro gb185 hg w20 hbox hb; have n0_ := Aside0.mk (below_step (by repeat (first | (with_reducible first | exact HB.out | apply below_alloc | apply pw_below_drewN | apply below_drew1) | exact HB.out)) hb); have n1_ := Aside0.mk (hbox); have n2_ := Aside0.mk ((by rw [hg]; exact (below_size (by repeat (first | (with_reducible first | exact HB.out | apply below_alloc | apply pw_below_drewN | apply below_drew1) | exact HB.out))) : w.heap.size ≤ gb185)); have n3_ := Aside0.mk ((by rw [hg]; exact (below_size (by repeat (first | (with_reducible first | exact HB.out | apply below_alloc | apply pw_below_drewN | apply below_drew1) | exact HB.out))) : w.heap.size ≤ gb185)); clear HB; have HB := n0_; have BK185 := n1_; have GW185 := n2_; have GE185 := n3_; clear n0_ n1_ n2_ n3_; clear hb hbox hg; have hcz21_0 : w20.cell? ⟨gb185, 0, none⟩ = some (.int .i64 a0_0) := (blk_cell BK185.out 0).trans rfl; have hcz21_1 : w20.cell? ⟨gb185, 1, none⟩ = some (.int .i64 a0_1) := (blk_cell BK185.out 1).trans rfl; have hcz21_2 : w20.cell? ⟨gb185, 2, none⟩ = some (.int .i64 a0_2) := (blk_cell BK185.out 2).trans rfl; have hcz21_3 : w20.cell? ⟨gb185, 3, none⟩ = some (.int .i64 a0_3) := (blk_cell BK185.out 3).trans rfl; have hfz21_0 := blk_frozen BK185.out 0; have hfz21_1 := blk_frozen BK185.out 1; have hfz21_2 := blk_frozen BK185.out 2; have hfz21_3 := blk_frozen BK185.out 3) | ((with_reducible refine gate_callee (f := 45) rfl ?_); refine goesL_ (some 8) rfl rfl Try.func45 (by kernel_rfl) rfl #[.agg #[.int .i64 a0_0, .int .i64 a0_1, .int .i64 a0_2, .int .i64 a0_3]] rfl (by (try simp only [List.map_toArray, List.map_cons, List.map_nil]); first | done | rfl | (simp only [List.length_drop, List.length_take]; rfl)) ?_; (with_reducible refine (layout_is.calls k a0_0 a0_1 a0_2 a0_3 false _ A3.out).mono ?_); rintro e w22 ⟨rfl, hb⟩; refine ⟨_, rfl, ?_⟩; have n0_ := Aside0.mk (blk_below (g := gb185) (o := .cells #[.int .i64 a0_0, .int .i64 a0_1, .int .i64 a0_2, .int .i64 a0_3] 23 (0, 0)) (by (with_reducible repeat (first | refine blk_drewN ?_ _ | refine blk_drew ?_ | refine blk_alloc ?_ _)); exact BK185.out) hb); have n1_ := Aside0.mk (below_step (by repeat (first | (with_reducible first | exact HB.out | apply below_alloc | apply pw_below_drewN | apply below_drew1 | refine below_set ?_ GE185.out) | exact HB.out)) hb); clear BK185; clear HB; have BK185 := n0_; have HB := n1_; clear n0_ n1_; (try clear hb); (try clear hb2); (try clear hk); (try clear hi)))
  go_ret
  exact ⟨by first | rfl | (simp [errW_none, errW_some] <;> rfl) | (simp [*, errW_none, errW_some] <;> rfl), by repeat (first | (with_reducible first | exact HB.out | apply below_alloc | apply pw_below_drewN | apply below_drew1 | refine below_set ?_ GE185.out) | exact HB.out)⟩

/-! ### layout_Place: function 36 -/
def layout_Place.f (k : Nat) (a0_0 : Int) (a0_1 : Int) (a0_2 : Int) (a0_3 : Int) (a1 : Int) : Option (Int) := (layout_Zone.f k a0_0 a0_1 a0_2 a0_3 a1).bind fun t189 => (if t189 < 0 then (some (-1)) else ((layout_Begin.f k a0_0 a0_1 a0_2 a0_3 t189).bind fun t190 => (some (wrap64 (a1 - t190)))))
theorem layout_Place.mono : ∀ a0 a1 a2 a3 a4 k, LeO (layout_Place.f k a0 a1 a2 a3 a4) (layout_Place.f (k + 1) a0 a1 a2 a3 a4) := by
 intro a0 a1 a2 a3 a4 k
 unfold layout_Place.f
 repeat' first
   | (with_reducible exact layout_Begin.mono _ _ _ _ _ _)
   | (with_reducible exact layout_Zone.mono _ _ _ _ _ _)
   | (with_reducible exact LeO.refl _)
   | (with_reducible exact LeO.none _)
   | (with_reducible refine LeO.ite ?_ ?_)
   | (with_reducible refine LeO.bind ?_ (fun _ => ?_))
   | exact layout_Begin.mono _ _ _ _ _ _
   | exact layout_Zone.mono _ _ _ _ _ _
   | exact LeO.none _
   | refine LeO.ite ?_ ?_
   | refine LeO.bind ?_ (fun _ => ?_)
set_option maxHeartbeats 8000000 in
set_option maxRecDepth 100000 in
theorem layout_Place.calls (k : Nat) (a0_0 : Int) (a0_1 : Int) (a0_2 : Int) (a0_3 : Int) (a1 : Int) (r : Int) (w : World) (h : layout_Place.f k a0_0 a0_1 a0_2 a0_3 a1 = some r) :
  Calls Try.prog 36 #[.agg #[.int .i64 a0_0, .int .i64 a0_1, .int .i64 a0_2, .int .i64 a0_3], .int .i64 a1] w fun e w' => e = .returned (.int .i64 r) ∧ Below w.heap.size w w' := by
 have hu23 := Try.underlying23
 have HB := Aside0.mk (Below.refl w.heap.size w)
 have H : ((layout_Zone.f k a0_0 a0_1 a0_2 a0_3 a1).bind fun t189 => (if t189 < 0 then (some (-1)) else ((layout_Begin.f k a0_0 a0_1 a0_2 a0_3 t189).bind fun t190 => (some (wrap64 (a1 - t190)))))) = some r := h
 clear h
 replace H := Option.bind_eq_some_iff.mp H
 obtain ⟨t189, A30, H⟩ := H
 replace H : (if t189 < 0 then (some (-1)) else ((layout_Begin.f k a0_0 a0_1 a0_2 a0_3 t189).bind fun t190 => (some (wrap64 (a1 - t190))))) = some r := H
 have A3 := Aside0.mk A30
 clear A30
 by_cases c4 : t189 < 0
 ·rw [if_pos c4] at H
  have c4b0 : decide (t189 < 0) = true := decide_eq_true c4
  clear c4
  obtain rfl := Option.some.inj H
  go_enter Try.func36, Try.ntmps36
  go_wp2_with (first | ((with_reducible refine gate_dst (N := 2) rfl ?_); refine box_event ?hg (N := 2) ?hd (cs := #[.int .i64 a0_0, .int .i64 a0_1, .int .i64 a0_2, .int .i64 a0_3]) (t := 23) ?hr ?_; (case hd => rfl); (case hg => rfl); (case hr => first | (go_simp; done) | (go_simp; rfl)); intro gb188 hg w5 hbox hb; have n0_ := Aside0.mk (below_step (by repeat (first | (with_reducible first | exact HB.out | apply below_alloc | apply pw_below_drewN | apply below_drew1) | exact HB.out)) hb); have n1_ := Aside0.mk (hbox); have n2_ := Aside0.mk ((by rw [hg]; exact (below_size (by repeat (first | (with_reducible first | exact HB.out | apply below_alloc | apply pw_below_drewN | apply below_drew1) | exact HB.out))) : w.heap.size ≤ gb188)); have n3_ := Aside0.mk ((by rw [hg]; exact (below_size (by repeat (first | (with_reducible first | exact HB.out | apply below_alloc | apply pw_below_drewN | apply below_drew1) | exact HB.out))) : w.heap.size ≤ gb188)); clear HB; have HB := n0_; have BK188 := n1_; have GW188 := n2_; have GE188 := n3_; clear n0_ n1_ n2_ n3_; clear hb hbox hg; have hcz6_0 : w5.cell? ⟨gb188, 0, none⟩ = some (.int .i64 a0_0) := (blk_cell BK188.out 0).trans rfl; have hcz6_1 : w5.cell? ⟨gb188, 1, none⟩ = some (.int .i64 a0_1) := (blk_cell BK188.out 1).trans rfl; have hcz6_2 : w5.cell? ⟨gb188, 2, none⟩ = some (.int .i64 a0_2) := (blk_cell BK188.out 2).trans rfl; have hcz6_3 : w5.cell? ⟨gb188, 3, none⟩ = some (.int .i64 a0_3) := (blk_cell BK188.out 3).trans rfl; have hfz6_0 := blk_frozen BK188.out 0; have hfz6_1 := blk_frozen BK188.out 1; have hfz6_2 := blk_frozen BK188.out 2; have hfz6_3 := blk_frozen BK188.out 3) | ((with_reducible refine gate_callee (f := 24) rfl ?_); refine goesL_ (some 8) rfl rfl Try.func24 (by kernel_rfl) rfl #[.agg #[.int .i64 a0_0, .int .i64 a0_1, .int .i64 a0_2, .int .i64 a0_3], .int .i64 a1] rfl (by (try simp only [List.map_toArray, List.map_cons, List.map_nil]); first | done | rfl | (simp only [List.length_drop, List.length_take]; rfl)) ?_; (with_reducible refine (layout_Zone.calls k a0_0 a0_1 a0_2 a0_3 a1 t189 _ A3.out).mono ?_); rintro e w7 ⟨rfl, hb⟩; refine ⟨_, rfl, ?_⟩; have n0_ := Aside0.mk (blk_below (g := gb188) (o := .cells #[.int .i64 a0_0, .int .i64 a0_1, .int .i64 a0_2, .int .i64 a0_3] 23 (0, 0)) (by (with_reducible repeat (first | refine blk_drewN ?_ _ | refine blk_drew ?_ | refine blk_alloc ?_ _)); exact BK188.out) hb); have n1_ := Aside0.mk (below_step (by repeat (first | (with_reducible first | exact HB.out | apply below_alloc | apply pw_below_drewN | apply below_drew1 | refine below_set ?_ GE188.out) | exact HB.out)) hb); clear BK188; clear HB; have BK188 := n0_; have HB := n1_; clear n0_ n1_; (try clear hb); (try clear hb2); (try clear hk); (try clear hi)))
  go_ret
  exact ⟨by first | rfl | (simp [errW_none, errW_some] <;> rfl) | (simp [*, errW_none, errW_some] <;> rfl), by repeat (first | (with_reducible first | exact HB.out | apply below_alloc | apply pw_below_drewN | apply below_drew1 | refine below_set ?_ GE188.out) | exact HB.out)⟩
 ·rw [if_neg c4] at H
  have c4b0 : decide (t189 < 0) = false := decide_eq_false c4
  clear c4
  replace H := Option.bind_eq_some_iff.mp H
  obtain ⟨t190, A80, H⟩ := H
  replace H : (some (wrap64 (a1 - t190))) = some r := H
  have A8 := Aside0.mk A80
  clear A80
  obtain rfl := Option.some.inj H
  go_enter Try.func36, Try.ntmps36
  go_wp2_with (first | ((with_reducible refine gate_dst (N := 2) rfl ?_); refine box_event ?hg (N := 2) ?hd (cs := #[.int .i64 a0_0, .int .i64 a0_1, .int .i64 a0_2, .int .i64 a0_3]) (t := 23) ?hr ?_; (case hd => rfl); (case hg => rfl); (case hr => first | (go_simp; done) | (go_simp; rfl)); intro gb188 hg w9 hbox hb; have n0_ := Aside0.mk (below_step (by repeat (first | (with_reducible first | exact HB.out | apply below_alloc | apply pw_below_drewN | apply below_drew1) | exact HB.out)) hb); have n1_ := Aside0.mk (hbox); have n2_ := Aside0.mk ((by rw [hg]; exact (below_size (by repeat (first | (with_reducible first | exact HB.out | apply below_alloc | apply pw_below_drewN | apply below_drew1) | exact HB.out))) : w.heap.size ≤ gb188)); have n3_ := Aside0.mk ((by rw [hg]; exact (below_size (by repeat (first | (with_reducible first | exact HB.out | apply below_alloc | apply pw_below_drewN | apply below_drew1) | exact HB.out))) : w.heap.size ≤ gb188)); clear HB; have HB := n0_; have BK188 := n1_; have GW188 := n2_; have GE188 := n3_; clear n0_ n1_ n2_ n3_; clear hb hbox hg; have hcz10_0 : w9.cell? ⟨gb188, 0, none⟩ = some (.int .i64 a0_0) := (blk_cell BK188.out 0).trans rfl; have hcz10_1 : w9.cell? ⟨gb188, 1, none⟩ = some (.int .i64 a0_1) := (blk_cell BK188.out 1).trans rfl; have hcz10_2 : w9.cell? ⟨gb188, 2, none⟩ = some (.int .i64 a0_2) := (blk_cell BK188.out 2).trans rfl; have hcz10_3 : w9.cell? ⟨gb188, 3, none⟩ = some (.int .i64 a0_3) := (blk_cell BK188.out 3).trans rfl; have hfz10_0 := blk_frozen BK188.out 0; have hfz10_1 := blk_frozen BK188.out 1; have hfz10_2 := blk_frozen BK188.out 2; have hfz10_3 := blk_frozen BK188.out 3) | ((with_reducible refine gate_callee (f := 24) rfl ?_); refine goesL_ (some 8) rfl rfl Try.func24 (by kernel_rfl) rfl #[.agg #[.int .i64 a0_0, .int .i64 a0_1, .int .i64 a0_2, .int .i64 a0_3], .int .i64 a1] rfl (by (try simp only [List.map_toArray, List.map_cons, List.map_nil]); first | done | rfl | (simp only [List.length_drop, List.length_take]; rfl)) ?_; (with_reducible refine (layout_Zone.calls k a0_0 a0_1 a0_2 a0_3 a1 t189 _ A3.out).mono ?_); rintro e w11 ⟨rfl, hb⟩; refine ⟨_, rfl, ?_⟩; have n0_ := Aside0.mk (blk_below (g := gb188) (o := .cells #[.int .i64 a0_0, .int .i64 a0_1, .int .i64 a0_2, .int .i64 a0_3] 23 (0, 0)) (by (with_reducible repeat (first | refine blk_drewN ?_ _ | refine blk_drew ?_ | refine blk_alloc ?_ _)); exact BK188.out) hb); have n1_ := Aside0.mk (below_step (by repeat (first | (with_reducible first | exact HB.out | apply below_alloc | apply pw_below_drewN | apply below_drew1 | refine below_set ?_ GE188.out) | exact HB.out)) hb); clear BK188; clear HB; have BK188 := n0_; have HB := n1_; clear n0_ n1_; (try clear hb); (try clear hb2); (try clear hk); (try clear hi); have hcz12_0 : w11.cell? ⟨gb188, 0, none⟩ = some (.int .i64 a0_0) := (blk_cell BK188.out 0).trans rfl; have hcz12_1 : w11.cell? ⟨gb188, 1, none⟩ = some (.int .i64 a0_1) := (blk_cell BK188.out 1).trans rfl; have hcz12_2 : w11.cell? ⟨gb188, 2, none⟩ = some (.int .i64 a0_2) := (blk_cell BK188.out 2).trans rfl; have hcz12_3 : w11.cell? ⟨gb188, 3, none⟩ = some (.int .i64 a0_3) := (blk_cell BK188.out 3).trans rfl; have hfz12_0 := blk_frozen BK188.out 0; have hfz12_1 := blk_frozen BK188.out 1; have hfz12_2 := blk_frozen BK188.out 2; have hfz12_3 := blk_frozen BK188.out 3) | ((with_reducible refine gate_callee (f := 23) rfl ?_); refine goesL_ (some 14) rfl rfl Try.func23 (by kernel_rfl) rfl #[.agg #[.int .i64 a0_0, .int .i64 a0_1, .int .i64 a0_2, .int .i64 a0_3], .int .i64 t189] rfl (by (try simp only [List.map_toArray, List.map_cons, List.map_nil]); first | done | rfl | (simp only [List.length_drop, List.length_take]; rfl)) ?_; (with_reducible refine (layout_Begin.calls k a0_0 a0_1 a0_2 a0_3 t189 t190 _ A8.out).mono ?_); rintro e w13 ⟨rfl, hb⟩; refine ⟨_, rfl, ?_⟩; have n0_ := Aside0.mk (blk_below (g := gb188) (o := .cells #[.int .i64 a0_0, .int .i64 a0_1, .int .i64 a0_2, .int .i64 a0_3] 23 (0, 0)) (by (with_reducible repeat (first | refine blk_drewN ?_ _ | refine blk_drew ?_ | refine blk_alloc ?_ _)); exact BK188.out) hb); have n1_ := Aside0.mk (below_step (by repeat (first | (with_reducible first | exact HB.out | apply below_alloc | apply pw_below_drewN | apply below_drew1 | refine below_set ?_ GE188.out) | exact HB.out)) hb); clear BK188; clear HB; have BK188 := n0_; have HB := n1_; clear n0_ n1_; (try clear hb); (try clear hb2); (try clear hk); (try clear hi)))
  go_ret
  exact ⟨by first | rfl | (simp [errW_none, errW_some] <;> rfl) | (simp [*, errW_none, errW_some] <;> rfl), by repeat (first | (with_reducible first | exact HB.out | apply below_alloc | apply pw_below_drewN | apply below_drew1 | refine below_set ?_ GE188.out) | exact HB.out)⟩

end Go.Proofs.Ytehnbbabjnibkaa.Q
