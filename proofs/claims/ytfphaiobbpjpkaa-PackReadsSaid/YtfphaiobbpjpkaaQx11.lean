-- Written by mp.py (a program of this repo, over the print) for this seat: functions, contracts, walks.
import Derived.Test.YtfphaiobbpjpkaaQx0
import Derived.Test.YtfphaiobbpjpkaaQx1
import Derived.Test.YtfphaiobbpjpkaaQx2
import Derived.Test.YtfphaiobbpjpkaaQx8
import Derived.Test.YtfphaiobbpjpkaaQx10
namespace Go.Proofs.Ytfphaiobbpjpkaa.Q
open Go.RowKit Go.Proofs.YtfphaiobbpjpkaaW.PrintWords Go.Proofs.YtfphaiobbpjpkaaW.PrintLast Go.Proofs.YtfphaiobbpjpkaaW.PrintMore
attribute [local go_sem] max2_int min2_int max_two min_two max_three min_three max_four min_four   -- for this text's walks alone
set_option linter.unusedVariables false
set_option linter.unusedSimpArgs false

/-! ### lockgatelaw01_PackReads: function 8 -/
mutual
def lockgatelaw01_PackReads.l0 : Nat → List Int → Bool → Int → ByteArray → Bool → ByteArray → Int → Bool → Option (Bool)
  | 0, _, _, _, _, _, _, _, _ => none
  | k + 1, x1, x5, x8, x285000, x285001, x286000, x286001, x286002 => if x8 < (x1.length : Int) then (lockgatelaw01_PackReads.j1 k x1 x5 x8 (decide (x8 < 60)) x285000 x285001 x286000 x286001 x286002) else (lockgatelaw01_PackReads.j1 k x1 x5 x8 false x285000 x285001 x286000 x286001 x286002)
def lockgatelaw01_PackReads.j1 : Nat → List Int → Bool → Int → Bool → ByteArray → Bool → ByteArray → Int → Bool → Option (Bool)
  | 0, _, _, _, _, _, _, _, _, _ => none
  | k + 1, x1, x5, x8, x29, x285000, x285001, x286000, x286001, x286002 => if x29 = true then (if 0 ≤ x8 then (if x8 < (x1.length : Int) then (if (Int.tmod (rd x1 x8) 5) < 0 then (lockgatelaw01_PackReads.j2 k x1 x5 x8 (wrap64 (-(Int.tmod (rd x1 x8) 5))) x285000 x285001 x286000 x286001 x286002) else (lockgatelaw01_PackReads.j2 k x1 x5 x8 (Int.tmod (rd x1 x8) 5) x285000 x285001 x286000 x286001 x286002)) else (none)) else (none)) else (some x5)
def lockgatelaw01_PackReads.j2 : Nat → List Int → Bool → Int → Int → ByteArray → Bool → ByteArray → Int → Bool → Option (Bool)
  | 0, _, _, _, _, _, _, _, _, _ => none
  | k + 1, x1, x5, x8, x9, x285000, x285001, x286000, x286001, x286002 => if x9 = 0 then ((pack_Reader_Two.f x285000 x285001).bind fun bt287 => ((lockgateref01_Reader_Two.f k x286000 x286001 x286002).bind fun bt290 => (lockgatelaw01_PackReads.j3 k x1 x5 x8 (bt287.1 == bt290.1) bt287.2.1 bt287.2.2 bt290.2.1 bt290.2.2.1 bt290.2.2.2))) else (if x9 = 1 then ((pack_Reader_Four.f x285000 x285001).bind fun bt294 => ((lockgateref01_Reader_Four.f k x286000 x286001 x286002).bind fun bt297 => (lockgatelaw01_PackReads.j3 k x1 x5 x8 (bt294.1 == bt297.1) bt294.2.1 bt294.2.2 bt297.2.1 bt297.2.2.1 bt297.2.2.2))) else (if x9 = 2 then (if (wrap64 (x8 + 1)) < (x1.length : Int) then (if 0 ≤ (wrap64 (x8 + 1)) then ((pack_Reader_Eight.f x285000 x285001 (rd x1 (wrap64 (x8 + 1)))).bind fun bt302 => ((lockgateref01_Reader_Eight.f k x286000 x286001 x286002 (rd x1 (wrap64 (x8 + 1)))).bind fun bt305 => (lockgatelaw01_PackReads.j3 k x1 x5 x8 (bt302.1 == bt305.1) bt302.2.1 bt302.2.2 bt305.2.1 bt305.2.2.1 bt305.2.2.2))) else (none)) else ((pack_Reader_Eight.f x285000 x285001 1099511627776).bind fun bt309 => ((lockgateref01_Reader_Eight.f k x286000 x286001 x286002 1099511627776).bind fun bt312 => (lockgatelaw01_PackReads.j3 k x1 x5 x8 (bt309.1 == bt312.1) bt309.2.1 bt309.2.2 bt312.2.1 bt312.2.2.1 bt312.2.2.2)))) else (if x9 = 3 then ((pack_Reader_Text.f x285000 x285001).bind fun bt316 => ((lockgateref01_Reader_Text.f k x286000 x286001 x286002).bind fun bt319 => (lockgatelaw01_PackReads.j3 k x1 x5 x8 (bt316.1.toList == bt319.1.toList) bt316.2.1 bt316.2.2 bt319.2.1 bt319.2.2.1 bt319.2.2.2))) else (lockgatelaw01_PackReads.j3 k x1 x5 x8 true x285000 x285001 x286000 x286001 x286002))))
def lockgatelaw01_PackReads.j3 : Nat → List Int → Bool → Int → Bool → ByteArray → Bool → ByteArray → Int → Bool → Option (Bool)
  | 0, _, _, _, _, _, _, _, _, _ => none
  | k + 1, x1, x5, x8, x10, x285000, x285001, x286000, x286001, x286002 => if x10 = true then ((pack_Reader_Left.f x285000 x285001).bind fun bt323 => ((lockgateref01_Reader_Left.f x286000 x286001 x286002).bind fun bt326 => (if bt323.1 = bt326.1 then ((pack_Reader_End.f bt323.2.1 bt323.2.2).bind fun bt330 => ((lockgateref01_Reader_End.f bt326.2.1 bt326.2.2.1 bt326.2.2.2).bind fun bt333 => (if bt330.1 = bt333.1 then (lockgatelaw01_PackReads.l0 k x1 x5 (wrap64 (x8 + 1)) bt330.2.1 bt330.2.2 bt333.2.1 bt333.2.2.1 bt333.2.2.2) else (some false)))) else (some false)))) else (some false)
end
def lockgatelaw01_PackReads.f (k : Nat) (a0 : ByteArray) (l1 : List Int) : Option (Bool) := (lockgatelaw01_awake.f).bind fun t280 => ((lockgatelaw01_short.f a0 400).bind fun t281 => ((pack_Read.f t281).bind fun bt282 => (lockgatelaw01_PackReads.l0 k l1 t280 0 bt282.1 bt282.2 t281 0 false)))
theorem lockgatelaw01_PackReads.mono_l : ∀ k, (∀ y0 y1 y2 y3 y4 y5 y6 y7, LeO (lockgatelaw01_PackReads.l0 k y0 y1 y2 y3 y4 y5 y6 y7) (lockgatelaw01_PackReads.l0 (k + 1) y0 y1 y2 y3 y4 y5 y6 y7)) ∧ (∀ y0 y1 y2 y3 y4 y5 y6 y7 y8, LeO (lockgatelaw01_PackReads.j1 k y0 y1 y2 y3 y4 y5 y6 y7 y8) (lockgatelaw01_PackReads.j1 (k + 1) y0 y1 y2 y3 y4 y5 y6 y7 y8)) ∧ (∀ y0 y1 y2 y3 y4 y5 y6 y7 y8, LeO (lockgatelaw01_PackReads.j2 k y0 y1 y2 y3 y4 y5 y6 y7 y8) (lockgatelaw01_PackReads.j2 (k + 1) y0 y1 y2 y3 y4 y5 y6 y7 y8)) ∧ (∀ y0 y1 y2 y3 y4 y5 y6 y7 y8, LeO (lockgatelaw01_PackReads.j3 k y0 y1 y2 y3 y4 y5 y6 y7 y8) (lockgatelaw01_PackReads.j3 (k + 1) y0 y1 y2 y3 y4 y5 y6 y7 y8))
  | 0 => ⟨fun _ _ _ _ _ _ _ _ r h => by simp [lockgatelaw01_PackReads.l0] at h, fun _ _ _ _ _ _ _ _ _ r h => by simp [lockgatelaw01_PackReads.j1] at h, fun _ _ _ _ _ _ _ _ _ r h => by simp [lockgatelaw01_PackReads.j2] at h, fun _ _ _ _ _ _ _ _ _ r h => by simp [lockgatelaw01_PackReads.j3] at h⟩
  | k + 1 => by
    obtain ⟨ih0, ih1, ih2, ih3⟩ := lockgatelaw01_PackReads.mono_l k
    refine ⟨?_, ?_, ?_, ?_⟩
    · intro y0 y1 y2 y3 y4 y5 y6 y7
      unfold lockgatelaw01_PackReads.l0
      repeat' first
      | (with_reducible exact ih0 _ _ _ _ _ _ _ _)
      | (with_reducible exact ih1 _ _ _ _ _ _ _ _ _)
      | (with_reducible exact ih2 _ _ _ _ _ _ _ _ _)
      | (with_reducible exact ih3 _ _ _ _ _ _ _ _ _)
      | (with_reducible exact lockgateref01_Reader_Eight.mono _ _ _ _ _)
      | (with_reducible exact lockgateref01_Reader_Four.mono _ _ _ _)
      | (with_reducible exact lockgateref01_Reader_Text.mono _ _ _ _)
      | (with_reducible exact lockgateref01_Reader_Two.mono _ _ _ _)
      | (with_reducible exact LeO.refl _)
      | (with_reducible exact LeO.none _)
      | (with_reducible refine LeO.ite ?_ ?_)
      | (with_reducible refine LeO.bind ?_ (fun _ => ?_))
      | exact ih0 _ _ _ _ _ _ _ _
      | exact ih1 _ _ _ _ _ _ _ _ _
      | exact ih2 _ _ _ _ _ _ _ _ _
      | exact ih3 _ _ _ _ _ _ _ _ _
      | exact lockgateref01_Reader_Eight.mono _ _ _ _ _
      | exact lockgateref01_Reader_Four.mono _ _ _ _
      | exact lockgateref01_Reader_Text.mono _ _ _ _
      | exact lockgateref01_Reader_Two.mono _ _ _ _
      | exact LeO.none _
      | refine LeO.ite ?_ ?_
      | refine LeO.bind ?_ (fun _ => ?_)
    · intro y0 y1 y2 y3 y4 y5 y6 y7 y8
      unfold lockgatelaw01_PackReads.j1
      repeat' first
      | (with_reducible exact ih0 _ _ _ _ _ _ _ _)
      | (with_reducible exact ih1 _ _ _ _ _ _ _ _ _)
      | (with_reducible exact ih2 _ _ _ _ _ _ _ _ _)
      | (with_reducible exact ih3 _ _ _ _ _ _ _ _ _)
      | (with_reducible exact lockgateref01_Reader_Eight.mono _ _ _ _ _)
      | (with_reducible exact lockgateref01_Reader_Four.mono _ _ _ _)
      | (with_reducible exact lockgateref01_Reader_Text.mono _ _ _ _)
      | (with_reducible exact lockgateref01_Reader_Two.mono _ _ _ _)
      | (with_reducible exact LeO.refl _)
      | (with_reducible exact LeO.none _)
      | (with_reducible refine LeO.ite ?_ ?_)
      | (with_reducible refine LeO.bind ?_ (fun _ => ?_))
      | exact ih0 _ _ _ _ _ _ _ _
      | exact ih1 _ _ _ _ _ _ _ _ _
      | exact ih2 _ _ _ _ _ _ _ _ _
      | exact ih3 _ _ _ _ _ _ _ _ _
      | exact lockgateref01_Reader_Eight.mono _ _ _ _ _
      | exact lockgateref01_Reader_Four.mono _ _ _ _
      | exact lockgateref01_Reader_Text.mono _ _ _ _
      | exact lockgateref01_Reader_Two.mono _ _ _ _
      | exact LeO.none _
      | refine LeO.ite ?_ ?_
      | refine LeO.bind ?_ (fun _ => ?_)
    · intro y0 y1 y2 y3 y4 y5 y6 y7 y8
      unfold lockgatelaw01_PackReads.j2
      repeat' first
      | (with_reducible exact ih0 _ _ _ _ _ _ _ _)
      | (with_reducible exact ih1 _ _ _ _ _ _ _ _ _)
      | (with_reducible exact ih2 _ _ _ _ _ _ _ _ _)
      | (with_reducible exact ih3 _ _ _ _ _ _ _ _ _)
      | (with_reducible exact lockgateref01_Reader_Eight.mono _ _ _ _ _)
      | (with_reducible exact lockgateref01_Reader_Four.mono _ _ _ _)
      | (with_reducible exact lockgateref01_Reader_Text.mono _ _ _ _)
      | (with_reducible exact lockgateref01_Reader_Two.mono _ _ _ _)
      | (with_reducible exact LeO.refl _)
      | (with_reducible exact LeO.none _)
      | (with_reducible refine LeO.ite ?_ ?_)
      | (with_reducible refine LeO.bind ?_ (fun _ => ?_))
      | exact ih0 _ _ _ _ _ _ _ _
      | exact ih1 _ _ _ _ _ _ _ _ _
      | exact ih2 _ _ _ _ _ _ _ _ _
      | exact ih3 _ _ _ _ _ _ _ _ _
      | exact lockgateref01_Reader_Eight.mono _ _ _ _ _
      | exact lockgateref01_Reader_Four.mono _ _ _ _
      | exact lockgateref01_Reader_Text.mono _ _ _ _
      | exact lockgateref01_Reader_Two.mono _ _ _ _
      | exact LeO.none _
      | refine LeO.ite ?_ ?_
      | refine LeO.bind ?_ (fun _ => ?_)
    · intro y0 y1 y2 y3 y4 y5 y6 y7 y8
      unfold lockgatelaw01_PackReads.j3
      repeat' first
      | (with_reducible exact ih0 _ _ _ _ _ _ _ _)
      | (with_reducible exact ih1 _ _ _ _ _ _ _ _ _)
      | (with_reducible exact ih2 _ _ _ _ _ _ _ _ _)
      | (with_reducible exact ih3 _ _ _ _ _ _ _ _ _)
      | (with_reducible exact lockgateref01_Reader_Eight.mono _ _ _ _ _)
      | (with_reducible exact lockgateref01_Reader_Four.mono _ _ _ _)
      | (with_reducible exact lockgateref01_Reader_Text.mono _ _ _ _)
      | (with_reducible exact lockgateref01_Reader_Two.mono _ _ _ _)
      | (with_reducible exact LeO.refl _)
      | (with_reducible exact LeO.none _)
      | (with_reducible refine LeO.ite ?_ ?_)
      | (with_reducible refine LeO.bind ?_ (fun _ => ?_))
      | exact ih0 _ _ _ _ _ _ _ _
      | exact ih1 _ _ _ _ _ _ _ _ _
      | exact ih2 _ _ _ _ _ _ _ _ _
      | exact ih3 _ _ _ _ _ _ _ _ _
      | exact lockgateref01_Reader_Eight.mono _ _ _ _ _
      | exact lockgateref01_Reader_Four.mono _ _ _ _
      | exact lockgateref01_Reader_Text.mono _ _ _ _
      | exact lockgateref01_Reader_Two.mono _ _ _ _
      | exact LeO.none _
      | refine LeO.ite ?_ ?_
      | refine LeO.bind ?_ (fun _ => ?_)
theorem lockgatelaw01_PackReads.mono : ∀ a0 a1 k, LeO (lockgatelaw01_PackReads.f k a0 a1) (lockgatelaw01_PackReads.f (k + 1) a0 a1) := by
  intro a0 a1 k
  obtain ⟨ih0, ih1, ih2, ih3⟩ := lockgatelaw01_PackReads.mono_l k
  unfold lockgatelaw01_PackReads.f
  repeat' first
      | (with_reducible exact ih0 _ _ _ _ _ _ _ _)
      | (with_reducible exact ih1 _ _ _ _ _ _ _ _ _)
      | (with_reducible exact ih2 _ _ _ _ _ _ _ _ _)
      | (with_reducible exact ih3 _ _ _ _ _ _ _ _ _)
      | (with_reducible exact lockgateref01_Reader_Eight.mono _ _ _ _ _)
      | (with_reducible exact lockgateref01_Reader_Four.mono _ _ _ _)
      | (with_reducible exact lockgateref01_Reader_Text.mono _ _ _ _)
      | (with_reducible exact lockgateref01_Reader_Two.mono _ _ _ _)
      | (with_reducible exact LeO.refl _)
      | (with_reducible exact LeO.none _)
      | (with_reducible refine LeO.ite ?_ ?_)
      | (with_reducible refine LeO.bind ?_ (fun _ => ?_))
      | exact ih0 _ _ _ _ _ _ _ _
      | exact ih1 _ _ _ _ _ _ _ _ _
      | exact ih2 _ _ _ _ _ _ _ _ _
      | exact ih3 _ _ _ _ _ _ _ _ _
      | exact lockgateref01_Reader_Eight.mono _ _ _ _ _
      | exact lockgateref01_Reader_Four.mono _ _ _ _
      | exact lockgateref01_Reader_Text.mono _ _ _ _
      | exact lockgateref01_Reader_Two.mono _ _ _ _
      | exact LeO.none _
      | refine LeO.ite ?_ ?_
      | refine LeO.bind ?_ (fun _ => ?_)
set_option maxHeartbeats 8000000 in
set_option maxRecDepth 100000 in
theorem lockgatelaw01_PackReads.calls (k : Nat) (a0 : ByteArray) (A1 : Option Addr) (c1 : Nat) (l1 : List Int) (r : Bool) (w : World) (hr1 : Kd.C (Kd.int .i64) w A1 l1.length l1) (hc1 : l1.length ≤ c1) (h : lockgatelaw01_PackReads.f k a0 l1 = some r) :
    Calls Try.prog 8 #[.string a0, .slice A1 l1.length c1] w fun e w' => e = .returned (.bool r) ∧ Below w.heap.size w w' := by
  have hu49 := Try.underlying49
  have HR1 := Aside0.mk hr1
  have HC1 := Aside0.mk hc1
  clear hr1 hc1
  have HB := Aside0.mk (Below.refl w.heap.size w)
  have H : ((lockgatelaw01_awake.f).bind fun t280 => ((lockgatelaw01_short.f a0 400).bind fun t281 => ((pack_Read.f t281).bind fun bt282 => (lockgatelaw01_PackReads.l0 k l1 t280 0 bt282.1 bt282.2 t281 0 false)))) = some r := h
  clear h
  replace H := Option.bind_eq_some_iff.mp H
  obtain ⟨t280, A30, H⟩ := H
  replace H : ((lockgatelaw01_short.f a0 400).bind fun t281 => ((pack_Read.f t281).bind fun bt282 => (lockgatelaw01_PackReads.l0 k l1 t280 0 bt282.1 bt282.2 t281 0 false))) = some r := H
  have A3 := Aside0.mk A30
  clear A30
  replace H := Option.bind_eq_some_iff.mp H
  obtain ⟨t281, A40, H⟩ := H
  replace H : ((pack_Read.f t281).bind fun bt282 => (lockgatelaw01_PackReads.l0 k l1 t280 0 bt282.1 bt282.2 t281 0 false)) = some r := H
  have A4 := Aside0.mk A40
  clear A40
  replace H := Option.bind_eq_some_iff.mp H
  obtain ⟨⟨t282, t283⟩, A50, H⟩ := H
  replace H : (lockgatelaw01_PackReads.l0 k l1 t280 0 t282 t283 t281 0 false) = some r := H
  have A5 := Aside0.mk A50
  clear A50
  have H' := Aside0.mk H
  clear H
  go_enter Try.func8, Try.ntmps8
  go_wp2_with (first | ((with_reducible refine gate_callee (f := 11) rfl ?_); refine goesL_ (some 12) rfl rfl Try.func11 (by kernel_rfl) rfl #[] rfl (by (try simp only [List.map_toArray, List.map_cons, List.map_nil]); first | done | rfl | (simp only [List.length_drop, List.length_take]; rfl)) ?_; (with_reducible refine (lockgatelaw01_awake.calls  t280 _ A3.out).mono ?_); rintro e w6 ⟨rfl, hb⟩; refine ⟨_, rfl, ?_⟩; have n0_ := Aside0.mk (below_step (by repeat (first | (with_reducible first | exact HB.out | apply below_alloc | apply pw_below_drewN | apply below_drew1) | exact HB.out)) hb); clear HB; have HB := n0_; clear n0_; (try clear hb); (try clear hb2); (try clear hk); (try clear hi)) | ((with_reducible refine gate_callee (f := 12) rfl ?_); refine goesL_ (some 14) rfl rfl Try.func12 (by kernel_rfl) rfl #[.string a0, .int .i64 400] rfl (by (try simp only [List.map_toArray, List.map_cons, List.map_nil]); first | done | rfl | (simp only [List.length_drop, List.length_take]; rfl)) ?_; (with_reducible refine (lockgatelaw01_short.calls a0 400 t281 _ A4.out).mono ?_); rintro e w' ⟨rfl, ⟨nd, rfl⟩⟩; refine ⟨_, rfl, ?_⟩) | ((with_reducible refine gate_callee (f := 23) rfl ?_); refine goesL_ (some 16) rfl rfl Try.func23 (by kernel_rfl) rfl #[.string t281] rfl (by (try simp only [List.map_toArray, List.map_cons, List.map_nil]); first | done | rfl | (simp only [List.length_drop, List.length_take]; rfl)) ?_; (with_reducible refine (pack_Read.calls t281 t282 t283 _ _ (Below.refl _ _) A5.out).mono ?_); rintro e w7 ⟨g284, rfl, hi, hb, hb2⟩; refine ⟨_, rfl, ?_⟩; have n0_ := Aside0.mk (below_step (by repeat (first | (with_reducible first | exact HB.out | apply below_alloc | apply pw_below_drewN | apply below_drew1) | exact HB.out)) hb2); have n1_ := Aside0.mk (hi.1); have n2_ := Aside0.mk ((Nat.le_trans (below_size (by repeat (first | (with_reducible first | exact HB.out | apply below_alloc | apply pw_below_drewN | apply below_drew1) | exact HB.out))) hi.2 : w.heap.size ≤ g284)); have n3_ := Aside0.mk ((Nat.le_trans (below_size (by repeat (first | (with_reducible first | exact HB.out | apply below_alloc | apply pw_below_drewN | apply below_drew1) | exact HB.out))) hi.2 : w.heap.size ≤ g284)); clear HB; have HB := n0_; have BK284 := n1_; have GW284 := n2_; have GE284 := n3_; clear n0_ n1_ n2_ n3_; (try clear hb); (try clear hb2); (try clear hi)) | ((with_reducible refine gate_dst (N := 19) rfl ?_); refine box_event ?hg (N := 19) ?hd (cs := #[.string t281, .int .i64 0, .bool false]) (t := 49) ?hr ?_; (case hd => rfl); (case hg => rfl); (case hr => first | (go_simp; done) | (go_simp; rfl)); intro gb285 hg w8 hbox hb; have n0_ := Aside0.mk (blk_below (g := g284) (o := .cells #[.string t282, .bool t283] 53 (0, 0)) (by (with_reducible repeat (first | refine blk_drewN ?_ _ | refine blk_drew ?_ | refine blk_alloc ?_ _)); exact BK284.out) hb); have n1_ := Aside0.mk (below_step (by repeat (first | (with_reducible first | exact HB.out | apply below_alloc | apply pw_below_drewN | apply below_drew1 | refine below_set ?_ GE284.out) | exact HB.out)) hb); have n2_ := Aside0.mk (hbox); have n3_ := Aside0.mk ((by rw [hg]; exact (below_size (by repeat (first | (with_reducible first | exact HB.out | apply below_alloc | apply pw_below_drewN | apply below_drew1 | refine below_set ?_ GE284.out) | exact HB.out))) : w.heap.size ≤ gb285)); have n4_ := Aside0.mk ((by rw [hg]; exact (below_size (by repeat (first | (with_reducible first | exact HB.out | apply below_alloc | apply pw_below_drewN | apply below_drew1 | refine below_set ?_ GE284.out) | exact HB.out))) : w.heap.size ≤ gb285)); have n5_ := Aside0.mk ((by rw [hg]; exact Nat.ne_of_lt (blk_lt (g := g284) (o := .cells #[.string t282, .bool t283] 53 (0, 0)) (by (with_reducible repeat (first | refine blk_drewN ?_ _ | refine blk_drew ?_ | refine blk_alloc ?_ _)); exact BK284.out)) : g284 ≠ gb285)); have n6_ := Aside0.mk ((by rw [hg]; exact Nat.ne_of_gt (blk_lt (g := g284) (o := .cells #[.string t282, .bool t283] 53 (0, 0)) (by (with_reducible repeat (first | refine blk_drewN ?_ _ | refine blk_drew ?_ | refine blk_alloc ?_ _)); exact BK284.out)) : gb285 ≠ g284)); clear BK284; clear HB; have BK284 := n0_; have HB := n1_; have BK285 := n2_; have GW285 := n3_; have GE285 := n4_; have NB284_285 := n5_; have NB285_284 := n6_; clear n0_ n1_ n2_ n3_ n4_ n5_ n6_; clear hb hbox hg))
  go_loopg [8] k (fun kq v8 w' => ∃ (x8_1 : Int) (x285000_1 : ByteArray) (x285001_1 : Bool) (x286000_1 : ByteArray) (x286001_1 : Int) (x286002_1 : Bool), v8 = .int .i64 x8_1 ∧ Aside0 (lockgatelaw01_PackReads.l0 kq l1 t280 x8_1 x285000_1 x285001_1 x286000_1 x286001_1 x286002_1 = some r) ∧ Aside0 (kq ≤ k) ∧ Aside0 (w'.heap[g284]? = some (.cells #[.string x285000_1, .bool x285001_1] 53 (0, 0))) ∧ Aside0 (w'.heap[gb285]? = some (.cells #[.string x286000_1, .int .i64 x286001_1, .bool x286002_1] 49 (0, 0))) ∧ Aside0 (Below w.heap.size w w'))
  case atStart => exact ⟨(0), (t282), (t283), (t281), (0), (false), (by first | rfl | (simp; done) | (simp [*]; done)), H', ⟨Nat.le_refl _⟩, ⟨by (with_reducible repeat (first | refine blk_drewN ?_ _ | refine blk_drew ?_ | refine blk_alloc ?_ _)); exact BK284.out⟩, ⟨by (with_reducible repeat (first | refine blk_drewN ?_ _ | refine blk_drew ?_ | refine blk_alloc ?_ _)); exact BK285.out⟩, ⟨by repeat (first | (with_reducible first | exact HB.out | apply below_alloc | apply pw_below_drewN | apply below_drew1 | refine below_set ?_ GE284.out | refine below_set ?_ GE285.out) | exact HB.out)⟩⟩
  case round =>
    clear H'
    try clear c1
    try clear c2
    try clear p2
    try clear c8
    obtain ⟨x8_1, x285000_1, x285001_1, x286000_1, x286001_1, x286002_1, rfl, HA, HK1, BK284, BK285, HB⟩ := hrel
    cases gk with
    | zero => exact absurd HA.out (by simp [lockgatelaw01_PackReads.l0])
    | succ k1 =>
      have H := HA.out
      clear HA
      simp only [lockgatelaw01_PackReads.l0] at H
      have HC9 := Aside0.mk H
      clear H
      go_upto_region 8 with (fail)
      go_cut [29] (fun v29 wc => ∃ (kq : Nat) (x29_8 : Bool), v29 = .bool x29_8 ∧ Aside0 (lockgatelaw01_PackReads.j1 kq l1 t280 x8_1 x29_8 x285000_1 x285001_1 x286000_1 x286001_1 x286002_1 = some r) ∧ Aside0 (kq ≤ k1) ∧ Aside0 (wc.heap[g284]? = some (.cells #[.string x285000_1, .bool x285001_1] 53 (0, 0))) ∧ Aside0 (wc.heap[gb285]? = some (.cells #[.string x286000_1, .int .i64 x286001_1, .bool x286002_1] 49 (0, 0))) ∧ Aside0 (Below w.heap.size w wc))
      case first =>
        have H := HC9.out
        clear HC9
        by_cases c10 : x8_1 < (l1.length : Int)
        · rw [if_pos c10] at H
          have c10b0 : decide (x8_1 < (l1.length : Int)) = true := decide_eq_true c10
          clear c10
          (first | rw [c10b0] | (simp only [i64_w, i32_w]; rw [c10b0]) | skip)
          have H' := Aside0.mk H
          clear H
          go_wp2
          go_meet
          case rel => exact ⟨_, (decide (x8_1 < 60)), (by first | rfl | (simp; done) | (simp [*]; done)), H', ⟨by have := HK1.out; first | omega | exact Nat.le_refl _⟩, ⟨by (with_reducible repeat (first | refine blk_drewN ?_ _ | refine blk_drew ?_ | refine blk_alloc ?_ _)); exact BK284.out⟩, ⟨by (with_reducible repeat (first | refine blk_drewN ?_ _ | refine blk_drew ?_ | refine blk_alloc ?_ _)); exact BK285.out⟩, ⟨by repeat (first | (with_reducible first | exact HB.out | apply below_alloc | apply pw_below_drewN | apply below_drew1 | refine below_set ?_ GE284.out | refine below_set ?_ GE285.out) | exact HB.out)⟩⟩
        · rw [if_neg c10] at H
          have c10b0 : decide (x8_1 < (l1.length : Int)) = false := decide_eq_false c10
          clear c10
          (first | rw [c10b0] | (simp only [i64_w, i32_w]; rw [c10b0]) | skip)
          have H' := Aside0.mk H
          clear H
          go_wp2
          go_meet
          case rel => exact ⟨_, (false), (by first | rfl | (simp; done) | (simp [*]; done)), H', ⟨by have := HK1.out; first | omega | exact Nat.le_refl _⟩, ⟨by (with_reducible repeat (first | refine blk_drewN ?_ _ | refine blk_drew ?_ | refine blk_alloc ?_ _)); exact BK284.out⟩, ⟨by (with_reducible repeat (first | refine blk_drewN ?_ _ | refine blk_drew ?_ | refine blk_alloc ?_ _)); exact BK285.out⟩, ⟨by repeat (first | (with_reducible first | exact HB.out | apply below_alloc | apply pw_below_drewN | apply below_drew1 | refine below_set ?_ GE284.out | refine below_set ?_ GE285.out) | exact HB.out)⟩⟩
      case rest =>
        clear HC9
        try clear c1
        try clear c2
        try clear p2
        try clear c8
        try clear c10
        try clear c10b0
        try clear p2
        obtain ⟨kq, x29_8, rfl, HA, HJ8, BK284, BK285, HB⟩ := hcut
        cases kq with
        | zero => exact absurd HA.out (by simp [lockgatelaw01_PackReads.j1])
        | succ kj8 =>
          have H := HA.out
          clear HA
          simp only [lockgatelaw01_PackReads.j1] at H
          by_cases c11 : x29_8 = true
          · subst c11
            have H1 : (if 0 ≤ x8_1 then (if x8_1 < (l1.length : Int) then (if (Int.tmod (rd l1 x8_1) 5) < 0 then (lockgatelaw01_PackReads.j2 kj8 l1 t280 x8_1 (wrap64 (-(Int.tmod (rd l1 x8_1) 5))) x285000_1 x285001_1 x286000_1 x286001_1 x286002_1) else (lockgatelaw01_PackReads.j2 kj8 l1 t280 x8_1 (Int.tmod (rd l1 x8_1) 5) x285000_1 x285001_1 x286000_1 x286001_1 x286002_1)) else (none)) else (none)) = some r := by rw [if_pos rfl] at H; exact H
            clear H
            have H := H1
            clear H1
            by_cases c12 : 0 ≤ x8_1
            · rw [if_pos c12] at H
              have c12b0 : decide (0 ≤ x8_1) = true := decide_eq_true c12
              clear c12
              by_cases c13 : x8_1 < (l1.length : Int)
              · rw [if_pos c13] at H
                have c13b0 : decide (x8_1 < (l1.length : Int)) = true := decide_eq_true c13
                clear c13
                have HC14 := Aside0.mk H
                clear H
                have p286 : 0 ≤ (x8_1 : Int) := of_decide_eq_true (by first | (with_reducible assumption) | assumption)
                have q286 : x8_1 < (l1.length : Int) := of_decide_eq_true (by first | (with_reducible assumption) | assumption)
                obtain ⟨ad286, e286, hx286_0⟩ := Kd.at_int HR1.out x8_1 p286 q286
                cases e286
                replace hx286_0 := (HB.out.cell (World.block_lt_of_cell? w _ hx286_0)).trans hx286_0
                replace p286 := eq_true p286
                replace q286 := eq_true q286
                go_upto_if 38 with (fail)
                go_cut [9] (fun v9 wc => ∃ (kq : Nat) (x9_13 : Int), v9 = .int .i64 x9_13 ∧ Aside0 (lockgatelaw01_PackReads.j2 kq l1 t280 x8_1 x9_13 x285000_1 x285001_1 x286000_1 x286001_1 x286002_1 = some r) ∧ Aside0 (kq ≤ kj8) ∧ Aside0 (wc.heap[g284]? = some (.cells #[.string x285000_1, .bool x285001_1] 53 (0, 0))) ∧ Aside0 (wc.heap[gb285]? = some (.cells #[.string x286000_1, .int .i64 x286001_1, .bool x286002_1] 49 (0, 0))) ∧ Aside0 (Below w.heap.size w wc))
                case first =>
                  have H := HC14.out
                  clear HC14
                  by_cases c15 : (Int.tmod (rd l1 x8_1) 5) < 0
                  · rw [if_pos c15] at H
                    have c15b0 : decide ((Int.tmod (rd l1 x8_1) 5) < 0) = true := decide_eq_true c15
                    clear c15
                    (first | rw [c15b0] | (simp only [i64_w, i32_w]; rw [c15b0]) | skip)
                    have H' := Aside0.mk H
                    clear H
                    go_wp2
                    go_meet
                    case rel => exact ⟨_, (wrap64 (-(Int.tmod (rd l1 x8_1) 5))), (by first | rfl | (simp; done) | (simp [*]; done)), H', ⟨by have := HK1.out; have := HJ8.out; first | omega | exact Nat.le_refl _⟩, ⟨by (with_reducible repeat (first | refine blk_drewN ?_ _ | refine blk_drew ?_ | refine blk_alloc ?_ _)); exact BK284.out⟩, ⟨by (with_reducible repeat (first | refine blk_drewN ?_ _ | refine blk_drew ?_ | refine blk_alloc ?_ _)); exact BK285.out⟩, ⟨by repeat (first | (with_reducible first | exact HB.out | apply below_alloc | apply pw_below_drewN | apply below_drew1 | refine below_set ?_ GE284.out | refine below_set ?_ GE285.out) | exact HB.out)⟩⟩
                  · rw [if_neg c15] at H
                    have c15b0 : decide ((Int.tmod (rd l1 x8_1) 5) < 0) = false := decide_eq_false c15
                    clear c15
                    (first | rw [c15b0] | (simp only [i64_w, i32_w]; rw [c15b0]) | skip)
                    have H' := Aside0.mk H
                    clear H
                    go_wp2
                    go_meet
                    case rel => exact ⟨_, (Int.tmod (rd l1 x8_1) 5), (by first | rfl | (simp; done) | (simp [*]; done)), H', ⟨by have := HK1.out; have := HJ8.out; first | omega | exact Nat.le_refl _⟩, ⟨by (with_reducible repeat (first | refine blk_drewN ?_ _ | refine blk_drew ?_ | refine blk_alloc ?_ _)); exact BK284.out⟩, ⟨by (with_reducible repeat (first | refine blk_drewN ?_ _ | refine blk_drew ?_ | refine blk_alloc ?_ _)); exact BK285.out⟩, ⟨by repeat (first | (with_reducible first | exact HB.out | apply below_alloc | apply pw_below_drewN | apply below_drew1 | refine below_set ?_ GE284.out | refine below_set ?_ GE285.out) | exact HB.out)⟩⟩
                case rest =>
                  clear HC14
                  try clear c1
                  try clear c2
                  try clear p2
                  try clear q2
                  try clear hx2
                  try clear p6
                  try clear c8
                  try clear c10
                  try clear c10b0
                  try clear c11
                  try clear c12
                  try clear c12b0
                  try clear c13
                  try clear c13b0
                  try clear c15
                  try clear c15b0
                  try clear hx286_0
                  try clear p2
                  try clear p286
                  try clear q286
                  obtain ⟨kq, x9_13, rfl, HA, HJ13, BK284, BK285, HB⟩ := hcut
                  cases kq with
                  | zero => exact absurd HA.out (by simp [lockgatelaw01_PackReads.j2])
                  | succ kj13 =>
                    have H := HA.out
                    clear HA
                    simp only [lockgatelaw01_PackReads.j2] at H
                    have HC16 := Aside0.mk H
                    clear H
                    go_upto_block 2 with (fail)
                    go_cut [10] (fun v10 wc => ∃ (kq : Nat) (x10_15 : Bool) (x285000_15 : ByteArray) (x285001_15 : Bool) (x286000_15 : ByteArray) (x286001_15 : Int) (x286002_15 : Bool), v10 = .bool x10_15 ∧ Aside0 (lockgatelaw01_PackReads.j3 kq l1 t280 x8_1 x10_15 x285000_15 x285001_15 x286000_15 x286001_15 x286002_15 = some r) ∧ Aside0 (kq ≤ kj13) ∧ Aside0 (wc.heap[g284]? = some (.cells #[.string x285000_15, .bool x285001_15] 53 (0, 0))) ∧ Aside0 (wc.heap[gb285]? = some (.cells #[.string x286000_15, .int .i64 x286001_15, .bool x286002_15] 49 (0, 0))) ∧ Aside0 (Below w.heap.size w wc))
                    case first =>
                      have H := HC16.out
                      clear HC16
                      by_cases c17 : x9_13 = 0
                      · rw [if_pos c17] at H
                        have c17b0 : (x9_13 == 0) = true := beq_iff_eq.mpr c17
                        have c17b1 : (x9_13 != 0) = false := bne_eq_false_iff_eq.mpr c17
                        clear c17
                        (first | rw [c17b0] | (simp only [i64_w, i32_w]; rw [c17b0]) | skip)
                        replace H := Option.bind_eq_some_iff.mp H
                        obtain ⟨⟨t287, t288, t289⟩, A180, H⟩ := H
                        replace H : ((lockgateref01_Reader_Two.f kj13 x286000_1 x286001_1 x286002_1).bind fun bt290 => (lockgatelaw01_PackReads.j3 kj13 l1 t280 x8_1 (t287 == bt290.1) t288 t289 bt290.2.1 bt290.2.2.1 bt290.2.2.2)) = some r := H
                        have A18 := Aside0.mk A180
                        clear A180
                        replace H := Option.bind_eq_some_iff.mp H
                        obtain ⟨⟨t290, t291, t292, t293⟩, A190, H⟩ := H
                        replace H : (lockgatelaw01_PackReads.j3 kj13 l1 t280 x8_1 (t287 == t290) t288 t289 t291 t292 t293) = some r := H
                        have A19 := Aside0.mk A190
                        clear A190
                        have H' := Aside0.mk H
                        clear H
                        go_wp2_with (first | ((with_reducible refine gate_callee (f := 28) rfl ?_); refine goesL_ (some 45) rfl rfl Try.func28 (by kernel_rfl) rfl #[.pointer (some ⟨g284, 0, none⟩)] rfl (by (try simp only [List.map_toArray, List.map_cons, List.map_nil]); first | done | rfl | (simp only [List.length_drop, List.length_take]; rfl)) ?_; (with_reducible refine (pack_Reader_Two.calls g284 x285000_1 x285001_1 t287 t288 t289 w _ ?side1 ?side2 A18.out).mono ?_); (case side1 => exact ⟨by (with_reducible repeat (first | refine blk_drewN ?_ _ | refine blk_drew ?_ | refine blk_alloc ?_ _)); exact BK284.out, GE284.out⟩); (case side2 => repeat (first | (with_reducible first | exact HB.out | apply below_alloc | apply pw_below_drewN | apply below_drew1 | refine below_set ?_ GE284.out | refine below_set ?_ GE285.out) | exact HB.out)); rintro e w20 ⟨rfl, hi, hb, hk⟩; refine ⟨_, rfl, ?_⟩; have n0_ := Aside0.mk (KeepBut.blk hk (g' := gb285) (o := .cells #[.string x286000_1, .int .i64 x286001_1, .bool x286002_1] 49 (0, 0)) (by (with_reducible repeat (first | refine blk_drewN ?_ _ | refine blk_drew ?_ | refine blk_alloc ?_ _)); exact BK285.out) NB285_284.out (by simp)); have n1_ := Aside0.mk (hb); have n2_ := Aside0.mk (hi.1); clear BK285; clear HB; clear BK284; have BK285 := n0_; have HB := n1_; have BK284 := n2_; clear n0_ n1_ n2_; (try clear hb); (try clear hk); (try clear hi)) | ((with_reducible refine gate_callee (f := 29) rfl ?_); refine goesL_ (some 47) rfl rfl Try.func29 (by kernel_rfl) rfl #[.pointer (some ⟨gb285, 0, none⟩)] rfl (by (try simp only [List.map_toArray, List.map_cons, List.map_nil]); first | done | rfl | (simp only [List.length_drop, List.length_take]; rfl)) ?_; (with_reducible refine (lockgateref01_Reader_Two.calls kj13 gb285 x286000_1 x286001_1 x286002_1 t290 t291 t292 t293 w _ ?side1 ?side2 A19.out).mono ?_); (case side1 => exact ⟨by (with_reducible repeat (first | refine blk_drewN ?_ _ | refine blk_drew ?_ | refine blk_alloc ?_ _)); exact BK285.out, GE285.out⟩); (case side2 => repeat (first | (with_reducible first | exact HB.out | apply below_alloc | apply pw_below_drewN | apply below_drew1 | refine below_set ?_ GE284.out | refine below_set ?_ GE285.out) | exact HB.out)); rintro e w21 ⟨rfl, hi, hb, hk⟩; refine ⟨_, rfl, ?_⟩; have n0_ := Aside0.mk (KeepBut.blk hk (g' := g284) (o := .cells #[.string t288, .bool t289] 53 (0, 0)) (by (with_reducible repeat (first | refine blk_drewN ?_ _ | refine blk_drew ?_ | refine blk_alloc ?_ _)); exact BK284.out) NB284_285.out (by simp)); have n1_ := Aside0.mk (hb); have n2_ := Aside0.mk (hi.1); clear BK284; clear HB; clear BK285; have BK284 := n0_; have HB := n1_; have BK285 := n2_; clear n0_ n1_ n2_; (try clear hb); (try clear hk); (try clear hi)))
                        go_meet
                        case rel => exact ⟨_, ((t287 == t290)), (t288), (t289), (t291), (t292), (t293), (by first | rfl | (simp; done) | (simp [*]; done)), H', ⟨by have := HK1.out; have := HJ8.out; have := HJ13.out; first | omega | exact Nat.le_refl _⟩, ⟨by (with_reducible repeat (first | refine blk_drewN ?_ _ | refine blk_drew ?_ | refine blk_alloc ?_ _)); exact BK284.out⟩, ⟨by (with_reducible repeat (first | refine blk_drewN ?_ _ | refine blk_drew ?_ | refine blk_alloc ?_ _)); exact BK285.out⟩, ⟨by repeat (first | (with_reducible first | exact HB.out | apply below_alloc | apply pw_below_drewN | apply below_drew1 | refine below_set ?_ GE284.out | refine below_set ?_ GE285.out) | exact HB.out)⟩⟩
                      · rw [if_neg c17] at H
                        have c17b0 : (x9_13 == 0) = false := beq_eq_false_iff_ne.mpr c17
                        have c17b1 : (x9_13 != 0) = true := bne_iff_ne.mpr c17
                        (first | rw [c17b0] | (simp only [i64_w, i32_w]; rw [c17b0]) | skip)
                        by_cases c22 : x9_13 = 1
                        · rw [if_pos c22] at H
                          have c22b0 : (x9_13 == 1) = true := beq_iff_eq.mpr c22
                          have c22b1 : (x9_13 != 1) = false := bne_eq_false_iff_eq.mpr c22
                          clear c22
                          replace H := Option.bind_eq_some_iff.mp H
                          obtain ⟨⟨t294, t295, t296⟩, A230, H⟩ := H
                          replace H : ((lockgateref01_Reader_Four.f kj13 x286000_1 x286001_1 x286002_1).bind fun bt297 => (lockgatelaw01_PackReads.j3 kj13 l1 t280 x8_1 (t294 == bt297.1) t295 t296 bt297.2.1 bt297.2.2.1 bt297.2.2.2)) = some r := H
                          have A23 := Aside0.mk A230
                          clear A230
                          replace H := Option.bind_eq_some_iff.mp H
                          obtain ⟨⟨t297, t298, t299, t300⟩, A240, H⟩ := H
                          replace H : (lockgatelaw01_PackReads.j3 kj13 l1 t280 x8_1 (t294 == t297) t295 t296 t298 t299 t300) = some r := H
                          have A24 := Aside0.mk A240
                          clear A240
                          have H' := Aside0.mk H
                          clear H
                          go_wp2_with (first | ((with_reducible refine gate_callee (f := 26) rfl ?_); refine goesL_ (some 52) rfl rfl Try.func26 (by kernel_rfl) rfl #[.pointer (some ⟨g284, 0, none⟩)] rfl (by (try simp only [List.map_toArray, List.map_cons, List.map_nil]); first | done | rfl | (simp only [List.length_drop, List.length_take]; rfl)) ?_; (with_reducible refine (pack_Reader_Four.calls g284 x285000_1 x285001_1 t294 t295 t296 w _ ?side1 ?side2 A23.out).mono ?_); (case side1 => exact ⟨by (with_reducible repeat (first | refine blk_drewN ?_ _ | refine blk_drew ?_ | refine blk_alloc ?_ _)); exact BK284.out, GE284.out⟩); (case side2 => repeat (first | (with_reducible first | exact HB.out | apply below_alloc | apply pw_below_drewN | apply below_drew1 | refine below_set ?_ GE284.out | refine below_set ?_ GE285.out) | exact HB.out)); rintro e w25 ⟨rfl, hi, hb, hk⟩; refine ⟨_, rfl, ?_⟩; have n0_ := Aside0.mk (KeepBut.blk hk (g' := gb285) (o := .cells #[.string x286000_1, .int .i64 x286001_1, .bool x286002_1] 49 (0, 0)) (by (with_reducible repeat (first | refine blk_drewN ?_ _ | refine blk_drew ?_ | refine blk_alloc ?_ _)); exact BK285.out) NB285_284.out (by simp)); have n1_ := Aside0.mk (hb); have n2_ := Aside0.mk (hi.1); clear BK285; clear HB; clear BK284; have BK285 := n0_; have HB := n1_; have BK284 := n2_; clear n0_ n1_ n2_; (try clear hb); (try clear hk); (try clear hi)) | ((with_reducible refine gate_callee (f := 30) rfl ?_); refine goesL_ (some 54) rfl rfl Try.func30 (by kernel_rfl) rfl #[.pointer (some ⟨gb285, 0, none⟩)] rfl (by (try simp only [List.map_toArray, List.map_cons, List.map_nil]); first | done | rfl | (simp only [List.length_drop, List.length_take]; rfl)) ?_; (with_reducible refine (lockgateref01_Reader_Four.calls kj13 gb285 x286000_1 x286001_1 x286002_1 t297 t298 t299 t300 w _ ?side1 ?side2 A24.out).mono ?_); (case side1 => exact ⟨by (with_reducible repeat (first | refine blk_drewN ?_ _ | refine blk_drew ?_ | refine blk_alloc ?_ _)); exact BK285.out, GE285.out⟩); (case side2 => repeat (first | (with_reducible first | exact HB.out | apply below_alloc | apply pw_below_drewN | apply below_drew1 | refine below_set ?_ GE284.out | refine below_set ?_ GE285.out) | exact HB.out)); rintro e w26 ⟨rfl, hi, hb, hk⟩; refine ⟨_, rfl, ?_⟩; have n0_ := Aside0.mk (KeepBut.blk hk (g' := g284) (o := .cells #[.string t295, .bool t296] 53 (0, 0)) (by (with_reducible repeat (first | refine blk_drewN ?_ _ | refine blk_drew ?_ | refine blk_alloc ?_ _)); exact BK284.out) NB284_285.out (by simp)); have n1_ := Aside0.mk (hb); have n2_ := Aside0.mk (hi.1); clear BK284; clear HB; clear BK285; have BK284 := n0_; have HB := n1_; have BK285 := n2_; clear n0_ n1_ n2_; (try clear hb); (try clear hk); (try clear hi)))
                          go_meet
                          case rel => exact ⟨_, ((t294 == t297)), (t295), (t296), (t298), (t299), (t300), (by first | rfl | (simp; done) | (simp [*]; done)), H', ⟨by have := HK1.out; have := HJ8.out; have := HJ13.out; first | omega | exact Nat.le_refl _⟩, ⟨by (with_reducible repeat (first | refine blk_drewN ?_ _ | refine blk_drew ?_ | refine blk_alloc ?_ _)); exact BK284.out⟩, ⟨by (with_reducible repeat (first | refine blk_drewN ?_ _ | refine blk_drew ?_ | refine blk_alloc ?_ _)); exact BK285.out⟩, ⟨by repeat (first | (with_reducible first | exact HB.out | apply below_alloc | apply pw_below_drewN | apply below_drew1 | refine below_set ?_ GE284.out | refine below_set ?_ GE285.out) | exact HB.out)⟩⟩
                        · rw [if_neg c22] at H
                          have c22b0 : (x9_13 == 1) = false := beq_eq_false_iff_ne.mpr c22
                          have c22b1 : (x9_13 != 1) = true := bne_iff_ne.mpr c22
                          by_cases c27 : x9_13 = 2
                          · rw [if_pos c27] at H
                            have c27b0 : (x9_13 == 2) = true := beq_iff_eq.mpr c27
                            have c27b1 : (x9_13 != 2) = false := bne_eq_false_iff_eq.mpr c27
                            clear c27
                            by_cases c28 : (wrap64 (x8_1 + 1)) < (l1.length : Int)
                            · rw [if_pos c28] at H
                              have c28b0 : decide ((wrap64 (x8_1 + 1)) < (l1.length : Int)) = true := decide_eq_true c28
                              clear c28
                              obtain ⟨ji29, hji29⟩ : ∃ j_ : Int, (wrap64 (x8_1 + 1)) = j_ := ⟨_, rfl⟩
                              replace H : (if 0 ≤ (ji29) then ((pack_Reader_Eight.f x285000_1 x285001_1 (rd l1 (ji29))).bind fun bt302 => ((lockgateref01_Reader_Eight.f kj13 x286000_1 x286001_1 x286002_1 (rd l1 (ji29))).bind fun bt305 => (lockgatelaw01_PackReads.j3 kj13 l1 t280 x8_1 (bt302.1 == bt305.1) bt302.2.1 bt302.2.2 bt305.2.1 bt305.2.2.1 bt305.2.2.2))) else (none)) = some r := by first | (rw [hji29] at H; exact H) | (simp only [hji29] at H ⊢; exact H)
                              (try rw [hji29] at c28b0)
                              have hji29w : (IntKind.i64.wrap (x8_1 + 1)) = ji29 := (i64_w _).trans hji29
                              by_cases c30 : 0 ≤ (ji29)
                              · rw [if_pos c30] at H
                                have c30b0 : decide (0 ≤ (ji29)) = true := decide_eq_true c30
                                clear c30
                                replace H := Option.bind_eq_some_iff.mp H
                                obtain ⟨⟨t302, t303, t304⟩, A310, H⟩ := H
                                replace H : ((lockgateref01_Reader_Eight.f kj13 x286000_1 x286001_1 x286002_1 (rd l1 (ji29))).bind fun bt305 => (lockgatelaw01_PackReads.j3 kj13 l1 t280 x8_1 (t302 == bt305.1) t303 t304 bt305.2.1 bt305.2.2.1 bt305.2.2.2)) = some r := H
                                have A31 := Aside0.mk A310
                                clear A310
                                replace H := Option.bind_eq_some_iff.mp H
                                obtain ⟨⟨t305, t306, t307, t308⟩, A320, H⟩ := H
                                replace H : (lockgatelaw01_PackReads.j3 kj13 l1 t280 x8_1 (t302 == t305) t303 t304 t306 t307 t308) = some r := H
                                have A32 := Aside0.mk A320
                                clear A320
                                have H' := Aside0.mk H
                                clear H
                                have p301 : 0 ≤ ((ji29) : Int) := of_decide_eq_true (by first | (with_reducible assumption) | assumption)
                                have q301 : (ji29) < (l1.length : Int) := of_decide_eq_true (by first | (with_reducible assumption) | assumption)
                                obtain ⟨ad301, e301, hx301_0⟩ := Kd.at_int HR1.out (ji29) p301 q301
                                obtain rfl : ad286 = ad301 := (by injection e301)
                                replace hx301_0 := (HB.out.cell (World.block_lt_of_cell? w _ hx301_0)).trans hx301_0
                                replace p301 := eq_true p301
                                replace q301 := eq_true q301
                                go_wp2_with (first | ((with_reducible refine gate_callee (f := 31) rfl ?_); refine goesL_ (some 70) rfl rfl Try.func31 (by kernel_rfl) rfl #[.pointer (some ⟨g284, 0, none⟩), .int .i64 (rd l1 (ji29))] rfl (by (try simp only [List.map_toArray, List.map_cons, List.map_nil]); first | done | (simp only [hji29]; rfl) | rfl | (simp only [List.length_drop, List.length_take]; rfl)) ?_; (with_reducible refine (pack_Reader_Eight.calls g284 x285000_1 x285001_1 (rd l1 (ji29)) t302 t303 t304 w _ ?side1 ?side2 A31.out).mono ?_); (case side1 => exact ⟨by (with_reducible repeat (first | refine blk_drewN ?_ _ | refine blk_drew ?_ | refine blk_alloc ?_ _)); exact BK284.out, GE284.out⟩); (case side2 => repeat (first | (with_reducible first | exact HB.out | apply below_alloc | apply pw_below_drewN | apply below_drew1 | refine below_set ?_ GE284.out | refine below_set ?_ GE285.out) | exact HB.out)); rintro e w33 ⟨rfl, hi, hb, hk⟩; refine ⟨_, rfl, ?_⟩; have n0_ := Aside0.mk (KeepBut.blk hk (g' := gb285) (o := .cells #[.string x286000_1, .int .i64 x286001_1, .bool x286002_1] 49 (0, 0)) (by (with_reducible repeat (first | refine blk_drewN ?_ _ | refine blk_drew ?_ | refine blk_alloc ?_ _)); exact BK285.out) NB285_284.out (by simp)); have n1_ := Aside0.mk (hb); have n2_ := Aside0.mk (hi.1); clear BK285; clear HB; clear BK284; have BK285 := n0_; have HB := n1_; have BK284 := n2_; clear n0_ n1_ n2_; (try clear hb); (try clear hk); (try clear hi)) | ((with_reducible refine gate_callee (f := 32) rfl ?_); refine goesL_ (some 73) rfl rfl Try.func32 (by kernel_rfl) rfl #[.pointer (some ⟨gb285, 0, none⟩), .int .i64 (rd l1 (ji29))] rfl (by (try simp only [List.map_toArray, List.map_cons, List.map_nil]); first | done | (simp only [hji29]; rfl) | rfl | (simp only [List.length_drop, List.length_take]; rfl)) ?_; (with_reducible refine (lockgateref01_Reader_Eight.calls kj13 gb285 x286000_1 x286001_1 x286002_1 (rd l1 (ji29)) t305 t306 t307 t308 w _ ?side1 ?side2 A32.out).mono ?_); (case side1 => exact ⟨by (with_reducible repeat (first | refine blk_drewN ?_ _ | refine blk_drew ?_ | refine blk_alloc ?_ _)); exact BK285.out, GE285.out⟩); (case side2 => repeat (first | (with_reducible first | exact HB.out | apply below_alloc | apply pw_below_drewN | apply below_drew1 | refine below_set ?_ GE284.out | refine below_set ?_ GE285.out) | exact HB.out)); rintro e w34 ⟨rfl, hi, hb, hk⟩; refine ⟨_, rfl, ?_⟩; have n0_ := Aside0.mk (KeepBut.blk hk (g' := g284) (o := .cells #[.string t303, .bool t304] 53 (0, 0)) (by (with_reducible repeat (first | refine blk_drewN ?_ _ | refine blk_drew ?_ | refine blk_alloc ?_ _)); exact BK284.out) NB284_285.out (by simp)); have n1_ := Aside0.mk (hb); have n2_ := Aside0.mk (hi.1); clear BK284; clear HB; clear BK285; have BK284 := n0_; have HB := n1_; have BK285 := n2_; clear n0_ n1_ n2_; (try clear hb); (try clear hk); (try clear hi)))
                                go_meet
                                case rel => exact ⟨_, ((t302 == t305)), (t303), (t304), (t306), (t307), (t308), (by first | rfl | (simp; done) | (simp [*]; done)), H', ⟨by have := HK1.out; have := HJ8.out; have := HJ13.out; first | omega | exact Nat.le_refl _⟩, ⟨by (with_reducible repeat (first | refine blk_drewN ?_ _ | refine blk_drew ?_ | refine blk_alloc ?_ _)); exact BK284.out⟩, ⟨by (with_reducible repeat (first | refine blk_drewN ?_ _ | refine blk_drew ?_ | refine blk_alloc ?_ _)); exact BK285.out⟩, ⟨by repeat (first | (with_reducible first | exact HB.out | apply below_alloc | apply pw_below_drewN | apply below_drew1 | refine below_set ?_ GE284.out | refine below_set ?_ GE285.out) | exact HB.out)⟩⟩
                              · rw [if_neg c30] at H
                                exact absurd H (by simp)
                            · rw [if_neg c28] at H
                              have c28b0 : decide ((wrap64 (x8_1 + 1)) < (l1.length : Int)) = false := decide_eq_false c28
                              clear c28
                              replace H := Option.bind_eq_some_iff.mp H
                              obtain ⟨⟨t309, t310, t311⟩, A350, H⟩ := H
                              replace H : ((lockgateref01_Reader_Eight.f kj13 x286000_1 x286001_1 x286002_1 1099511627776).bind fun bt312 => (lockgatelaw01_PackReads.j3 kj13 l1 t280 x8_1 (t309 == bt312.1) t310 t311 bt312.2.1 bt312.2.2.1 bt312.2.2.2)) = some r := H
                              have A35 := Aside0.mk A350
                              clear A350
                              replace H := Option.bind_eq_some_iff.mp H
                              obtain ⟨⟨t312, t313, t314, t315⟩, A360, H⟩ := H
                              replace H : (lockgatelaw01_PackReads.j3 kj13 l1 t280 x8_1 (t309 == t312) t310 t311 t313 t314 t315) = some r := H
                              have A36 := Aside0.mk A360
                              clear A360
                              have H' := Aside0.mk H
                              clear H
                              go_wp2_with (first | ((with_reducible refine gate_callee (f := 31) rfl ?_); refine goesL_ (some 70) rfl rfl Try.func31 (by kernel_rfl) rfl #[.pointer (some ⟨g284, 0, none⟩), .int .i64 1099511627776] rfl (by (try simp only [List.map_toArray, List.map_cons, List.map_nil]); first | done | rfl | (simp only [List.length_drop, List.length_take]; rfl)) ?_; (with_reducible refine (pack_Reader_Eight.calls g284 x285000_1 x285001_1 1099511627776 t309 t310 t311 w _ ?side1 ?side2 A35.out).mono ?_); (case side1 => exact ⟨by (with_reducible repeat (first | refine blk_drewN ?_ _ | refine blk_drew ?_ | refine blk_alloc ?_ _)); exact BK284.out, GE284.out⟩); (case side2 => repeat (first | (with_reducible first | exact HB.out | apply below_alloc | apply pw_below_drewN | apply below_drew1 | refine below_set ?_ GE284.out | refine below_set ?_ GE285.out) | exact HB.out)); rintro e w37 ⟨rfl, hi, hb, hk⟩; refine ⟨_, rfl, ?_⟩; have n0_ := Aside0.mk (KeepBut.blk hk (g' := gb285) (o := .cells #[.string x286000_1, .int .i64 x286001_1, .bool x286002_1] 49 (0, 0)) (by (with_reducible repeat (first | refine blk_drewN ?_ _ | refine blk_drew ?_ | refine blk_alloc ?_ _)); exact BK285.out) NB285_284.out (by simp)); have n1_ := Aside0.mk (hb); have n2_ := Aside0.mk (hi.1); clear BK285; clear HB; clear BK284; have BK285 := n0_; have HB := n1_; have BK284 := n2_; clear n0_ n1_ n2_; (try clear hb); (try clear hk); (try clear hi)) | ((with_reducible refine gate_callee (f := 32) rfl ?_); refine goesL_ (some 73) rfl rfl Try.func32 (by kernel_rfl) rfl #[.pointer (some ⟨gb285, 0, none⟩), .int .i64 1099511627776] rfl (by (try simp only [List.map_toArray, List.map_cons, List.map_nil]); first | done | rfl | (simp only [List.length_drop, List.length_take]; rfl)) ?_; (with_reducible refine (lockgateref01_Reader_Eight.calls kj13 gb285 x286000_1 x286001_1 x286002_1 1099511627776 t312 t313 t314 t315 w _ ?side1 ?side2 A36.out).mono ?_); (case side1 => exact ⟨by (with_reducible repeat (first | refine blk_drewN ?_ _ | refine blk_drew ?_ | refine blk_alloc ?_ _)); exact BK285.out, GE285.out⟩); (case side2 => repeat (first | (with_reducible first | exact HB.out | apply below_alloc | apply pw_below_drewN | apply below_drew1 | refine below_set ?_ GE284.out | refine below_set ?_ GE285.out) | exact HB.out)); rintro e w38 ⟨rfl, hi, hb, hk⟩; refine ⟨_, rfl, ?_⟩; have n0_ := Aside0.mk (KeepBut.blk hk (g' := g284) (o := .cells #[.string t310, .bool t311] 53 (0, 0)) (by (with_reducible repeat (first | refine blk_drewN ?_ _ | refine blk_drew ?_ | refine blk_alloc ?_ _)); exact BK284.out) NB284_285.out (by simp)); have n1_ := Aside0.mk (hb); have n2_ := Aside0.mk (hi.1); clear BK284; clear HB; clear BK285; have BK284 := n0_; have HB := n1_; have BK285 := n2_; clear n0_ n1_ n2_; (try clear hb); (try clear hk); (try clear hi)))
                              go_meet
                              case rel => exact ⟨_, ((t309 == t312)), (t310), (t311), (t313), (t314), (t315), (by first | rfl | (simp; done) | (simp [*]; done)), H', ⟨by have := HK1.out; have := HJ8.out; have := HJ13.out; first | omega | exact Nat.le_refl _⟩, ⟨by (with_reducible repeat (first | refine blk_drewN ?_ _ | refine blk_drew ?_ | refine blk_alloc ?_ _)); exact BK284.out⟩, ⟨by (with_reducible repeat (first | refine blk_drewN ?_ _ | refine blk_drew ?_ | refine blk_alloc ?_ _)); exact BK285.out⟩, ⟨by repeat (first | (with_reducible first | exact HB.out | apply below_alloc | apply pw_below_drewN | apply below_drew1 | refine below_set ?_ GE284.out | refine below_set ?_ GE285.out) | exact HB.out)⟩⟩
                          · rw [if_neg c27] at H
                            have c27b0 : (x9_13 == 2) = false := beq_eq_false_iff_ne.mpr c27
                            have c27b1 : (x9_13 != 2) = true := bne_iff_ne.mpr c27
                            by_cases c39 : x9_13 = 3
                            · rw [if_pos c39] at H
                              have c39b0 : (x9_13 == 3) = true := beq_iff_eq.mpr c39
                              have c39b1 : (x9_13 != 3) = false := bne_eq_false_iff_eq.mpr c39
                              clear c39
                              replace H := Option.bind_eq_some_iff.mp H
                              obtain ⟨⟨t316, t317, t318⟩, A400, H⟩ := H
                              replace H : ((lockgateref01_Reader_Text.f kj13 x286000_1 x286001_1 x286002_1).bind fun bt319 => (lockgatelaw01_PackReads.j3 kj13 l1 t280 x8_1 (t316.toList == bt319.1.toList) t317 t318 bt319.2.1 bt319.2.2.1 bt319.2.2.2)) = some r := H
                              have A40 := Aside0.mk A400
                              clear A400
                              replace H := Option.bind_eq_some_iff.mp H
                              obtain ⟨⟨t319, t320, t321, t322⟩, A410, H⟩ := H
                              replace H : (lockgatelaw01_PackReads.j3 kj13 l1 t280 x8_1 (t316.toList == t319.toList) t317 t318 t320 t321 t322) = some r := H
                              have A41 := Aside0.mk A410
                              clear A410
                              have H' := Aside0.mk H
                              clear H
                              go_wp2_with (first | ((with_reducible refine gate_callee (f := 24) rfl ?_); refine goesL_ (some 78) rfl rfl Try.func24 (by kernel_rfl) rfl #[.pointer (some ⟨g284, 0, none⟩)] rfl (by (try simp only [List.map_toArray, List.map_cons, List.map_nil]); first | done | rfl | (simp only [List.length_drop, List.length_take]; rfl)) ?_; (with_reducible refine (pack_Reader_Text.calls g284 x285000_1 x285001_1 t316 t317 t318 w _ ?side1 ?side2 A40.out).mono ?_); (case side1 => exact ⟨by (with_reducible repeat (first | refine blk_drewN ?_ _ | refine blk_drew ?_ | refine blk_alloc ?_ _)); exact BK284.out, GE284.out⟩); (case side2 => repeat (first | (with_reducible first | exact HB.out | apply below_alloc | apply pw_below_drewN | apply below_drew1 | refine below_set ?_ GE284.out | refine below_set ?_ GE285.out) | exact HB.out)); rintro e w42 ⟨rfl, hi, hb, hk⟩; refine ⟨_, rfl, ?_⟩; have n0_ := Aside0.mk (KeepBut.blk hk (g' := gb285) (o := .cells #[.string x286000_1, .int .i64 x286001_1, .bool x286002_1] 49 (0, 0)) (by (with_reducible repeat (first | refine blk_drewN ?_ _ | refine blk_drew ?_ | refine blk_alloc ?_ _)); exact BK285.out) NB285_284.out (by simp)); have n1_ := Aside0.mk (hb); have n2_ := Aside0.mk (hi.1); clear BK285; clear HB; clear BK284; have BK285 := n0_; have HB := n1_; have BK284 := n2_; clear n0_ n1_ n2_; (try clear hb); (try clear hk); (try clear hi)) | ((with_reducible refine gate_callee (f := 33) rfl ?_); refine goesL_ (some 80) rfl rfl Try.func33 (by kernel_rfl) rfl #[.pointer (some ⟨gb285, 0, none⟩)] rfl (by (try simp only [List.map_toArray, List.map_cons, List.map_nil]); first | done | rfl | (simp only [List.length_drop, List.length_take]; rfl)) ?_; (with_reducible refine (lockgateref01_Reader_Text.calls kj13 gb285 x286000_1 x286001_1 x286002_1 t319 t320 t321 t322 w _ ?side1 ?side2 A41.out).mono ?_); (case side1 => exact ⟨by (with_reducible repeat (first | refine blk_drewN ?_ _ | refine blk_drew ?_ | refine blk_alloc ?_ _)); exact BK285.out, GE285.out⟩); (case side2 => repeat (first | (with_reducible first | exact HB.out | apply below_alloc | apply pw_below_drewN | apply below_drew1 | refine below_set ?_ GE284.out | refine below_set ?_ GE285.out) | exact HB.out)); rintro e w43 ⟨rfl, hi, hb, hk⟩; refine ⟨_, rfl, ?_⟩; have n0_ := Aside0.mk (KeepBut.blk hk (g' := g284) (o := .cells #[.string t317, .bool t318] 53 (0, 0)) (by (with_reducible repeat (first | refine blk_drewN ?_ _ | refine blk_drew ?_ | refine blk_alloc ?_ _)); exact BK284.out) NB284_285.out (by simp)); have n1_ := Aside0.mk (hb); have n2_ := Aside0.mk (hi.1); clear BK284; clear HB; clear BK285; have BK284 := n0_; have HB := n1_; have BK285 := n2_; clear n0_ n1_ n2_; (try clear hb); (try clear hk); (try clear hi)))
                              go_meet
                              case rel => exact ⟨_, ((t316.toList == t319.toList)), (t317), (t318), (t320), (t321), (t322), (by first | rfl | (simp; done) | (simp [*]; done)), H', ⟨by have := HK1.out; have := HJ8.out; have := HJ13.out; first | omega | exact Nat.le_refl _⟩, ⟨by (with_reducible repeat (first | refine blk_drewN ?_ _ | refine blk_drew ?_ | refine blk_alloc ?_ _)); exact BK284.out⟩, ⟨by (with_reducible repeat (first | refine blk_drewN ?_ _ | refine blk_drew ?_ | refine blk_alloc ?_ _)); exact BK285.out⟩, ⟨by repeat (first | (with_reducible first | exact HB.out | apply below_alloc | apply pw_below_drewN | apply below_drew1 | refine below_set ?_ GE284.out | refine below_set ?_ GE285.out) | exact HB.out)⟩⟩
                            · rw [if_neg c39] at H
                              have c39b0 : (x9_13 == 3) = false := beq_eq_false_iff_ne.mpr c39
                              have c39b1 : (x9_13 != 3) = true := bne_iff_ne.mpr c39
                              have H' := Aside0.mk H
                              clear H
                              go_wp2
                              go_meet
                              case rel => exact ⟨_, (true), (x285000_1), (x285001_1), (x286000_1), (x286001_1), (x286002_1), (by first | rfl | (simp; done) | (simp [*]; done)), H', ⟨by have := HK1.out; have := HJ8.out; have := HJ13.out; first | omega | exact Nat.le_refl _⟩, ⟨by (with_reducible repeat (first | refine blk_drewN ?_ _ | refine blk_drew ?_ | refine blk_alloc ?_ _)); exact BK284.out⟩, ⟨by (with_reducible repeat (first | refine blk_drewN ?_ _ | refine blk_drew ?_ | refine blk_alloc ?_ _)); exact BK285.out⟩, ⟨by repeat (first | (with_reducible first | exact HB.out | apply below_alloc | apply pw_below_drewN | apply below_drew1 | refine below_set ?_ GE284.out | refine below_set ?_ GE285.out) | exact HB.out)⟩⟩
                    case rest =>
                      clear HC16
                      try clear c1
                      try clear c2
                      try clear p2
                      try clear q2
                      try clear hx2
                      try clear c3
                      try clear p3
                      try clear q3
                      try clear hx3
                      try clear p6
                      try clear c8
                      try clear c10
                      try clear c10b0
                      try clear c11
                      try clear c12
                      try clear c12b0
                      try clear c13
                      try clear c13b0
                      try clear c15
                      try clear c15b0
                      try clear c17
                      try clear c17b0
                      try clear c17b1
                      try clear c22
                      try clear c22b0
                      try clear c22b1
                      try clear c23
                      try clear c24
                      try clear c26
                      try clear c27
                      try clear c27b0
                      try clear c27b1
                      try clear c28
                      try clear c28b0
                      try clear p28
                      try clear q28
                      try clear hx28
                      try clear c29
                      try clear c30
                      try clear c30b0
                      try clear p30
                      try clear q30
                      try clear hx30
                      try clear c31
                      try clear c32
                      try clear c33
                      try clear c39
                      try clear c39b0
                      try clear c39b1
                      try clear hx286_0
                      try clear hx301_0
                      try clear p2
                      try clear p286
                      try clear p301
                      try clear p6
                      try clear q2
                      try clear q286
                      try clear q301
                      obtain ⟨kq, x10_15, x285000_15, x285001_15, x286000_15, x286001_15, x286002_15, rfl, HA, HJ15, BK284, BK285, HB⟩ := hcut
                      cases kq with
                      | zero => exact absurd HA.out (by simp [lockgatelaw01_PackReads.j3])
                      | succ kj15 =>
                        have H := HA.out
                        clear HA
                        simp only [lockgatelaw01_PackReads.j3] at H
                        by_cases c44 : x10_15 = true
                        · subst c44
                          have H1 : ((pack_Reader_Left.f x285000_15 x285001_15).bind fun bt323 => ((lockgateref01_Reader_Left.f x286000_15 x286001_15 x286002_15).bind fun bt326 => (if bt323.1 = bt326.1 then ((pack_Reader_End.f bt323.2.1 bt323.2.2).bind fun bt330 => ((lockgateref01_Reader_End.f bt326.2.1 bt326.2.2.1 bt326.2.2.2).bind fun bt333 => (if bt330.1 = bt333.1 then (lockgatelaw01_PackReads.l0 kj15 l1 t280 (wrap64 (x8_1 + 1)) bt330.2.1 bt330.2.2 bt333.2.1 bt333.2.2.1 bt333.2.2.2) else (some false)))) else (some false)))) = some r := by rw [if_pos rfl] at H; exact H
                          clear H
                          have H := H1
                          clear H1
                          replace H := Option.bind_eq_some_iff.mp H
                          obtain ⟨⟨t323, t324, t325⟩, A450, H⟩ := H
                          replace H : ((lockgateref01_Reader_Left.f x286000_15 x286001_15 x286002_15).bind fun bt326 => (if t323 = bt326.1 then ((pack_Reader_End.f t324 t325).bind fun bt330 => ((lockgateref01_Reader_End.f bt326.2.1 bt326.2.2.1 bt326.2.2.2).bind fun bt333 => (if bt330.1 = bt333.1 then (lockgatelaw01_PackReads.l0 kj15 l1 t280 (wrap64 (x8_1 + 1)) bt330.2.1 bt330.2.2 bt333.2.1 bt333.2.2.1 bt333.2.2.2) else (some false)))) else (some false))) = some r := H
                          have A45 := Aside0.mk A450
                          clear A450
                          replace H := Option.bind_eq_some_iff.mp H
                          obtain ⟨⟨t326, t327, t328, t329⟩, A460, H⟩ := H
                          replace H : (if t323 = t326 then ((pack_Reader_End.f t324 t325).bind fun bt330 => ((lockgateref01_Reader_End.f t327 t328 t329).bind fun bt333 => (if bt330.1 = bt333.1 then (lockgatelaw01_PackReads.l0 kj15 l1 t280 (wrap64 (x8_1 + 1)) bt330.2.1 bt330.2.2 bt333.2.1 bt333.2.2.1 bt333.2.2.2) else (some false)))) else (some false)) = some r := H
                          have A46 := Aside0.mk A460
                          clear A460
                          by_cases c47 : t323 = t326
                          · rw [if_pos c47] at H
                            have c47b0 : (t323 == t326) = true := beq_iff_eq.mpr c47
                            have c47b1 : (t323 != t326) = false := bne_eq_false_iff_eq.mpr c47
                            clear c47
                            replace H := Option.bind_eq_some_iff.mp H
                            obtain ⟨⟨t330, t331, t332⟩, A480, H⟩ := H
                            replace H : ((lockgateref01_Reader_End.f t327 t328 t329).bind fun bt333 => (if t330 = bt333.1 then (lockgatelaw01_PackReads.l0 kj15 l1 t280 (wrap64 (x8_1 + 1)) t331 t332 bt333.2.1 bt333.2.2.1 bt333.2.2.2) else (some false))) = some r := H
                            have A48 := Aside0.mk A480
                            clear A480
                            replace H := Option.bind_eq_some_iff.mp H
                            obtain ⟨⟨t333, t334, t335, t336⟩, A490, H⟩ := H
                            replace H : (if t330 = t333 then (lockgatelaw01_PackReads.l0 kj15 l1 t280 (wrap64 (x8_1 + 1)) t331 t332 t334 t335 t336) else (some false)) = some r := H
                            have A49 := Aside0.mk A490
                            clear A490
                            by_cases c50 : t330 = t333
                            · rw [if_pos c50] at H
                              have c50b0 : (t330 == t333) = true := beq_iff_eq.mpr c50
                              have c50b1 : (t330 != t333) = false := bne_eq_false_iff_eq.mpr c50
                              clear c50
                              have H' := Aside0.mk H
                              clear H
                              go_wp2_with (first | (go_at_call 25; (with_reducible refine (pack_Reader_Left.calls g284 x285000_15 x285001_15 t323 t324 t325 w _ ?side1 ?side2 A45.out).mono ?_); (case side1 => exact ⟨by (with_reducible repeat (first | refine blk_drewN ?_ _ | refine blk_drew ?_ | refine blk_alloc ?_ _)); exact BK284.out, GE284.out⟩); (case side2 => repeat (first | (with_reducible first | exact HB.out | apply below_alloc | apply pw_below_drewN | apply below_drew1 | refine below_set ?_ GE284.out | refine below_set ?_ GE285.out) | exact HB.out)); rintro e w51 ⟨rfl, hi, hb, hk⟩; have n0_ := Aside0.mk (KeepBut.blk hk (g' := gb285) (o := .cells #[.string x286000_15, .int .i64 x286001_15, .bool x286002_15] 49 (0, 0)) (by (with_reducible repeat (first | refine blk_drewN ?_ _ | refine blk_drew ?_ | refine blk_alloc ?_ _)); exact BK285.out) NB285_284.out (by simp)); have n1_ := Aside0.mk (hb); have n2_ := Aside0.mk (hi.1); clear BK285; clear HB; clear BK284; have BK285 := n0_; have HB := n1_; have BK284 := n2_; clear n0_ n1_ n2_; (try clear hb); (try clear hk); (try clear hi)) | (go_at_call 34; (with_reducible refine (lockgateref01_Reader_Left.calls gb285 x286000_15 x286001_15 x286002_15 t326 t327 t328 t329 w _ ?side1 ?side2 A46.out).mono ?_); (case side1 => exact ⟨by (with_reducible repeat (first | refine blk_drewN ?_ _ | refine blk_drew ?_ | refine blk_alloc ?_ _)); exact BK285.out, GE285.out⟩); (case side2 => repeat (first | (with_reducible first | exact HB.out | apply below_alloc | apply pw_below_drewN | apply below_drew1 | refine below_set ?_ GE284.out | refine below_set ?_ GE285.out) | exact HB.out)); rintro e w52 ⟨rfl, hi, hb, hk⟩; have n0_ := Aside0.mk (KeepBut.blk hk (g' := g284) (o := .cells #[.string t324, .bool t325] 53 (0, 0)) (by (with_reducible repeat (first | refine blk_drewN ?_ _ | refine blk_drew ?_ | refine blk_alloc ?_ _)); exact BK284.out) NB284_285.out (by simp)); have n1_ := Aside0.mk (hb); have n2_ := Aside0.mk (hi.1); clear BK284; clear HB; clear BK285; have BK284 := n0_; have HB := n1_; have BK285 := n2_; clear n0_ n1_ n2_; (try clear hb); (try clear hk); (try clear hi)) | (go_at_call 27; (with_reducible refine (pack_Reader_End.calls g284 t324 t325 t330 t331 t332 w _ ?side1 ?side2 A48.out).mono ?_); (case side1 => exact ⟨by (with_reducible repeat (first | refine blk_drewN ?_ _ | refine blk_drew ?_ | refine blk_alloc ?_ _)); exact BK284.out, GE284.out⟩); (case side2 => repeat (first | (with_reducible first | exact HB.out | apply below_alloc | apply pw_below_drewN | apply below_drew1 | refine below_set ?_ GE284.out | refine below_set ?_ GE285.out) | exact HB.out)); rintro e w53 ⟨rfl, hi, hb, hk⟩; have n0_ := Aside0.mk (KeepBut.blk hk (g' := gb285) (o := .cells #[.string t327, .int .i64 t328, .bool t329] 49 (0, 0)) (by (with_reducible repeat (first | refine blk_drewN ?_ _ | refine blk_drew ?_ | refine blk_alloc ?_ _)); exact BK285.out) NB285_284.out (by simp)); have n1_ := Aside0.mk (hb); have n2_ := Aside0.mk (hi.1); clear BK285; clear HB; clear BK284; have BK285 := n0_; have HB := n1_; have BK284 := n2_; clear n0_ n1_ n2_; (try clear hb); (try clear hk); (try clear hi)) | (go_at_call 35; (with_reducible refine (lockgateref01_Reader_End.calls gb285 t327 t328 t329 t333 t334 t335 t336 w _ ?side1 ?side2 A49.out).mono ?_); (case side1 => exact ⟨by (with_reducible repeat (first | refine blk_drewN ?_ _ | refine blk_drew ?_ | refine blk_alloc ?_ _)); exact BK285.out, GE285.out⟩); (case side2 => repeat (first | (with_reducible first | exact HB.out | apply below_alloc | apply pw_below_drewN | apply below_drew1 | refine below_set ?_ GE284.out | refine below_set ?_ GE285.out) | exact HB.out)); rintro e w54 ⟨rfl, hi, hb, hk⟩; have n0_ := Aside0.mk (KeepBut.blk hk (g' := g284) (o := .cells #[.string t331, .bool t332] 53 (0, 0)) (by (with_reducible repeat (first | refine blk_drewN ?_ _ | refine blk_drew ?_ | refine blk_alloc ?_ _)); exact BK284.out) NB284_285.out (by simp)); have n1_ := Aside0.mk (hb); have n2_ := Aside0.mk (hi.1); clear BK284; clear HB; clear BK285; have BK284 := n0_; have HB := n1_; have BK285 := n2_; clear n0_ n1_ n2_; (try clear hb); (try clear hk); (try clear hi)))
                              go_roundg kj15
                              case measure => have := HK1.out; have := HJ8.out; have := HJ13.out; have := HJ15.out; omega
                              case rel => exact ⟨(wrap64 (x8_1 + 1)), (t331), (t332), (t334), (t335), (t336), (by first | rfl | (simp; done) | (simp [*]; done)), H', ⟨by have := HK1.out; have := HJ8.out; have := HJ13.out; have := HJ15.out; omega⟩, ⟨by (with_reducible repeat (first | refine blk_drewN ?_ _ | refine blk_drew ?_ | refine blk_alloc ?_ _)); exact BK284.out⟩, ⟨by (with_reducible repeat (first | refine blk_drewN ?_ _ | refine blk_drew ?_ | refine blk_alloc ?_ _)); exact BK285.out⟩, ⟨by repeat (first | (with_reducible first | exact HB.out | apply below_alloc | apply pw_below_drewN | apply below_drew1 | refine below_set ?_ GE284.out | refine below_set ?_ GE285.out) | exact HB.out)⟩⟩
                            · rw [if_neg c50] at H
                              have c50b0 : (t330 == t333) = false := beq_eq_false_iff_ne.mpr c50
                              have c50b1 : (t330 != t333) = true := bne_iff_ne.mpr c50
                              obtain rfl := Option.some.inj H
                              go_wp2_with (first | (go_at_call 25; (with_reducible refine (pack_Reader_Left.calls g284 x285000_15 x285001_15 t323 t324 t325 w _ ?side1 ?side2 A45.out).mono ?_); (case side1 => exact ⟨by (with_reducible repeat (first | refine blk_drewN ?_ _ | refine blk_drew ?_ | refine blk_alloc ?_ _)); exact BK284.out, GE284.out⟩); (case side2 => repeat (first | (with_reducible first | exact HB.out | apply below_alloc | apply pw_below_drewN | apply below_drew1 | refine below_set ?_ GE284.out | refine below_set ?_ GE285.out) | exact HB.out)); rintro e w55 ⟨rfl, hi, hb, hk⟩; have n0_ := Aside0.mk (KeepBut.blk hk (g' := gb285) (o := .cells #[.string x286000_15, .int .i64 x286001_15, .bool x286002_15] 49 (0, 0)) (by (with_reducible repeat (first | refine blk_drewN ?_ _ | refine blk_drew ?_ | refine blk_alloc ?_ _)); exact BK285.out) NB285_284.out (by simp)); have n1_ := Aside0.mk (hb); have n2_ := Aside0.mk (hi.1); clear BK285; clear HB; clear BK284; have BK285 := n0_; have HB := n1_; have BK284 := n2_; clear n0_ n1_ n2_; (try clear hb); (try clear hk); (try clear hi)) | (go_at_call 34; (with_reducible refine (lockgateref01_Reader_Left.calls gb285 x286000_15 x286001_15 x286002_15 t326 t327 t328 t329 w _ ?side1 ?side2 A46.out).mono ?_); (case side1 => exact ⟨by (with_reducible repeat (first | refine blk_drewN ?_ _ | refine blk_drew ?_ | refine blk_alloc ?_ _)); exact BK285.out, GE285.out⟩); (case side2 => repeat (first | (with_reducible first | exact HB.out | apply below_alloc | apply pw_below_drewN | apply below_drew1 | refine below_set ?_ GE284.out | refine below_set ?_ GE285.out) | exact HB.out)); rintro e w56 ⟨rfl, hi, hb, hk⟩; have n0_ := Aside0.mk (KeepBut.blk hk (g' := g284) (o := .cells #[.string t324, .bool t325] 53 (0, 0)) (by (with_reducible repeat (first | refine blk_drewN ?_ _ | refine blk_drew ?_ | refine blk_alloc ?_ _)); exact BK284.out) NB284_285.out (by simp)); have n1_ := Aside0.mk (hb); have n2_ := Aside0.mk (hi.1); clear BK284; clear HB; clear BK285; have BK284 := n0_; have HB := n1_; have BK285 := n2_; clear n0_ n1_ n2_; (try clear hb); (try clear hk); (try clear hi)) | (go_at_call 27; (with_reducible refine (pack_Reader_End.calls g284 t324 t325 t330 t331 t332 w _ ?side1 ?side2 A48.out).mono ?_); (case side1 => exact ⟨by (with_reducible repeat (first | refine blk_drewN ?_ _ | refine blk_drew ?_ | refine blk_alloc ?_ _)); exact BK284.out, GE284.out⟩); (case side2 => repeat (first | (with_reducible first | exact HB.out | apply below_alloc | apply pw_below_drewN | apply below_drew1 | refine below_set ?_ GE284.out | refine below_set ?_ GE285.out) | exact HB.out)); rintro e w57 ⟨rfl, hi, hb, hk⟩; have n0_ := Aside0.mk (KeepBut.blk hk (g' := gb285) (o := .cells #[.string t327, .int .i64 t328, .bool t329] 49 (0, 0)) (by (with_reducible repeat (first | refine blk_drewN ?_ _ | refine blk_drew ?_ | refine blk_alloc ?_ _)); exact BK285.out) NB285_284.out (by simp)); have n1_ := Aside0.mk (hb); have n2_ := Aside0.mk (hi.1); clear BK285; clear HB; clear BK284; have BK285 := n0_; have HB := n1_; have BK284 := n2_; clear n0_ n1_ n2_; (try clear hb); (try clear hk); (try clear hi)) | (go_at_call 35; (with_reducible refine (lockgateref01_Reader_End.calls gb285 t327 t328 t329 t333 t334 t335 t336 w _ ?side1 ?side2 A49.out).mono ?_); (case side1 => exact ⟨by (with_reducible repeat (first | refine blk_drewN ?_ _ | refine blk_drew ?_ | refine blk_alloc ?_ _)); exact BK285.out, GE285.out⟩); (case side2 => repeat (first | (with_reducible first | exact HB.out | apply below_alloc | apply pw_below_drewN | apply below_drew1 | refine below_set ?_ GE284.out | refine below_set ?_ GE285.out) | exact HB.out)); rintro e w58 ⟨rfl, hi, hb, hk⟩; have n0_ := Aside0.mk (KeepBut.blk hk (g' := g284) (o := .cells #[.string t331, .bool t332] 53 (0, 0)) (by (with_reducible repeat (first | refine blk_drewN ?_ _ | refine blk_drew ?_ | refine blk_alloc ?_ _)); exact BK284.out) NB284_285.out (by simp)); have n1_ := Aside0.mk (hb); have n2_ := Aside0.mk (hi.1); clear BK284; clear HB; clear BK285; have BK284 := n0_; have HB := n1_; have BK285 := n2_; clear n0_ n1_ n2_; (try clear hb); (try clear hk); (try clear hi)))
                              go_ret
                              exact ⟨by first | rfl | (simp [errW_none, errW_some] <;> rfl) | (simp [*, errW_none, errW_some] <;> rfl), by repeat (first | (with_reducible first | exact HB.out | apply below_alloc | apply pw_below_drewN | apply below_drew1 | refine below_set ?_ GE284.out | refine below_set ?_ GE285.out) | exact HB.out)⟩
                          · rw [if_neg c47] at H
                            have c47b0 : (t323 == t326) = false := beq_eq_false_iff_ne.mpr c47
                            have c47b1 : (t323 != t326) = true := bne_iff_ne.mpr c47
                            obtain rfl := Option.some.inj H
                            go_wp2_with (first | (go_at_call 25; (with_reducible refine (pack_Reader_Left.calls g284 x285000_15 x285001_15 t323 t324 t325 w _ ?side1 ?side2 A45.out).mono ?_); (case side1 => exact ⟨by (with_reducible repeat (first | refine blk_drewN ?_ _ | refine blk_drew ?_ | refine blk_alloc ?_ _)); exact BK284.out, GE284.out⟩); (case side2 => repeat (first | (with_reducible first | exact HB.out | apply below_alloc | apply pw_below_drewN | apply below_drew1 | refine below_set ?_ GE284.out | refine below_set ?_ GE285.out) | exact HB.out)); rintro e w59 ⟨rfl, hi, hb, hk⟩; have n0_ := Aside0.mk (KeepBut.blk hk (g' := gb285) (o := .cells #[.string x286000_15, .int .i64 x286001_15, .bool x286002_15] 49 (0, 0)) (by (with_reducible repeat (first | refine blk_drewN ?_ _ | refine blk_drew ?_ | refine blk_alloc ?_ _)); exact BK285.out) NB285_284.out (by simp)); have n1_ := Aside0.mk (hb); have n2_ := Aside0.mk (hi.1); clear BK285; clear HB; clear BK284; have BK285 := n0_; have HB := n1_; have BK284 := n2_; clear n0_ n1_ n2_; (try clear hb); (try clear hk); (try clear hi)) | (go_at_call 34; (with_reducible refine (lockgateref01_Reader_Left.calls gb285 x286000_15 x286001_15 x286002_15 t326 t327 t328 t329 w _ ?side1 ?side2 A46.out).mono ?_); (case side1 => exact ⟨by (with_reducible repeat (first | refine blk_drewN ?_ _ | refine blk_drew ?_ | refine blk_alloc ?_ _)); exact BK285.out, GE285.out⟩); (case side2 => repeat (first | (with_reducible first | exact HB.out | apply below_alloc | apply pw_below_drewN | apply below_drew1 | refine below_set ?_ GE284.out | refine below_set ?_ GE285.out) | exact HB.out)); rintro e w60 ⟨rfl, hi, hb, hk⟩; have n0_ := Aside0.mk (KeepBut.blk hk (g' := g284) (o := .cells #[.string t324, .bool t325] 53 (0, 0)) (by (with_reducible repeat (first | refine blk_drewN ?_ _ | refine blk_drew ?_ | refine blk_alloc ?_ _)); exact BK284.out) NB284_285.out (by simp)); have n1_ := Aside0.mk (hb); have n2_ := Aside0.mk (hi.1); clear BK284; clear HB; clear BK285; have BK284 := n0_; have HB := n1_; have BK285 := n2_; clear n0_ n1_ n2_; (try clear hb); (try clear hk); (try clear hi)))
                            go_ret
                            exact ⟨by first | rfl | (simp [errW_none, errW_some] <;> rfl) | (simp [*, errW_none, errW_some] <;> rfl), by repeat (first | (with_reducible first | exact HB.out | apply below_alloc | apply pw_below_drewN | apply below_drew1 | refine below_set ?_ GE284.out | refine below_set ?_ GE285.out) | exact HB.out)⟩
                        · replace c44 := Bool.eq_false_iff.mpr c44
                          subst c44
                          have H1 : (some false) = some r := by rw [if_neg (show ¬ (false = true) by decide)] at H; exact H
                          clear H
                          have H := H1
                          clear H1
                          obtain rfl := Option.some.inj H
                          go_wp2
                          go_ret
                          exact ⟨by first | rfl | (simp [errW_none, errW_some] <;> rfl) | (simp [*, errW_none, errW_some] <;> rfl), by repeat (first | (with_reducible first | exact HB.out | apply below_alloc | apply pw_below_drewN | apply below_drew1 | refine below_set ?_ GE284.out | refine below_set ?_ GE285.out) | exact HB.out)⟩
              · rw [if_neg c13] at H
                exact absurd H (by simp)
            · rw [if_neg c12] at H
              exact absurd H (by simp)
          · replace c11 := Bool.eq_false_iff.mpr c11
            subst c11
            have H1 : (some t280) = some r := by rw [if_neg (show ¬ (false = true) by decide)] at H; exact H
            clear H
            have H := H1
            clear H1
            obtain rfl := Option.some.inj H
            go_wp2
            go_ret
            exact ⟨by first | rfl | (simp [errW_none, errW_some] <;> rfl) | (simp [*, errW_none, errW_some] <;> rfl), by repeat (first | (with_reducible first | exact HB.out | apply below_alloc | apply pw_below_drewN | apply below_drew1 | refine below_set ?_ GE284.out | refine below_set ?_ GE285.out) | exact HB.out)⟩

/-- THE ONE PURE STATEMENT of lockgatelaw01_PackReads: yours. -/
def lockgatelaw01_PackReads.Pure : Prop := ∀ (a0 : ByteArray) (l1 : List Int), a0.size ≤ 140737488351232 → l1.length ≤ maxLen → l1.length * 8 ≤ 140737488351232 → (∀ x ∈ l1, (Lit.int .i64 x).wf = true) → ∃ k, lockgatelaw01_PackReads.f k a0 l1 = some true
theorem lockgatelaw01_PackReads.walk (P : lockgatelaw01_PackReads.Pure) (a0 : ByteArray) (a1 : Option Addr) (len1 cap1 : Nat) (z1 : List Int) (w : World) (w0 : a0.size ≤ 140737488351232) (w1 : (a1 = none ∧ len1 = 0 ∧ cap1 = 0 ∧ z1 = []) ∨ ∃ x, a1 = some x ∧ len1 ≤ cap1 ∧ cap1 ≤ maxLen ∧ z1.length = cap1 ∧ (∀ i, i < z1.length → w.cell? (x.add i) = some (.int .i64 (z1.getD i 0))) ∧ ∀ n ∈ z1, (Lit.int .i64 n).wf = true) (y1 : len1 * 8 ≤ 140737488351232) :
    Calls Try.prog 8 #[.string a0, .slice a1 len1 cap1] w fun e w' => e = .returned (.bool true) ∧ Below w.heap.size w w' := by
  obtain ⟨l1, rfl, hr1, hm1, hw1, hc1⟩ := ReadsInt.ofRowC w1
  obtain ⟨k, h⟩ := P a0 l1 w0 hm1 y1 hw1
  refine (lockgatelaw01_PackReads.calls k a0 _ _ l1 true w (Kd.C_of_reads (d := (0 : Int)) (h1 := fun _ => rfl) hr1) hc1 h).mono ?_
  rintro e w' ⟨rfl, hd⟩
  exact ⟨rfl, hd⟩

end Go.Proofs.Ytfphaiobbpjpkaa.Q
