/- Which texts are names, which are paths, and names' zones, are as the reference says: the pure law of EntryNames. -/
import Derived.Test.YtgmbmkjdfmoanaaDoorQx7
import Derived.Test.YtgmbmkjdfmoanaaDoorQx8
import Derived.Test.YtgmbmkjdfmoanaaDoorEnR
namespace Go.Proofs.YtgmbmkjdfmoanaaDoor.Pure
open Go.RowKit Go.Proofs.YtgmbmkjdfmoanaaDoor.Q Go.Proofs.YtgmbmkjdfmoanaaDoor.By Go.Proofs.YtgmbmkjdfmoanaaDoor.Bm Go.Proofs.YtgmbmkjdfmoanaaDoorW.PrintWords Go.Proofs.YtgmbmkjdfmoanaaDoorW.PrintLast Go.Proofs.YtgmbmkjdfmoanaaDoorW.PrintMore
set_option linter.unusedVariables false
/-- What the reference's Split tells of what has been read and what is left. -/
def goalV (out : List ByteArray) (r : List UInt8) : List ByteArray × Bool :=
  if out.length + (splitL r).length ≤ 8 ∧ ((splitL r).map ba).all entry_Name.is = true then (out ++ (splitL r).map ba, true) else ([], false)
theorem goalV_name (out : List ByteArray) (x t : List UInt8) (hx : (47 : UInt8) ∉ x) (hn : entry_Name.is (ba x) = true) (ho : out.length < 8) : goalV out (x ++ 47 :: t) = goalV (out ++ [ba x]) t := by
  unfold goalV
  rw [splitL_cat x t hx, List.length_cons, List.length_append, List.length_singleton, List.map_cons, List.all_cons, hn, Bool.true_and, List.append_assoc, List.singleton_append]
  by_cases c : out.length + ((splitL t).length + 1) ≤ 8 ∧ ((splitL t).map ba).all entry_Name.is = true
  · rw [if_pos c, if_pos ⟨by omega, c.2⟩]
  · rw [if_neg c, if_neg (fun g => c ⟨by omega, g.2⟩)]
theorem goalV_bad (out : List ByteArray) (r : List UInt8) (x : List UInt8) (hx : x ∈ splitL r) (h : ¬ entry_Name.is (ba x) = true) : goalV out r = ([], false) := by
  unfold goalV
  rw [if_neg]
  rintro ⟨_, g⟩
  rw [List.all_eq_true] at g
  exact h (g _ (List.mem_map_of_mem hx))
theorem goalV_much (out : List ByteArray) (r : List UInt8) (h : ¬ out.length < 8) : goalV out r = ([], false) := by
  unfold goalV
  rw [if_neg]
  rintro ⟨g, _⟩
  have := (splitL_facts r.length r (Nat.le_refl _)).1
  omega
theorem long_not {x : ByteArray} (h : 30 < x.size) : ¬ entry_Name.is x = true := fun g => by have := (is_size g).2; omega
theorem first_part (x : List UInt8) (t : List UInt8) (hx : (47 : UInt8) ∉ x) : ∃ y z, splitL (x ++ t) = (x ++ y) :: z := by
  rcases first_slash t with h | ⟨a, b, rfl, ha, _⟩
  · refine ⟨t, [], splitL_one _ ?_⟩
    intro g
    rcases List.mem_append.1 g with g | g
    · exact hx g
    · exact h g
  · refine ⟨a, splitL b, ?_⟩
    rw [← List.append_assoc]
    apply splitL_cat
    intro g
    rcases List.mem_append.1 g with g | g
    · exact hx g
    · exact ha g
theorem rs_loop (s : ByteArray) (hs : s.size ≤ 400) (d : Nat) : ∀ (k i : Nat) (out : List ByteArray) (x : ByteArray), i + d = s.size → 1 ≤ i → 2 * d + 60 < k → x.size ≤ 30 → (47 : UInt8) ∉ x.data.toList → out.length ≤ 8 →
    lockgateref15_Split.l0 k s out x i = some (goalV out (x.data.toList ++ s.data.toList.drop i)) := by
  induction d with
  | zero =>
    intro k i out x hi h1 hk hx hn ho
    obtain ⟨k, rfl⟩ : ∃ q, k = q + 3 := ⟨k - 3, by omega⟩
    have e0 : s.data.toList.drop i = [] := List.drop_eq_nil_of_le (by rw [size_data]; omega)
    have en : splitL (x.data.toList ++ []) = [x.data.toList] := by rw [List.append_nil, splitL_one _ hn]
    rw [lockgateref15_Split.l0.eq_2, if_pos (by omega), if_neg (by omega), lockgateref15_Split.j2.eq_2, if_neg (by simp), rname_ok x (k + 1) (by omega), Option.bind_some, e0]
    by_cases c : entry_Name.is x = true
    · rw [if_pos c]
      by_cases c8 : out.length < 8
      · rw [if_neg (by omega), if_pos (by omega), w64 (x := (i : Int) + 1) (by omega) (by omega), lockgateref15_Split.l0.eq_2, if_neg (by omega)]
        unfold goalV
        rw [en, if_pos ⟨by rw [List.length_singleton]; omega, by simp only [List.map_cons, List.map_nil, List.all_cons, List.all_nil, Bool.and_true]; exact c⟩]
        rfl
      · rw [if_pos (by omega), goalV_much _ _ c8]
    · rw [if_neg c, goalV_bad out _ x.data.toList (by rw [en]; simp) c]
  | succ d ih =>
    intro k i out x hi h1 hk hx hn ho
    obtain ⟨k, rfl⟩ : ∃ q, k = q + 2 := ⟨k - 2, by omega⟩
    have hl : i < s.data.toList.length := by rw [size_data]; omega
    have ed : s.data.toList.drop i = s.data.toList[i] :: s.data.toList.drop (i + 1) := List.drop_eq_getElem_cons hl
    have hb : (bt s (i : Int) != 47) = !decide (s.data.toList[i] = 47) := by
      have e : bt s (i : Int) = ((s.data.toList[i].toNat : Nat) : Int) := by
        rw [Bm.bt_at, Int.toNat_natCast]
        unfold Bm.byteAt
        rw [List.getD_eq_getElem?_getD, List.getElem?_eq_getElem hl]; rfl
      rw [e]
      by_cases g : s.data.toList[i] = 47
      · rw [g]; rfl
      · rw [decide_eq_false g]
        show _ = true
        rw [bne_iff_ne]
        intro h
        apply g
        apply UInt8.toNat_inj.1
        show _ = 47
        omega
    rw [lockgateref15_Split.l0.eq_2, if_pos (by omega), if_pos (by omega), if_pos (by omega), hb, ed]
    generalize hc : s.data.toList[i] = c
    by_cases c47 : c = 47
    · rw [show (!decide (c = 47)) = false by rw [decide_eq_true c47]; rfl, lockgateref15_Split.j2.eq_2, if_neg (by simp), rname_ok x k (by omega), Option.bind_some, c47]
      by_cases cn : entry_Name.is x = true
      · rw [if_pos cn]
        by_cases c8 : out.length < 8
        · have next := ih k (i + 1) (out ++ [x]) ⟨#[]⟩ (by omega) (by omega) (by omega) (by show 0 ≤ 30; omega) (by simp) (by rw [List.length_append, List.length_singleton]; omega)
          rw [if_neg (by omega), if_pos (by omega), w64 (x := (i : Int) + 1) (by omega) (by omega), show (i : Int) + 1 = ((i + 1 : Nat) : Int) by omega, next, goalV_name out _ _ hn cn c8]
          rfl
        · rw [if_pos (by omega), goalV_much _ _ c8]
      · rw [if_neg cn, goalV_bad out _ x.data.toList (by rw [splitL_cat _ _ hn]; simp) cn]
    · have ex : s.extract i (i + 1) = ba [c] := data_ext (by rw [ext_data, ed, hc, ba_data, Nat.add_sub_cancel_left]; rfl)
      have hz : (x ++ ba [c]).size = x.size + 1 := app_size _ _
      have hn2 : (47 : UInt8) ∉ (x ++ ba [c]).data.toList := by
        rw [app_data, ba_data]
        intro g
        rcases List.mem_append.1 g with g | g
        · exact hn g
        · simp at g; exact c47 g.symm
      have el : x.data.toList ++ c :: s.data.toList.drop (i + 1) = (x ++ ba [c]).data.toList ++ s.data.toList.drop (i + 1) := by rw [app_data, ba_data, List.append_assoc]; rfl
      rw [show (!decide (c = 47)) = true by rw [decide_eq_false c47]; rfl, lockgateref15_Split.j2.eq_2, if_pos rfl, w64 (x := (i : Int) + 1) (by omega) (by omega), if_pos (by omega), if_pos (by omega), if_pos (by omega), Int.toNat_natCast, show ((i : Int) + 1).toNat = i + 1 by omega, ex, if_pos (by rw [show (ba [c]).size = 1 from rfl]; omega), el]
      by_cases c30 : 30 < (x ++ ba [c]).size
      · rw [if_pos (by omega)]
        obtain ⟨y, z, e⟩ := first_part (x ++ ba [c]).data.toList (s.data.toList.drop (i + 1)) hn2
        rw [goalV_bad out _ ((x ++ ba [c]).data.toList ++ y) (by rw [e]; simp) (long_not (by rw [ba_size, List.length_append, size_data]; omega))]
      · rw [if_neg (by omega), show (i : Int) + 1 = ((i + 1 : Nat) : Int) by omega]
        exact ih k (i + 1) out (x ++ ba [c]) (by omega) (by omega) (by omega) (by omega) hn2 ho
theorem goal_split (s : ByteArray) (h : 1 ≤ s.size) (hsl : s.extract 0 1 = slash) (hne : ¬ s = slash) : goalV [] (s.data.toList.drop 1) = splitV s := by
  have e : (s.extract 1 s.size).data.toList = s.data.toList.drop 1 := by
    rw [ext_data, List.take_of_length_le (by rw [List.length_drop, size_data]; omega)]
  unfold splitV goalV
  rw [if_neg hne]
  have ep : parts (s.extract 1 s.size) = (splitL (s.data.toList.drop 1)).map ba := by unfold parts; rw [e]
  unfold goodP
  rw [ep, List.length_map, List.length_nil, Nat.zero_add, List.nil_append]
  by_cases c : (splitL (s.data.toList.drop 1)).length ≤ 8 ∧ ((splitL (s.data.toList.drop 1)).map ba).all entry_Name.is = true
  · rw [if_pos c, if_pos ⟨h, hsl, by rw [c.2, decide_eq_true c.1]; rfl⟩]
  · rw [if_neg c, if_neg]
    rintro ⟨_, _, g⟩
    rw [Bool.and_eq_true, decide_eq_true_eq] at g
    exact c g
theorem rsplit_gen (B s : ByteArray) (hBs : B = slash) (eB : B.toList = ([47] : List UInt8)) (hs : s.size ≤ 400) (k : Nat) (hk : 1000 ≤ k) : lockgateref15_Split.f k s = some (splitV s) := by
  obtain ⟨k, rfl⟩ : ∃ q, k = q + 1 := ⟨k - 1, by omega⟩
  unfold lockgateref15_Split.f
  rw [← eB]
  by_cases c0 : s = B
  · rw [if_pos (by rw [c0])]
    unfold splitV
    rw [if_pos (c0.trans hBs)]
  rw [if_neg (fun g => c0 (Bm.toList_ext.1 g))]
  have hne : ¬ s = slash := fun g => c0 (g.trans hBs.symm)
  have bad : ¬ (1 ≤ s.size ∧ s.extract 0 1 = slash) → lockgateref15_Split.j0 (k + 1) s true = some (splitV s) := by
    intro h
    rw [lockgateref15_Split.j0.eq_2, if_pos rfl]
    unfold splitV
    rw [if_neg hne, if_neg (fun g => h ⟨g.1, g.2.1⟩)]
  by_cases c1 : s = ⟨#[]⟩
  · rw [if_pos (toList_nil.2 c1)]
    exact bad (fun g => by rw [c1] at g; exact absurd g.1 (by decide))
  rw [if_neg (fun g => c1 (toList_nil.1 g))]
  have hz : 1 ≤ s.size := by
    have : ¬ s.size = 0 := fun g => c1 (nil_of_size g)
    omega
  rw [if_pos (by omega)]
  have hl : 0 < s.data.toList.length := by rw [size_data]; omega
  have e0 : bt s 0 = ((s.data.toList[0].toNat : Nat) : Int) := by
    have := Bm.bt_at s (0 : Int)
    rw [this]
    unfold Bm.byteAt
    rw [show (0 : Int).toNat = 0 from rfl, List.getD_eq_getElem?_getD, List.getElem?_eq_getElem hl]; rfl
  have ex : s.extract 0 1 = ba [s.data.toList[0]] := data_ext (by
    rw [ext_data, ba_data, List.drop_zero]
    obtain ⟨a, t, e⟩ := List.exists_cons_of_ne_nil (List.ne_nil_of_length_pos hl)
    simp only [e]; rfl)
  by_cases c : s.data.toList[0] = 47
  · rw [show (bt s 0 != 47) = false by rw [e0, c]; rfl, lockgateref15_Split.j0.eq_2, if_neg (by simp)]
    have := rs_loop s hs (s.size - 1) k 1 [] ⟨#[]⟩ (by omega) (by omega) (by omega) (by show 0 ≤ 30; omega) (by simp) (by simp)
    rw [show ((1 : Nat) : Int) = 1 from rfl] at this
    rw [this]
    congr 1
    exact goal_split s hz (by rw [ex, c]; rfl) hne
  · have nb : (bt s 0 != 47) = true := by
      rw [e0, bne_iff_ne]
      intro g
      apply c
      apply UInt8.toNat_inj.1
      show _ = 47
      omega
    rw [nb]
    refine bad (fun g => c ?_)
    have := congrArg (fun z : ByteArray => z.data.toList) (ex.symm.trans g.2)
    simpa [ba, slash] using this
theorem rsplit_ok (s : ByteArray) (hs : s.size ≤ 400) (k : Nat) (hk : 1000 ≤ k) : lockgateref15_Split.f k s = some (splitV s) := rsplit_gen slash s rfl (by decide +kernel) hs k hk
theorem rzone_loop (s : ByteArray) (hs : s.size ≤ 100) (d : Nat) : ∀ (k i : Nat), i + d = s.size → d < k →
    lockgateref15_Zone.l0 k s (((bytesOf s).take i).sum % 4) i = some (sumB s % 4) := by
  induction d with
  | zero =>
    intro k i hi hk
    obtain ⟨k, rfl⟩ : ∃ q, k = q + 1 := ⟨k - 1, by omega⟩
    obtain rfl : i = s.size := by omega
    have e : ((bytesOf s).take s.size).sum = sumB s := by rw [List.take_of_length_le (by rw [bytesOf_length]; omega)]; rfl
    rw [lockgateref15_Zone.l0.eq_2, if_neg (by omega), e]
  | succ d ih =>
    intro k i hi hk
    obtain ⟨k, rfl⟩ : ∃ q, k = q + 1 := ⟨k - 1, by omega⟩
    have next := ih k (i + 1) (by omega) (by omega)
    rw [take_sum s i (by omega)] at next
    have hbt : 0 ≤ bt s (i : Int) ∧ bt s (i : Int) < 256 := by rw [Bm.bt_at]; have := byteAt_lt s (i : Int).toNat; omega
    rw [lockgateref15_Zone.l0.eq_2, if_pos (by omega), if_pos (by omega)]
    generalize ((bytesOf s).take i).sum = v at next ⊢
    generalize bt s (i : Int) = b at hbt next ⊢
    rw [w64 (x := b) (by omega) (by omega), w64 (x := v % 4 + b) (by omega) (by omega), w64 (x := (i : Int) + 1) (by omega) (by omega), show (i : Int) + 1 = ((i + 1 : Nat) : Int) by omega, Int.tmod_eq_emod_of_nonneg (by omega), show (v % 4 + b) % 4 = (v + b) % 4 by omega]
    exact next
theorem rzone_ok (s : ByteArray) (hs : s.size ≤ 100) (k : Nat) (hk : 200 ≤ k) : lockgateref15_Zone.f k s = some (sumB s % 4) := rzone_loop s hs s.size k 0 (by omega) (by omega)
theorem splitV_len (s : ByteArray) : (splitV s).1.length ≤ 8 := by
  unfold splitV
  split
  · simp
  · split
    · rename_i h
      have := h.2.2
      unfold goodP at this
      rw [Bool.and_eq_true, decide_eq_true_eq] at this
      exact this.1
    · simp
theorem EntryNames : lockgatelaw15_EntryNames.Pure := by
  intro s path w0 w1
  obtain ⟨k, hk⟩ : ∃ k : Nat, 2000 ≤ k := ⟨2000, Nat.le_refl _⟩
  refine ⟨k, ?_⟩
  unfold lockgatelaw15_EntryNames.f
  rw [awake_ok k (by omega), Option.bind_some, show (60 : Int) = ((60 : Nat) : Int) from rfl, short_ok _ 60 w0, Option.bind_some, show (400 : Int) = ((400 : Nat) : Int) from rfl, short_ok _ 400 w1, Option.bind_some]
  have hs := cutTo_size s 60
  have hp := cutTo_size path 400
  generalize cutTo s 60 = s at hs
  generalize cutTo path 400 = p at hp
  rw [esplit_ok p (by omega) k (by omega), Option.bind_some, rsplit_ok p hp k (by omega), Option.bind_some, same_ok _ (by have := splitV_len p; omega) k (by have := splitV_len p; omega), Option.bind_some, if_pos rfl]
  unfold entry_Name.f
  rw [Option.bind_some, rname_ok s k (by omega), Option.bind_some, if_pos (beq_self_eq_true _), if_pos rfl, if_pos (beq_self_eq_true _), zone_ok s (by omega) k (by omega), Option.bind_some, rzone_ok s (by omega) k (by omega), Option.bind_some, beq_self_eq_true]
end Go.Proofs.YtgmbmkjdfmoanaaDoor.Pure
