/- Names that are put together as a path are split again; a name more than eight is too much: the pure law of EntryPaths. -/
import Derived.Test.YtgmbmkjdfmoanaaDoorQx9
import Derived.Test.YtgmbmkjdfmoanaaDoorEnR
import Derived.Test.YtgmbmkjdfmoanaaDoorSayEntryPaths
namespace Go.Proofs.YtgmbmkjdfmoanaaDoor.Pure
open Go.RowKit Go.Proofs.YtgmbmkjdfmoanaaDoor.Q Go.Proofs.YtgmbmkjdfmoanaaDoor.By Go.Proofs.YtgmbmkjdfmoanaaDoor.Bm Go.Proofs.YtgmbmkjdfmoanaaDoorW.PrintWords Go.Proofs.YtgmbmkjdfmoanaaDoorW.PrintLast Go.Proofs.YtgmbmkjdfmoanaaDoorW.PrintMore
set_option linter.unusedVariables false
/-- Names put together: a slash ahead of each. -/
def joinP : List ByteArray → ByteArray
  | [] => ⟨#[]⟩
  | x :: l => slash ++ x ++ joinP l
theorem joinP_snoc (l : List ByteArray) (x : ByteArray) : joinP (l ++ [x]) = joinP l ++ slash ++ x := by
  induction l with
  | nil => simp only [List.nil_append, joinP]; rw [app_nil, nil_app]
  | cons y l ih => rw [List.cons_append, joinP, ih, joinP, app_assoc, app_assoc, app_assoc, app_assoc, app_assoc]
theorem joinP_size (l : List ByteArray) (h : ∀ x ∈ l, x.size ≤ 40) : (joinP l).size ≤ 41 * l.length := by
  induction l with
  | nil => exact Nat.le_refl 0
  | cons x l ih =>
    have h1 := h x (by simp)
    have h2 := ih (fun y hy => h y (by simp [hy]))
    rw [joinP, app_size, app_size, slash_size, List.length_cons]
    omega
def noSl (x : ByteArray) : Prop := (47 : UInt8) ∉ x.data.toList
/-- The parts of names without slashes are the names. -/
theorem parts_join (x : ByteArray) (l : List ByteArray) : noSl x → (∀ y ∈ l, noSl y) → parts (x ++ joinP l) = x :: l := by
  induction l generalizing x with
  | nil =>
    intro hx _
    rw [joinP, app_nil]
    unfold parts
    rw [splitL_one _ hx]
    rfl
  | cons y l ih =>
    intro hx hl
    have := ih y (hl y (by simp)) (fun z hz => hl z (by simp [hz]))
    rw [joinP]
    unfold parts at this ⊢
    rw [app_data, app_assoc, app_data, show slash.data.toList = [47] from rfl, List.singleton_append, splitL_cat _ _ hx, List.map_cons, this]
    rfl
section
variable (l0 : List ByteArray)
def nm (i : Nat) : ByteArray := cutTo (rdOf ByteArray.empty l0 (i : Int)) 40
def nms (i : Nat) : List ByteArray := (List.range i).map (nm l0)
theorem nms_succ (i : Nat) : nms l0 (i + 1) = nms l0 i ++ [nm l0 i] := by unfold nms; rw [List.range_succ, List.map_append]; rfl
theorem nms_length (i : Nat) : (nms l0 i).length = i := by unfold nms; simp
theorem nms_mem (i : Nat) (x : ByteArray) (h : x ∈ nms l0 i) : x.size ≤ 40 := by
  unfold nms at h
  rw [List.mem_map] at h
  obtain ⟨j, _, rfl⟩ := h
  exact cutTo_size _ _
variable (h0 : ∀ x ∈ l0, x.size ≤ 140737488351232)
include h0 in
theorem put_loop (m : Nat) (hm : m = min l0.length 10) (d : Nat) : ∀ (k i : Nat), i + d = m → 2 * d + 2 < k →
    lockgatelaw15_EntryPaths.l0 k l0 true (joinP (nms l0 i)) (nms l0 i) ((nms l0 i).all entry_Name.is) i = lockgatelaw15_EntryPaths.j2 (k - 2 * d - 2) true (if m = 0 then slash else joinP (nms l0 m)) (nms l0 m) ((nms l0 m).all entry_Name.is) := by
  induction d with
  | zero =>
    intro k i hi hk
    obtain ⟨k, rfl⟩ : ∃ q, k = q + 2 := ⟨k - 2, by omega⟩
    obtain rfl : i = m := by omega
    have fin : lockgatelaw15_EntryPaths.j1 (k + 1) l0 true (joinP (nms l0 i)) (nms l0 i) ((nms l0 i).all entry_Name.is) i false = lockgatelaw15_EntryPaths.j2 k true (if i = 0 then slash else joinP (nms l0 i)) (nms l0 i) ((nms l0 i).all entry_Name.is) := by
      rw [lockgatelaw15_EntryPaths.j1.eq_2, if_neg (by simp), nms_length]
      by_cases c : i = 0
      · rw [if_pos (by omega), if_pos c]; rfl
      · rw [if_neg (by omega), if_neg c]
    rw [show k + 2 - 2 * 0 - 2 = k by omega, lockgatelaw15_EntryPaths.l0.eq_2, ← fin]
    by_cases c0 : (i : Int) < (l0.length : Int)
    · rw [if_pos c0, decide_eq_false (by omega)]
    · rw [if_neg c0]
  | succ d ih =>
    intro k i hi hk
    obtain ⟨k, rfl⟩ : ∃ q, k = q + 2 := ⟨k - 2, by omega⟩
    have next := ih k (i + 1) (by omega) (by omega)
    have hx : (rdOf ByteArray.empty l0 (i : Int)).size ≤ 140737488351232 := by
      apply h0
      unfold rdOf
      rw [Int.toNat_natCast, List.getD_eq_getElem?_getD, List.getElem?_eq_getElem (by omega)]
      exact List.getElem_mem (by omega)
    have hs := cutTo_size (rdOf ByteArray.empty l0 (i : Int)) 40
    have hj := joinP_size (nms l0 i) (nms_mem l0 i)
    rw [nms_length] at hj
    have ha : (nms l0 (i + 1)).all entry_Name.is = ((nms l0 i).all entry_Name.is && entry_Name.is (nm l0 i)) := by rw [nms_succ, List.all_append]; simp
    rw [ha, nms_succ, joinP_snoc] at next
    have hl := nms_length l0 i
    rw [lockgatelaw15_EntryPaths.l0.eq_2, if_pos (by omega), decide_eq_true (by omega), lockgatelaw15_EntryPaths.j1.eq_2, if_pos rfl, if_pos (by omega), if_pos (by omega), show (40 : Int) = ((40 : Nat) : Int) from rfl, short_ok _ 40 hx, Option.bind_some]
    change _ at next
    have en : nm l0 i = cutTo (rdOf ByteArray.empty l0 (i : Int)) 40 := rfl
    rw [en] at next
    generalize cutTo (rdOf ByteArray.empty l0 (i : Int)) 40 = x at hs next ⊢
    generalize nms l0 i = L at hl hj next ⊢
    rw [show (⟨#[47]⟩ : ByteArray) = slash from rfl, if_pos (by omega), if_pos (by rw [app_size, slash_size]; omega), if_pos (by omega), Option.bind_some, w64 (x := (i : Int) + 1) (by omega) (by omega), show (i : Int) + 1 = ((i + 1 : Nat) : Int) by omega, show k + 2 - 2 * (d + 1) - 2 = k - 2 * d - 2 by omega, ← next]
    unfold entry_Name.f
    cases L.all entry_Name.is with
    | true => rw [if_pos rfl, Option.bind_some, Bool.true_and]
    | false => rw [if_neg (by simp), Bool.false_and]
end
theorem bt_slash (x : ByteArray) (j : Nat) (h : j < x.data.toList.length) : (bt x (j : Int) == 47) = decide (x.data.toList[j] = 47) := by
  have e : bt x (j : Int) = ((x.data.toList[j].toNat : Nat) : Int) := by
    rw [Bm.bt_at, Int.toNat_natCast]
    unfold Bm.byteAt
    rw [List.getD_eq_getElem?_getD, List.getElem?_eq_getElem h]; rfl
  rw [e, Bool.eq_iff_iff, beq_iff_eq, decide_eq_true_eq]
  constructor
  · intro g
    apply UInt8.toNat_inj.1
    show _ = 47
    omega
  · intro g; rw [g]; rfl
/-- Is there a slash behind a place? -/
def slFrom (x : ByteArray) (j : Nat) : Bool := decide ((47 : UInt8) ∈ x.data.toList.drop j)
theorem slFrom_step (x : ByteArray) (j : Nat) (h : j < x.data.toList.length) : slFrom x j = ((bt x (j : Int) == 47) || slFrom x (j + 1)) := by
  unfold slFrom
  rw [bt_slash x j h, List.drop_eq_getElem_cons h, Bool.eq_iff_iff, Bool.or_eq_true, decide_eq_true_eq, decide_eq_true_eq, decide_eq_true_eq, List.mem_cons]
  constructor
  · rintro (g | g)
    · exact .inl g.symm
    · exact .inr g
  · rintro (g | g)
    · exact .inl g.symm
    · exact .inr g
theorem l2_loop (x4 : ByteArray) (L : List ByteArray) (x10 : Bool) (i : Nat) (hi : i < L.length) (hL : L.length ≤ 100) (x : ByteArray) (hx : rdOf ByteArray.empty L (i : Int) = x) (hs : x.size ≤ 40) (e : Nat) : ∀ (k j : Nat) (acc : Bool), j + e = x.size → e < k →
    lockgatelaw15_EntryPaths.l2 k true x4 L x10 acc i j = lockgatelaw15_EntryPaths.l1 (k - e - 1) true x4 L x10 (acc || slFrom x j) ((i + 1 : Nat) : Int) := by
  induction e with
  | zero =>
    intro k j acc hj hk
    obtain ⟨k, rfl⟩ : ∃ q, k = q + 1 := ⟨k - 1, by omega⟩
    have e0 : slFrom x j = false := by
      unfold slFrom
      rw [List.drop_eq_nil_of_le (by rw [size_data]; omega)]
      rfl
    rw [lockgatelaw15_EntryPaths.l2.eq_2, if_pos (by omega), if_pos (by omega), hx, if_neg (by omega), e0, Bool.or_false, w64 (x := (i : Int) + 1) (by omega) (by omega)]
    rfl
  | succ e ih =>
    intro k j acc hj hk
    obtain ⟨k, rfl⟩ : ∃ q, k = q + 1 := ⟨k - 1, by omega⟩
    have next := ih k (j + 1) (acc || (bt x (j : Int) == 47)) (by omega) (by omega)
    rw [show k + 1 - (e + 1) - 1 = k - e - 1 by omega, slFrom_step x j (by rw [size_data]; omega), ← Bool.or_assoc, ← next]
    rw [lockgatelaw15_EntryPaths.l2.eq_2, if_pos (by omega), if_pos (by omega), hx, if_pos (by omega), w64 (x := (j : Int) + 1) (by omega) (by omega), show (j : Int) + 1 = ((j + 1 : Nat) : Int) by omega]
    cases acc with
    | true => rw [if_pos rfl, Bool.true_or]
    | false => rw [if_neg (by simp), if_pos (by omega), Bool.false_or]
/-- Is there a slash in any of them, from one on? -/
def anySl (L : List ByteArray) (i : Nat) : Bool := (L.drop i).any fun x => slFrom x 0
theorem anySl_step (L : List ByteArray) (i : Nat) (h : i < L.length) : anySl L i = (slFrom (rdOf ByteArray.empty L (i : Int)) 0 || anySl L (i + 1)) := by
  unfold anySl
  have e : rdOf ByteArray.empty L (i : Int) = L[i] := by
    unfold rdOf
    rw [Int.toNat_natCast, List.getD_eq_getElem?_getD, List.getElem?_eq_getElem h]; rfl
  rw [List.drop_eq_getElem_cons h, List.any_cons, e]
theorem l1_loop (x4 : ByteArray) (L : List ByteArray) (x10 : Bool) (hL : L.length ≤ 100) (hs : ∀ x ∈ L, x.size ≤ 40) (d : Nat) : ∀ (k i : Nat) (acc : Bool), i + d = L.length → 42 * d < k →
    lockgatelaw15_EntryPaths.l1 k true x4 L x10 acc i = some (!x10 || (acc || anySl L i) || (x4.toList == ([47] : List UInt8))) := by
  induction d with
  | zero =>
    intro k i acc hi hk
    obtain ⟨k, rfl⟩ : ∃ q, k = q + 1 := ⟨k - 1, by omega⟩
    have e0 : anySl L i = false := by unfold anySl; rw [List.drop_eq_nil_of_le (by omega)]; rfl
    rw [lockgatelaw15_EntryPaths.l1.eq_2, if_neg (by omega), if_pos rfl, e0, Bool.or_false]
    cases x10 with
    | false => rw [if_neg (by simp)]; rfl
    | true =>
      rw [if_pos rfl]
      cases acc with
      | true => rw [if_pos rfl]; rfl
      | false => rw [if_neg (by simp)]; rfl
  | succ d ih =>
    intro k i acc hi hk
    obtain ⟨k, rfl⟩ : ∃ q, k = q + 1 := ⟨k - 1, by omega⟩
    have hx : (rdOf ByteArray.empty L (i : Int)).size ≤ 40 := by
      apply hs
      unfold rdOf
      rw [Int.toNat_natCast, List.getD_eq_getElem?_getD, List.getElem?_eq_getElem (by omega)]
      exact List.getElem_mem (by omega)
    rw [lockgatelaw15_EntryPaths.l1.eq_2, if_pos (by omega)]
    have h2 := l2_loop x4 L x10 i (by omega) hL _ rfl hx (rdOf ByteArray.empty L (i : Int)).size k 0 acc (by omega) (by omega)
    rw [show ((0 : Nat) : Int) = 0 from rfl] at h2
    rw [h2, ih _ (i + 1) _ (by omega) (by omega), anySl_step L i (by omega), Bool.or_assoc acc]
theorem noSl_is {x : ByteArray} (h : entry_Name.is x = true) : noSl x := by
  unfold entry_Name.is at h
  rw [decide_eq_true_eq] at h
  intro g
  obtain ⟨j, hj, e⟩ := List.mem_iff_getElem.1 g
  have h1 := h.2 j (by rw [← size_data]; exact hj)
  have h2 : (bt x (j : Int) == 47) = true := by rw [bt_slash x j hj, e]; rfl
  rw [beq_iff_eq] at h2
  rw [h2] at h1
  exact absurd h1 (by decide)
/-- Of a path that was put together of names without slashes. -/
theorem split_join (x : ByteArray) (l : List ByteArray) (hx : noSl x) (hl : ∀ y ∈ l, noSl y) (hne : ¬ joinP (x :: l) = slash) :
    splitV (joinP (x :: l)) = if (decide ((x :: l).length ≤ 8) && (x :: l).all entry_Name.is) = true then (x :: l, true) else ([], false) := by
  have e : joinP (x :: l) = slash ++ (x ++ joinP l) := by rw [joinP, app_assoc]
  have hp := parts_join x l hx hl
  unfold splitV
  rw [if_neg hne, e]
  have z := app_size slash (x ++ joinP l)
  rw [slash_size] at z
  have e1 : (slash ++ (x ++ joinP l)).extract 0 1 = slash := ext_fst slash (x ++ joinP l)
  have e2 : (slash ++ (x ++ joinP l)).extract 1 (slash ++ (x ++ joinP l)).size = x ++ joinP l := ext_cut slash (x ++ joinP l)
  rw [e2, hp]
  unfold goodP
  rw [hp]
  by_cases c : (decide ((x :: l).length ≤ 8) && (x :: l).all entry_Name.is) = true
  · rw [if_pos c, if_pos ⟨by omega, e1, c⟩]
  · rw [if_neg c, if_neg (fun g => c g.2.2)]
theorem anySl_no (L : List ByteArray) (h : anySl L 0 = false) : ∀ x ∈ L, noSl x := by
  intro x hx g
  unfold anySl at h
  rw [List.drop_zero, List.any_eq_false] at h
  apply h x hx
  unfold slFrom
  rw [List.drop_zero, decide_eq_true_eq]
  exact g
theorem paths_fin (L : List ByteArray) (hL : L.length ≤ 10) (hs : ∀ x ∈ L, x.size ≤ 40) (P : ByteArray) (hP : P = if L.length = 0 then slash else joinP L) (k : Nat) (hk : 600 ≤ k) :
    lockgatelaw15_EntryPaths.j2 (k + 2) true P L (L.all entry_Name.is) = some true := by
  have hj := joinP_size L hs
  have hz : P.size ≤ 1000 := by
    by_cases c : L.length = 0
    · rw [hP, if_pos c, slash_size]; omega
    · rw [hP, if_neg c]; omega
  rw [lockgatelaw15_EntryPaths.j2.eq_2, esplit_ok P (by omega) (k + 1) (by omega), Option.bind_some]
  have bad : ¬ (L.all entry_Name.is = true ∧ L.length ≤ 8) → lockgatelaw15_EntryPaths.j3 (k + 1) true P L (splitV P).1 (splitV P).2 true = some true := by
    intro hbad
    rw [lockgatelaw15_EntryPaths.j3.eq_2, if_pos rfl]
    have := l1_loop P L (splitV P).2 (by omega) hs L.length k 0 false (by omega) (by omega)
    rw [show ((0 : Nat) : Int) = 0 from rfl] at this
    rw [this, Bool.false_or]
    congr 1
    cases ha : anySl L 0 with
    | true => simp
    | false =>
      have hn := anySl_no L ha
      by_cases hsl : P = slash
      · rw [hsl, show (slash.toList == ([47] : List UInt8)) = true by decide +kernel]; simp
      · cases L with
        | nil => exact absurd (by rw [hP]; rfl) hsl
        | cons x l =>
          have hP' : P = joinP (x :: l) := by rw [hP, if_neg (by simp)]
          rw [hP'] at hsl ⊢
          rw [split_join x l (hn x (by simp)) (fun y hy => hn y (by simp [hy])) hsl, if_neg]
          · rfl
          · intro g
            rw [Bool.and_eq_true, decide_eq_true_eq] at g
            exact hbad ⟨g.2, g.1⟩
  by_cases hall : L.all entry_Name.is = true
  · rw [if_pos hall]
    by_cases h8 : L.length ≤ 8
    · rw [decide_eq_false (by omega), lockgatelaw15_EntryPaths.j3.eq_2, if_neg (by simp)]
      have hv : splitV P = (L, true) := by
        cases L with
        | nil => rw [hP]; rfl
        | cons x l =>
          have hP' : P = joinP (x :: l) := by rw [hP, if_neg (by simp)]
          have hn : ∀ y ∈ x :: l, noSl y := fun y hy => noSl_is (List.all_eq_true.1 hall y hy)
          have hx1 := (is_size (List.all_eq_true.1 hall x (by simp))).1
          rw [hP', split_join x l (hn x (by simp)) (fun y hy => hn y (by simp [hy])) (fun g => by
            have := congrArg ByteArray.size g
            rw [joinP, app_size, app_size, slash_size] at this
            omega), if_pos (by rw [hall, decide_eq_true h8]; rfl)]
      rw [hv, same_ok L (by omega) k (by omega), Option.bind_some, if_pos rfl, if_pos rfl]
    · rw [decide_eq_true (by omega)]
      exact bad (fun g => h8 g.2)
  · rw [if_neg hall]
    exact bad (fun g => hall g.1)
theorem EntryPaths : lockgatelaw15_EntryPaths.Pure := by
  intro l0 w0
  obtain ⟨m, hm⟩ : ∃ m, m = min l0.length 10 := ⟨_, rfl⟩
  obtain ⟨K, hK⟩ : ∃ K : Nat, K = 602 + 2 * m + 2 := ⟨_, rfl⟩
  refine ⟨K, ?_⟩
  unfold lockgatelaw15_EntryPaths.f
  rw [awake_ok K (by omega), Option.bind_some]
  have p := put_loop l0 w0.2.2 m hm m K 0 (by omega) (by omega)
  rw [show nms l0 0 = [] from rfl, show joinP [] = ⟨#[]⟩ from rfl, show ([] : List ByteArray).all entry_Name.is = true from rfl, show ((0 : Nat) : Int) = 0 from rfl] at p
  rw [p, show K - 2 * m - 2 = 600 + 2 by omega]
  exact paths_fin (nms l0 m) (by rw [nms_length]; omega) (nms_mem l0 m) _ (by rw [nms_length]) 600 (Nat.le_refl _)
end Go.Proofs.YtgmbmkjdfmoanaaDoor.Pure
