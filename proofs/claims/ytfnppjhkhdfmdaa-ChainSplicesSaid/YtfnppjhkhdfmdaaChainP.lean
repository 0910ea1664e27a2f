/-
  Chains, plain: the document's own answers are what the lists say.
  No condition.
-/
import Derived.Test.YtfnppjhkhdfmdaaChainG
import Derived.Test.YtfnppjhkhdfmdaaGChainPlaysx6
import Derived.Test.YtfnppjhkhdfmdaaGChainPlaysx5
import Derived.Test.YtfnppjhkhdfmdaaGChainPlaysx4
import Derived.Test.YtfnppjhkhdfmdaaGChainPlaysx3
namespace Go.Proofs.Ytfnppjhkhdfmdaa.ChainP
open Go.RowKit Go.Proofs.Ytfnppjhkhdfmdaa.ChainM Go.Proofs.Ytfnppjhkhdfmdaa.ChainF Go.Proofs.Ytfnppjhkhdfmdaa.ChainG Go.Proofs.Ytfnppjhkhdfmdaa.GChainPlays Go.Proofs.YtfnppjhkhdfmdaaW.PrintWords Go.Proofs.YtfnppjhkhdfmdaaW.PrintLast Go.Proofs.YtfnppjhkhdfmdaaW.PrintMore
set_option linter.unusedVariables false
theorem w64 (i : Int) (h0 : -9223372036854775808 ≤ i) (h1 : i < 9223372036854775807) : wrap64 i = i := by unfold wrap64; omega
/-- The document's lists. -/
def LI (L : List (List Nat)) : List (List Int) := L.map toI
theorem LI_len (L : List (List Nat)) : (LI L).length = L.length := by simp [LI]
theorem LI_set (L : List (List Nat)) (i : Nat) (l : List Nat) : (LI L).set i (toI l) = LI (L.set i l) := by simp [LI, List.map_set]
theorem rd_LI (L : List (List Nat)) (j : Int) : rd_L3 (LI L) j = toI (L.getD j.toNat []) := by
  unfold rd_L3 LI
  rw [List.getD_eq_getElem?_getD, List.getElem?_map, List.getD_eq_getElem?_getD]
  cases L[j.toNat]? <;> rfl
theorem toI_take (l : List Nat) (n : Nat) : (toI l).take n = toI (l.take n) := by simp [toI, List.map_take]
theorem toI_drop (l : List Nat) (n : Nat) : (toI l).drop n = toI (l.drop n) := by simp [toI, List.map_drop]
theorem toI_app (a b : List Nat) : toI a ++ toI b = toI (a ++ b) := by simp [toI]
theorem toI_one (x : Int) (h : 0 ≤ x) : [x] = toI [x.toNat] := by simp [toI]; omega
/-- Where a number stands in a row, from i on. -/
def ixL : List Int → Int → Int → Int
  | [], _, _ => -1
  | y :: r, x, i => if y = x then i else ixL r x (i + 1)
theorem index_l0 (xs : List Int) (x : Int) (hN : xs.length ≤ 1000000) : ∀ (d k i : Nat), xs.length - i = d → i ≤ xs.length → d < k → complineref06_Index.l0 k xs x (i : Int) = some (ixL (xs.drop i) x i)
  | d, 0, i, _, _, h => by omega
  | d, k + 1, i, hd, hi, hk => by
    simp -implicitDefEqProofs only [complineref06_Index.l0]
    by_cases h : i < xs.length
    · rw [if_pos (by omega), if_pos (by omega), List.drop_eq_getElem_cons h]
      have e : rd xs (i : Int) = xs[i] := by unfold rd; rw [Int.toNat_natCast, List.getD_eq_getElem?_getD, List.getElem?_eq_getElem h]; rfl
      rw [e]
      simp only [ixL]
      by_cases hx : xs[i] = x
      · rw [if_pos hx, if_pos hx]
      · rw [if_neg hx, if_neg hx, w64 _ (by omega) (by omega), show ((i : Int) + 1) = ((i + 1 : Nat) : Int) by omega]
        exact index_l0 xs x hN (d - 1) k (i + 1) (by omega) (by omega) (by omega)
    · rw [if_neg (by omega), List.drop_eq_nil_of_le (by omega)]; rfl
theorem index_f (xs : List Int) (x : Int) (k : Nat) (hN : xs.length ≤ 1000000) (hk : xs.length < k) : complineref06_Index.f k xs x = some (ixL xs x 0) := by
  unfold complineref06_Index.f
  exact index_l0 xs x hN xs.length k 0 (by omega) (by omega) hk
theorem ix_nat (x : Nat) : ∀ (l : List Nat) (i : Int), ixL (toI l) (x : Int) i = if x ∈ l then i + l.idxOf x else -1
  | [], i => by simp [toI, ixL]
  | y :: l, i => by
    have ih := ix_nat x l (i + 1)
    simp only [toI, List.map_cons, ixL] at ih ⊢
    by_cases h : y = x
    · subst h; rw [if_pos rfl, if_pos List.mem_cons_self]; simp
    · rw [if_neg (by omega), ih]
      have h2 : (x ∈ y :: l) = (x ∈ l) := by rw [List.mem_cons, eq_false (fun e : x = y => h e.symm), false_or]
      by_cases hm : x ∈ l
      · rw [if_pos hm, if_pos (by rw [h2]; exact hm), List.idxOf_cons, show (y == x) = false by simpa using h]
        simp only [cond_false]; omega
      · rw [if_neg hm, if_neg (by rw [h2]; exact hm)]
theorem ix_neg (x : Int) (hx : x < 0) : ∀ (l : List Nat) (i : Int), ixL (toI l) x i = -1
  | [], i => by simp [toI, ixL]
  | y :: l, i => by
    have ih := ix_neg x hx l (i + 1)
    simp only [toI, List.map_cons, ixL] at ih ⊢
    rw [if_neg (by omega), ih]
/-- The list that a number is in, or -1. -/
def whI (L : List (List Nat)) (x : Int) : Int := if 0 ≤ x then wh L x.toNat else -1
/-- The same from i on. -/
def whL : List (List Nat) → Int → Int → Int
  | [], _, _ => -1
  | l :: L, x, i => if 0 ≤ ixL (toI l) x 0 then i else whL L x (i + 1)
theorem which_l0 (L : List (List Nat)) (P x : Int) (hN : L.length ≤ 1000000) (hl : ∀ l, l ∈ L → l.length ≤ 2048) : ∀ (d k i : Nat), L.length - i = d → i ≤ L.length → d + 2050 < k → complineref06_Which.l0 k x (i : Int) P (LI L) = some (whL (L.drop i) x i)
  | d, 0, i, _, _, h => by omega
  | d, k + 1, i, hd, hi, hk => by
    simp -implicitDefEqProofs only [complineref06_Which.l0]
    by_cases h : i < L.length
    · rw [if_pos (by rw [LI_len]; omega), if_pos (by omega), List.drop_eq_getElem_cons h, rd_LI, Int.toNat_natCast]
      have e : L.getD i [] = L[i] := by rw [List.getD_eq_getElem?_getD, List.getElem?_eq_getElem h]; rfl
      have hll := hl _ (List.getElem_mem h)
      rw [e, index_f _ _ _ (by rw [toI_len]; omega) (by rw [toI_len]; omega)]
      simp -implicitDefEqProofs only [Option.bind_some, whL]
      by_cases hx : 0 ≤ ixL (toI L[i]) x 0
      · rw [if_pos hx, if_pos hx]
      · rw [if_neg hx, if_neg hx, w64 _ (by omega) (by omega), show ((i : Int) + 1) = ((i + 1 : Nat) : Int) by omega]
        exact which_l0 L P x hN hl (d - 1) k (i + 1) (by omega) (by omega) (by omega)
    · rw [if_neg (by rw [LI_len]; omega), List.drop_eq_nil_of_le (by omega)]; rfl
theorem whL_nat (x : Nat) : ∀ (L : List (List Nat)) (i : Int), whL L (x : Int) i = if wh L x < 0 then -1 else i + wh L x
  | [], i => by simp [whL, wh]
  | l :: L, i => by
    have ih := whL_nat x L (i + 1)
    have e1 : whL (l :: L) (x : Int) i = if 0 ≤ ixL (toI l) (x : Int) 0 then i else whL L (x : Int) (i + 1) := rfl
    have hw : wh (l :: L) x = if x ∈ l then 0 else if wh L x < 0 then -1 else wh L x + 1 := rfl
    rw [e1, ih, ix_nat]
    by_cases h : x ∈ l
    · rw [if_pos h] at hw
      rw [hw, if_pos h, if_pos (by omega), if_neg (by omega)]; omega
    · rw [if_neg h] at hw
      rw [if_neg h, if_neg (by omega)]
      by_cases h2 : wh L x < 0
      · rw [if_pos h2] at hw
        rw [hw, if_pos h2, if_pos (by omega)]
      · rw [if_neg h2] at hw
        rw [hw, if_neg h2, if_neg (by omega)]; omega
theorem whL_neg (x : Int) (hx : x < 0) : ∀ (L : List (List Nat)) (i : Int), whL L x i = -1
  | [], i => rfl
  | l :: L, i => by
    simp only [whL]
    rw [ix_neg x hx, if_neg (by omega), whL_neg x hx L]
/-- What the lists are like: few, and short. -/
def Fits (p : Nat) (L : List (List Nat)) : Prop := L.length ≤ 2048 ∧ p ≤ 2048 ∧ ∀ l, l ∈ L → l.length ≤ 2048
theorem fits_len {p : Nat} {L : List (List Nat)} (h : Fits p L) (j : Nat) : (L.getD j []).length ≤ 2048 := by
  by_cases hj : j < L.length
  · rw [List.getD_eq_getElem?_getD, List.getElem?_eq_getElem hj]; exact h.2.2 _ (List.getElem_mem hj)
  · rw [List.getD_eq_getElem?_getD, List.getElem?_eq_none (by omega)]; simp
theorem which_f {p : Nat} {L : List (List Nat)} (h : Fits p L) (x : Int) (k : Nat) (hk : 5000 ≤ k) : complineref06_Which.f k p (LI L) x = some (whI L x) := by
  unfold complineref06_Which.f
  have := which_l0 L p x (by have := h.1; omega) h.2.2 L.length k 0 (by omega) (by omega) (by have := h.1; omega)
  rw [show ((0 : Nat) : Int) = 0 from rfl] at this
  rw [this, List.drop_zero]
  unfold whI
  by_cases hx : 0 ≤ x
  · rw [if_pos hx]
    obtain ⟨n, rfl⟩ : ∃ n : Nat, x = n := ⟨x.toNat, by omega⟩
    rw [whL_nat, Int.toNat_natCast]
    have hr := wh_range L n
    by_cases hw : wh L n < 0
    · rw [if_pos hw]; congr 1; omega
    · rw [if_neg hw]; congr 1; omega
  · rw [if_neg hx, whL_neg x (by omega)]
theorem has_f (p : Nat) (L : List (List Nat)) (j : Int) : complineref06_Has.f p (LI L) j = some (decide (0 ≤ j ∧ j < L.length)) := by
  unfold complineref06_Has.f
  rw [LI_len]
  by_cases h : 0 ≤ j
  · rw [if_pos h]; simp [h]
  · rw [if_neg h]; simp [h]
theorem is_f (p : Nat) (L : List (List Nat)) (x : Int) : complineref06_Is.f p (LI L) x = some (decide (0 ≤ x ∧ x < p)) := by
  unfold complineref06_Is.f
  by_cases h : 0 ≤ x
  · rw [if_pos h]; simp [h]
  · rw [if_neg h]; simp [h]
theorem cat_f (a b : List Int) (ha : a.length ≤ 1000000) (hb : b.length ≤ 1000000) : complineref06_cat.f a b = some (a ++ b) := by
  unfold complineref06_cat.f
  simp -implicitDefEqProofs only [Option.bind_some, List.nil_append]
  rw [if_pos (by rw [List.length_nil]; omega), if_pos (by omega)]
theorem with_f (P : Int) (l : List (List Int)) (i : Int) (x : List Int) (hl : l.length ≤ 1000000) (h0 : 0 ≤ i) (h1 : i < l.length) : complineref06_with.f P l i x = some (P, l.set i.toNat x) := by
  unfold complineref06_with.f
  simp -implicitDefEqProofs only [Option.bind_some, List.nil_append]
  rw [if_pos (by rw [List.length_nil]; omega), if_pos h0, if_pos h1]
theorem whI_nat (L : List (List Nat)) (x : Int) (h : 0 ≤ x) : whI L x = wh L x.toNat := if_pos h
theorem append_f {p : Nat} {L : List (List Nat)} (h : Fits p L) (j x : Int) (k : Nat) (hk : 6000 ≤ k) :
    complineref06_Append.f k p (LI L) j x = some ((p : Int), LI (mApp p L j x).1, (mApp p L j x).2) := by
  obtain ⟨k, rfl⟩ : ∃ q, k = q + 1 := ⟨k - 1, by omega⟩
  unfold complineref06_Append.f
  rw [has_f, is_f]
  simp -implicitDefEqProofs only [Option.bind_some, decide_eq_true_eq]
  by_cases hj : 0 ≤ j ∧ j < L.length
  · rw [if_pos hj]
    simp -implicitDefEqProofs only [complineref06_Append.j0]
    by_cases hx : 0 ≤ x ∧ x < p
    · rw [if_neg (by simp [hx]), which_f h x k (by omega), whI_nat L x hx.1]
      simp -implicitDefEqProofs only [Option.bind_some]
      by_cases hw : wh L x.toNat < 0
      · have hm : mApp p L j x = (L.set j.toNat (L.getD j.toNat [] ++ [x.toNat]), 0) := by unfold mApp; rw [if_pos ⟨hj, hx⟩, if_pos hw]
        have hl := fits_len h j.toNat
        have h1 := h.1
        rw [hm, if_neg (by omega), if_pos hj.1, if_pos (by rw [LI_len]; exact hj.2), rd_LI, toI_one x hx.1, cat_f _ _ (by rw [toI_len]; omega) (by simp [toI])]
        simp -implicitDefEqProofs only [Option.bind_some]
        rw [with_f _ _ _ _ (by rw [LI_len]; omega) hj.1 (by rw [LI_len]; exact hj.2)]
        simp -implicitDefEqProofs only [Option.bind_some]
        rw [toI_app, LI_set]
      · have hm : mApp p L j x = (L, 4) := by unfold mApp; rw [if_pos ⟨hj, hx⟩, if_neg hw]
        rw [hm, if_pos (by omega)]
    · have hm : mApp p L j x = (L, 1) := by unfold mApp; rw [if_neg (fun q => hx q.2)]
      rw [hm, if_pos (by simp [hx])]
  · have hm : mApp p L j x = (L, 1) := by unfold mApp; rw [if_neg (fun q => hj q.1)]
    rw [if_neg hj, hm]
    simp -implicitDefEqProofs only [complineref06_Append.j0]
    rw [if_pos trivial]
theorem idx_le {l : List Nat} {x : Nat} (h : x ∈ l) : ixL (toI l) (x : Int) 0 = (l.idxOf x : Nat) := by
  rw [ix_nat, if_pos h]; omega
theorem insert_f {p : Nat} {L : List (List Nat)} (h : Fits p L) (x y : Int) (k : Nat) (hk : 6000 ≤ k) :
    complineref06_Insert.f k p (LI L) x y = some ((p : Int), LI (mIns p L x y).1, (mIns p L x y).2) := by
  obtain ⟨k, rfl⟩ : ∃ q, k = q + 1 := ⟨k - 1, by omega⟩
  unfold complineref06_Insert.f
  rw [is_f, is_f]
  simp -implicitDefEqProofs only [Option.bind_some, decide_eq_true_eq]
  by_cases hx : 0 ≤ x ∧ x < p
  · rw [if_pos hx]
    simp -implicitDefEqProofs only [complineref06_Insert.j0]
    by_cases hy : 0 ≤ y ∧ y < p
    · rw [if_neg (by simp [hy]), which_f h x k (by omega), which_f h y k (by omega), whI_nat L x hx.1, whI_nat L y hy.1]
      simp -implicitDefEqProofs only [Option.bind_some]
      by_cases hw : wh L x.toNat < 0
      · rw [if_neg (by omega)]
        by_cases hw2 : wh L y.toNat < 0
        · have hm : mIns p L x y = (L, 5) := by unfold mIns; rw [if_pos ⟨hx, hy⟩, if_pos hw, if_pos hw2]
          rw [hm, if_pos hw2]
        · have hm : mIns p L x y = (L.set (wh L y.toNat).toNat ((L.getD (wh L y.toNat).toNat []).take ((L.getD (wh L y.toNat).toNat []).idxOf y.toNat) ++ x.toNat :: (L.getD (wh L y.toNat).toNat []).drop ((L.getD (wh L y.toNat).toNat []).idxOf y.toNat)), 0) := by unfold mIns; rw [if_pos ⟨hx, hy⟩, if_pos hw, if_neg hw2]
          obtain ⟨j, hj⟩ : ∃ j : Nat, wh L y.toNat = j := ⟨(wh L y.toNat).toNat, by omega⟩
          obtain ⟨l, hl, hm2⟩ := wh_mem L y.toNat j hj
          have hjl := ChainS.lt_len hl
          have hll := fits_len h j
          have hg := getD_of hl
          have h1 := h.1
          have hil := List.idxOf_lt_length_of_mem hm2
          obtain ⟨yn, rfl⟩ : ∃ n : Nat, y = n := ⟨y.toNat, by omega⟩
          simp only [Int.toNat_natCast] at *
          rw [hj] at hm ⊢
          simp only [Int.toNat_natCast] at hm ⊢
          rw [hg] at hm hll
          rw [hm, if_neg (by omega), if_pos (by omega), if_pos (by rw [LI_len]; omega), rd_LI, Int.toNat_natCast, hg, index_f _ _ _ (by rw [toI_len]; omega) (by rw [toI_len]; omega), idx_le hm2]
          simp -implicitDefEqProofs only [Option.bind_some, Int.toNat_natCast]
          rw [if_pos (by omega), if_pos (by rw [toI_len]; omega), toI_take, toI_drop, toI_one x hx.1, cat_f _ _ (by rw [toI_len, List.length_take]; omega) (by simp [toI])]
          simp -implicitDefEqProofs only [Option.bind_some]
          rw [toI_app, cat_f _ _ (by rw [toI_len, List.length_append, List.length_take]; simp; omega) (by rw [toI_len, List.length_drop]; omega)]
          simp -implicitDefEqProofs only [Option.bind_some]
          rw [with_f _ _ _ _ (by rw [LI_len]; omega) (by omega) (by rw [LI_len]; omega)]
          simp -implicitDefEqProofs only [Option.bind_some, Int.toNat_natCast]
          rw [toI_app, LI_set]
          simp
      · have hm : mIns p L x y = (L, 4) := by unfold mIns; rw [if_pos ⟨hx, hy⟩, if_neg hw]
        rw [hm, if_pos (by omega)]
    · have hm : mIns p L x y = (L, 1) := by unfold mIns; rw [if_neg (fun q => hy q.2)]
      rw [hm, if_pos (by simp [hy])]
  · have hm : mIns p L x y = (L, 1) := by unfold mIns; rw [if_neg (fun q => hx q.1)]
    rw [if_neg hx, hm]
    simp -implicitDefEqProofs only [complineref06_Insert.j0]
    rw [if_pos trivial]
theorem drop_f {p : Nat} {L : List (List Nat)} (h : Fits p L) (x : Int) (k : Nat) (hk : 6000 ≤ k) :
    complineref06_Drop.f k p (LI L) x = some ((p : Int), LI (mDrop p L x).1, (mDrop p L x).2) := by
  unfold complineref06_Drop.f
  rw [is_f]
  simp -implicitDefEqProofs only [Option.bind_some, decide_eq_true_eq]
  by_cases hx : 0 ≤ x ∧ x < p
  · rw [if_pos hx, which_f h x k (by omega), whI_nat L x hx.1]
    simp -implicitDefEqProofs only [Option.bind_some]
    by_cases hw : wh L x.toNat < 0
    · have hm : mDrop p L x = (L, 5) := by unfold mDrop; rw [if_pos hx, if_pos hw]
      rw [hm, if_pos hw]
    · have hm : mDrop p L x = (L.set (wh L x.toNat).toNat ((L.getD (wh L x.toNat).toNat []).take ((L.getD (wh L x.toNat).toNat []).idxOf x.toNat) ++ (L.getD (wh L x.toNat).toNat []).drop ((L.getD (wh L x.toNat).toNat []).idxOf x.toNat + 1)), 0) := by unfold mDrop; rw [if_pos hx, if_neg hw]
      obtain ⟨j, hj⟩ : ∃ j : Nat, wh L x.toNat = j := ⟨(wh L x.toNat).toNat, by omega⟩
      obtain ⟨l, hl, hm2⟩ := wh_mem L x.toNat j hj
      have hjl := ChainS.lt_len hl
      have hll := fits_len h j
      have hg := getD_of hl
      have h1 := h.1
      have hil := List.idxOf_lt_length_of_mem hm2
      obtain ⟨xn, rfl⟩ : ∃ n : Nat, x = n := ⟨x.toNat, by omega⟩
      simp only [Int.toNat_natCast] at *
      rw [hj] at hm ⊢
      simp only [Int.toNat_natCast] at hm ⊢
      rw [hg] at hm hll
      rw [hm, if_neg (by omega), if_pos (by omega), if_pos (by rw [LI_len]; omega), rd_LI, Int.toNat_natCast, hg, index_f _ _ _ (by rw [toI_len]; omega) (by rw [toI_len]; omega), idx_le hm2]
      simp -implicitDefEqProofs only [Option.bind_some, Int.toNat_natCast]
      rw [w64 _ (by omega) (by omega), show ((l.idxOf xn : Int) + 1) = ((l.idxOf xn + 1 : Nat) : Int) by omega]
      rw [if_pos (by omega), if_pos (by rw [toI_len]; omega), if_pos (by omega), if_pos (by rw [toI_len]; omega), Int.toNat_natCast, toI_take, toI_drop, cat_f _ _ (by rw [toI_len, List.length_take]; omega) (by rw [toI_len, List.length_drop]; omega)]
      simp -implicitDefEqProofs only [Option.bind_some]
      rw [with_f _ _ _ _ (by rw [LI_len]; omega) (by omega) (by rw [LI_len]; omega)]
      simp -implicitDefEqProofs only [Option.bind_some, Int.toNat_natCast]
      rw [toI_app, LI_set]
  · have hm : mDrop p L x = (L, 1) := by unfold mDrop; rw [if_neg hx]
    rw [if_neg hx, hm]
theorem splice_f {p : Nat} {L : List (List Nat)} (h : Fits p L) (t f : Int) (k : Nat) (hk : 6000 ≤ k) :
    complineref06_Splice.f k p (LI L) t f = some ((p : Int), LI (mSpl L t f).1, (mSpl L t f).2) := by
  obtain ⟨k, rfl⟩ : ∃ q, k = q + 1 := ⟨k - 1, by omega⟩
  unfold complineref06_Splice.f
  rw [has_f, has_f]
  simp -implicitDefEqProofs only [Option.bind_some, decide_eq_true_eq]
  have h1 := h.1
  by_cases ht : 0 ≤ t ∧ t < L.length
  · rw [if_pos ht]
    simp -implicitDefEqProofs only [complineref06_Splice.j0]
    by_cases hf : 0 ≤ f ∧ f < L.length
    · rw [if_neg (by simp [hf])]
      by_cases he : t = f
      · have hm : mSpl L t f = (L, 0) := by unfold mSpl; rw [if_pos ⟨ht, hf⟩, if_pos he]
        rw [hm, if_pos he]
      · have hm : mSpl L t f = ((L.set t.toNat (L.getD t.toNat [] ++ L.getD f.toNat [])).set f.toNat [], 0) := by unfold mSpl; rw [if_pos ⟨ht, hf⟩, if_neg he]
        have hl1 := fits_len h t.toNat
        have hl2 := fits_len h f.toNat
        rw [hm, if_neg he, if_pos ht.1, if_pos (by rw [LI_len]; exact ht.2), if_pos hf.1, if_pos (by rw [LI_len]; exact hf.2), rd_LI, rd_LI, cat_f _ _ (by rw [toI_len]; omega) (by rw [toI_len]; omega)]
        simp -implicitDefEqProofs only [Option.bind_some]
        rw [with_f _ _ _ _ (by rw [LI_len]; omega) ht.1 (by rw [LI_len]; exact ht.2)]
        simp -implicitDefEqProofs only [Option.bind_some]
        rw [toI_app, LI_set, with_f _ _ _ _ (by rw [LI_len, List.length_set]; omega) hf.1 (by rw [LI_len, List.length_set]; exact hf.2)]
        simp -implicitDefEqProofs only [Option.bind_some]
        rw [show ([] : List Int) = toI [] from rfl, LI_set]
    · have hm : mSpl L t f = (L, 1) := by unfold mSpl; rw [if_neg (fun q => hf q.2)]
      rw [hm, if_pos (by simp [hf])]
  · have hm : mSpl L t f = (L, 1) := by unfold mSpl; rw [if_neg (fun q => ht q.1)]
    rw [if_neg ht, hm]
    simp -implicitDefEqProofs only [complineref06_Splice.j0]
    rw [if_pos trivial]
theorem all_f (p : Nat) (L : List (List Nat)) (j : Int) : complineref06_All.f p (LI L) j = some (toI (atL L j)) := by
  unfold complineref06_All.f
  rw [has_f]
  simp -implicitDefEqProofs only [Option.bind_some, decide_eq_true_eq]
  by_cases hj : 0 ≤ j ∧ j < L.length
  · rw [if_pos hj, if_pos hj.1, if_pos (by rw [LI_len]; exact hj.2), rd_LI]
    unfold atL; rw [if_pos hj.1]
  · rw [if_neg hj, atL_no L j hj]; rfl
theorem new_f (a b : Int) : complineref06_New.f a b = some (if a < 0 ∨ 1024 < a ∨ b < 0 ∨ 1024 < b then (0, [], 1) else (a, LI (List.replicate b.toNat []), 0)) := by
  unfold complineref06_New.f
  by_cases h1 : a < 0
  · rw [if_pos h1, if_pos (.inl h1)]
  rw [if_neg h1]
  by_cases h2 : 1024 < a
  · rw [if_pos h2, if_pos (.inr (.inl h2))]
  rw [if_neg h2]
  by_cases h3 : b < 0
  · rw [if_pos h3, if_pos (.inr (.inr (.inl h3)))]
  rw [if_neg h3]
  by_cases h4 : 1024 < b
  · rw [if_pos h4, if_pos (.inr (.inr (.inr h4)))]
  rw [if_neg h4, if_pos (show 0 ≤ b by omega), if_pos (show b.toNat ≤ 11728124029610 by omega), if_neg (by omega)]
  simp [LI, toI]
theorem rd_toI (l : List Nat) (i : Int) : rd (toI l) i = (l.getD i.toNat 0 : Nat) := by
  unfold rd toI
  rw [List.getD_eq_getElem?_getD, List.getElem?_map, List.getD_eq_getElem?_getD]
  cases l[i.toNat]? <;> rfl
theorem beside_f {p : Nat} {L : List (List Nat)} (h : Fits p L) (x d : Int) (hd : d = 1 ∨ d = -1) (k : Nat) (hk : 6000 ≤ k) :
    complineref06_Beside.f k p (LI L) x d = some (mBes p L x d) := by
  obtain ⟨k, rfl⟩ : ∃ q, k = q + 1 := ⟨k - 1, by omega⟩
  unfold complineref06_Beside.f
  rw [which_f h x (k + 1) (by omega), is_f]
  simp -implicitDefEqProofs only [Option.bind_some, decide_eq_true_eq]
  by_cases hx : 0 ≤ x ∧ x < p
  · rw [if_pos hx]
    simp -implicitDefEqProofs only [complineref06_Beside.j0]
    rw [whI_nat L x hx.1]
    by_cases hw : wh L x.toNat < 0
    · have hm : mBes p L x d = (0, false) := by unfold mBes; rw [if_neg (fun q => by omega)]
      rw [hm, if_pos (by simp [hw])]
    · rw [if_neg (by simpa using hw)]
      have hm : mBes p L x d = if 0 ≤ ((L.getD (wh L x.toNat).toNat []).idxOf x.toNat : Int) + d ∧ ((L.getD (wh L x.toNat).toNat []).idxOf x.toNat : Int) + d < (L.getD (wh L x.toNat).toNat []).length then
          ((((L.getD (wh L x.toNat).toNat []).getD (((L.getD (wh L x.toNat).toNat []).idxOf x.toNat : Int) + d).toNat 0 : Nat) : Int), true)
        else (0, false) := by unfold mBes; rw [if_pos ⟨hx, by omega⟩]
      obtain ⟨j, hj⟩ : ∃ j : Nat, wh L x.toNat = j := ⟨(wh L x.toNat).toNat, by omega⟩
      obtain ⟨l, hl, hm2⟩ := wh_mem L x.toNat j hj
      have hjl := ChainS.lt_len hl
      have hll := fits_len h j
      have hg := getD_of hl
      have h1 := h.1
      have hil := List.idxOf_lt_length_of_mem hm2
      obtain ⟨xn, rfl⟩ : ∃ n : Nat, x = n := ⟨x.toNat, by omega⟩
      simp only [Int.toNat_natCast] at *
      rw [hj] at hm ⊢
      simp only [Int.toNat_natCast] at hm ⊢
      rw [hg] at hm hll
      rw [hm, if_pos (by omega), if_pos (by rw [LI_len]; omega), rd_LI, Int.toNat_natCast, hg, index_f _ _ _ (by rw [toI_len]; omega) (by rw [toI_len]; omega), idx_le hm2]
      simp -implicitDefEqProofs only [Option.bind_some]
      rw [w64 _ (by omega) (by omega), toI_len]
      by_cases hlo : (l.idxOf xn : Int) + d < 0
      · rw [if_pos hlo, if_neg (by omega)]
      · rw [if_neg hlo]
        by_cases hhi : (l.idxOf xn : Int) + d ≥ l.length
        · rw [if_pos hhi, if_neg (by omega)]
        · rw [if_neg hhi, if_pos (by omega), if_pos (by omega), if_pos (by omega), rd_toI]
  · have hm : mBes p L x d = (0, false) := by unfold mBes; rw [if_neg (fun q => hx q.1)]
    rw [if_neg hx, hm]
    simp -implicitDefEqProofs only [complineref06_Beside.j0]
    rw [if_pos trivial]
/-- Two rows of places that are the same. -/
theorem same_l0 (xs ys : List Int) (hN : xs.length ≤ 1000000) (hl : xs.length = ys.length) : ∀ (d k i : Nat), xs.length - i = d → i ≤ xs.length → d < k → complineref02_Same.l0 k xs ys (i : Int) = some (decide (xs.drop i = ys.drop i))
  | d, 0, i, _, _, h => by omega
  | d, k + 1, i, hd, hi, hk => by
    simp -implicitDefEqProofs only [complineref02_Same.l0]
    by_cases h : i < xs.length
    · have h' : i < ys.length := by omega
      rw [if_pos (by omega), if_pos (by omega), if_pos (by omega), List.drop_eq_getElem_cons h, List.drop_eq_getElem_cons h']
      have e : rd xs (i : Int) = xs[i] := by unfold rd; rw [Int.toNat_natCast, List.getD_eq_getElem?_getD, List.getElem?_eq_getElem h]; rfl
      have e' : rd ys (i : Int) = ys[i] := by unfold rd; rw [Int.toNat_natCast, List.getD_eq_getElem?_getD, List.getElem?_eq_getElem h']; rfl
      rw [e, e']
      by_cases hx : xs[i] = ys[i]
      · rw [if_pos hx, w64 _ (by omega) (by omega), show ((i : Int) + 1) = ((i + 1 : Nat) : Int) by omega, same_l0 xs ys hN hl (d - 1) k (i + 1) (by omega) (by omega) (by omega)]
        congr 1
        exact decide_eq_decide.2 (by rw [List.cons.injEq]; exact ⟨fun q => ⟨hx, q⟩, fun q => q.2⟩)
      · rw [if_neg hx, decide_eq_false (fun q => hx (List.cons.inj q).1)]
    · rw [if_neg (by omega), List.drop_eq_nil_of_le (by omega), List.drop_eq_nil_of_le (by omega)]; simp
theorem same_f (xs ys : List Int) (k : Nat) (hN : xs.length ≤ 1000000) (hk : xs.length < k) : complineref02_Same.f k xs ys = some (decide (xs = ys)) := by
  unfold complineref02_Same.f
  by_cases hl : xs.length = ys.length
  · rw [if_pos (by omega)]
    have := same_l0 xs ys hN hl xs.length k 0 (by omega) (by omega) hk
    rw [List.drop_zero, List.drop_zero] at this
    exact this
  · rw [if_neg (by omega), decide_eq_false (fun e => hl (by rw [e]))]
end Go.Proofs.Ytfnppjhkhdfmdaa.ChainP
