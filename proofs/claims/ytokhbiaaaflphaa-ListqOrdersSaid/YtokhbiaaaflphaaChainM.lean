/-
  Chains, plain: what each call answers, told of lists of places.
  No condition.
-/
import Derived.Test.YtokhbiaaaflphaaChainS
namespace Go.Proofs.Ytokhbiaaaflphaa.ChainM
open Go.RowKit Go.Proofs.Ytokhbiaaaflphaa.ChainA Go.Proofs.Ytokhbiaaaflphaa.ChainB Go.Proofs.Ytokhbiaaaflphaa.ChainC Go.Proofs.Ytokhbiaaaflphaa.ChainR Go.Proofs.Ytokhbiaaaflphaa.ChainS Go.Proofs.Ytokhbiaaaflphaa.GListqPlays Go.Proofs.YtokhbiaaaflphaaW.PrintWords
set_option linter.unusedVariables false
/-- The list that a place is in, or -1. -/
def wh : List (List Nat) → Nat → Int
  | [], _ => -1
  | l :: L, x => if x ∈ l then 0 else if wh L x < 0 then -1 else wh L x + 1
theorem wh_range : ∀ (L : List (List Nat)) (x : Nat), -1 ≤ wh L x ∧ wh L x < L.length
  | [], _ => by simp [wh]
  | l :: L, x => by
    have := wh_range L x
    simp only [wh, List.length_cons]
    by_cases h : x ∈ l
    · rw [if_pos h]; omega
    · rw [if_neg h]
      by_cases h2 : wh L x < 0
      · rw [if_pos h2]; omega
      · rw [if_neg h2]; omega
theorem wh_mem : ∀ (L : List (List Nat)) (x j : Nat), wh L x = (j : Int) → ∃ l, L[j]? = some l ∧ x ∈ l
  | [], _, _, h => by simp [wh] at h
  | l :: L, x, j, h => by
    simp only [wh] at h
    by_cases h1 : x ∈ l
    · rw [if_pos h1] at h
      obtain rfl : j = 0 := by omega
      exact ⟨l, rfl, h1⟩
    · rw [if_neg h1] at h
      by_cases h2 : wh L x < 0
      · rw [if_pos h2] at h; omega
      · rw [if_neg h2] at h
        obtain ⟨i, rfl⟩ : ∃ i, j = i + 1 := ⟨j - 1, by omega⟩
        exact wh_mem L x i (by omega)
theorem wh_none : ∀ (L : List (List Nat)) (x : Nat), wh L x < 0 → ∀ (j : Nat) (l : List Nat), L[j]? = some l → x ∉ l
  | [], _, _, j, l, h => by simp at h
  | l0 :: L, x, hw, j, l, h => by
    simp only [wh] at hw
    by_cases h1 : x ∈ l0
    · rw [if_pos h1] at hw; omega
    · rw [if_neg h1] at hw
      have h2 : wh L x < 0 := by
        by_cases h2 : wh L x < 0
        · exact h2
        · rw [if_neg h2] at hw; omega
      cases j with
      | zero => simp at h; rw [← h]; exact h1
      | succ i => exact wh_none L x h2 i l (by simpa using h)
theorem wh_is {p : Nat} {L : List (List Nat)} {ns : List S94} (h : Rep p L ns) {x : Nat} (hx : x < p) : inn ns x = wh L x := by
  have hr := wh_range L x
  by_cases hw : wh L x < 0
  · rcases h.own x hx with e | ⟨j, l, hl, hm⟩
    · omega
    · exact absurd hm (wh_none L x hw j l hl)
  · obtain ⟨j, hj⟩ : ∃ j : Nat, wh L x = j := ⟨(wh L x).toNat, by omega⟩
    obtain ⟨l, hl, hm⟩ := wh_mem L x j hj
    rw [(h.mem j l x hl hm).2, hj]
theorem wh_at {p : Nat} {L : List (List Nat)} {ns : List S94} (h : Rep p L ns) {x j : Nat} {l : List Nat} (hl : L[j]? = some l) (hm : x ∈ l) : wh L x = j := by
  rw [← wh_is h (h.mem j l x hl hm).1, (h.mem j l x hl hm).2]
/-- A list by its number: none, if there is no such list. -/
def atL (L : List (List Nat)) (j : Int) : List Nat := if 0 ≤ j then L.getD j.toNat [] else []
theorem getD_at {L : List (List Nat)} {j : Nat} (h : j < L.length) : L[j]? = some (L.getD j []) := by
  rw [List.getD_eq_getElem?_getD, List.getElem?_eq_getElem h]; rfl
theorem getD_of {L : List (List Nat)} {j : Nat} {l : List Nat} (h : L[j]? = some l) : L.getD j [] = l := by
  rw [List.getD_eq_getElem?_getD, h]; rfl
theorem atL_no (L : List (List Nat)) (j : Int) (h : ¬ (0 ≤ j ∧ j < L.length)) : atL L j = [] := by
  unfold atL
  by_cases h0 : 0 ≤ j
  · rw [if_pos h0, List.getD_eq_getElem?_getD, List.getElem?_eq_none (by omega)]; rfl
  · rw [if_neg h0]
theorem atL_nat (L : List (List Nat)) (j : Nat) : atL L (j : Int) = L.getD j [] := by
  unfold atL; rw [if_pos (by omega)]; rfl
def mApp (p : Nat) (L : List (List Nat)) (j x : Int) : List (List Nat) × Int :=
  if (0 ≤ j ∧ j < L.length) ∧ (0 ≤ x ∧ x < p) then
    if wh L x.toNat < 0 then (L.set j.toNat (L.getD j.toNat [] ++ [x.toNat]), 0) else (L, 4)
  else (L, 1)
def mIns (p : Nat) (L : List (List Nat)) (x y : Int) : List (List Nat) × Int :=
  if (0 ≤ x ∧ x < p) ∧ (0 ≤ y ∧ y < p) then
    if wh L x.toNat < 0 then
      if wh L y.toNat < 0 then (L, 5)
      else (L.set (wh L y.toNat).toNat ((L.getD (wh L y.toNat).toNat []).take ((L.getD (wh L y.toNat).toNat []).idxOf y.toNat) ++ x.toNat :: (L.getD (wh L y.toNat).toNat []).drop ((L.getD (wh L y.toNat).toNat []).idxOf y.toNat)), 0)
    else (L, 4)
  else (L, 1)
def mDrop (p : Nat) (L : List (List Nat)) (x : Int) : List (List Nat) × Int :=
  if 0 ≤ x ∧ x < p then
    if wh L x.toNat < 0 then (L, 5)
    else (L.set (wh L x.toNat).toNat ((L.getD (wh L x.toNat).toNat []).take ((L.getD (wh L x.toNat).toNat []).idxOf x.toNat) ++ (L.getD (wh L x.toNat).toNat []).drop ((L.getD (wh L x.toNat).toNat []).idxOf x.toNat + 1)), 0)
  else (L, 1)
def mSpl (L : List (List Nat)) (t f : Int) : List (List Nat) × Int :=
  if (0 ≤ t ∧ t < L.length) ∧ (0 ≤ f ∧ f < L.length) then
    if t = f then (L, 0) else ((L.set t.toNat (L.getD t.toNat [] ++ L.getD f.toNat [])).set f.toNat [], 0)
  else (L, 1)
def mBes (p : Nat) (L : List (List Nat)) (x d : Int) : Int × Bool :=
  if (0 ≤ x ∧ x < p) ∧ 0 ≤ wh L x.toNat then
    if 0 ≤ ((L.getD (wh L x.toNat).toNat []).idxOf x.toNat : Int) + d ∧ ((L.getD (wh L x.toNat).toNat []).idxOf x.toNat : Int) + d < (L.getD (wh L x.toNat).toNat []).length then
      (((L.getD (wh L x.toNat).toNat []).getD (((L.getD (wh L x.toNat).toNat []).idxOf x.toNat : Int) + d).toNat 0 : Nat), true)
    else (0, false)
  else (0, false)
def mWhich (p : Nat) (L : List (List Nat)) (x : Int) : Int × Bool := if (0 ≤ x ∧ x < p) ∧ 0 ≤ wh L x.toNat then (wh L x.toNat, true) else (0, false)
def hdP : List Nat → Int × Bool
  | [] => (0, false)
  | x :: _ => (x, true)
def ltP : List Nat → Int × Bool
  | [] => (0, false)
  | x :: l => (lst x l, true)
/-! Where a place stands in its list. -/
theorem split_at {l : List Nat} {x : Nat} (h : x ∈ l) : l = l.take (l.idxOf x) ++ x :: l.drop (l.idxOf x + 1) := by
  have hi := List.idxOf_lt_length_of_mem h
  have : l.drop (l.idxOf x) = x :: l.drop (l.idxOf x + 1) := by
    rw [List.drop_eq_getElem_cons hi]
    congr 1
    exact List.getElem_idxOf hi
  rw [← this, List.take_append_drop]
theorem lst_get (a : Nat) : ∀ (l : List Nat), l ≠ [] → lst a l = l.getD (l.length - 1) 0
  | [], h => absurd rfl h
  | [c], _ => rfl
  | c :: d :: l, _ => by
    show lst d l = _
    have := lst_get c (d :: l) (by simp)
    rw [show lst c (d :: l) = lst d l from rfl] at this
    rw [this]
    simp
theorem nxt_drop (h : Nat) (l : List Nat) (i : Nat) : nxt h (l.drop (i + 1)) = if i + 1 < l.length then l.getD (i + 1) 0 else h := by
  by_cases hi : i + 1 < l.length
  · rw [if_pos hi, List.drop_eq_getElem_cons hi, List.getD_eq_getElem?_getD, List.getElem?_eq_getElem hi]; rfl
  · rw [if_neg hi, List.drop_eq_nil_of_le (by omega)]; rfl
theorem lst_take (h : Nat) (l : List Nat) (i : Nat) (hi : i < l.length) : lst h (l.take i) = if 0 < i then l.getD (i - 1) 0 else h := by
  by_cases h0 : 0 < i
  · rw [if_pos h0, lst_get h _ (by intro e; rw [List.take_eq_nil_iff] at e; rcases e with e | e; (· omega); rw [e] at hi; simp at hi), List.length_take, Nat.min_eq_left (by omega)]
    rw [List.getD_eq_getElem?_getD, List.getD_eq_getElem?_getD, List.getElem?_take, if_pos (by omega)]
  · rw [if_neg h0]
    obtain rfl : i = 0 := by omega
    rfl
/-- A place's neighbours. -/
theorem beside {p : Nat} {L : List (List Nat)} {ns : List S94} (h : Rep p L ns) {j x : Nat} {l : List Nat} (hl : L[j]? = some l) (hm : x ∈ l) :
    nx ns x = ((if l.idxOf x + 1 < l.length then l.getD (l.idxOf x + 1) 0 else p + j : Nat) : Int) ∧ pv ns x = ((if 0 < l.idxOf x then l.getD (l.idxOf x - 1) 0 else p + j : Nat) : Int) := by
  have hi := List.idxOf_lt_length_of_mem hm
  have hs := h.seg j l hl
  rw [split_at hm, seg_app] at hs
  refine ⟨?_, ?_⟩
  · rw [← nxt_drop]
    have := hs.2
    cases hd : l.drop (l.idxOf x + 1) with
    | nil => rw [hd] at this; exact this.1
    | cons y B => rw [hd] at this; exact this.1
  · rw [← lst_take _ _ _ hi]
    exact (seg_last _ _ _ hs.1).1
theorem getD_mem {l : List Nat} {i : Nat} (h : i < l.length) : l.getD i 0 ∈ l := by
  rw [List.getD_eq_getElem?_getD, List.getElem?_eq_getElem h]; exact List.getElem_mem h
/-- Chains in memory, that stand for these lists. -/
def Chn (w : World) (g b p : Nat) (L : List (List Nat)) : Prop := ∃ ns, Ch w g b (p : Int) (L.length : Int) ns ∧ Rep p L ns
theorem Chn.drewN {w g b p L} (h : Chn w g b p L) (m : Nat) : Chn (w.drewN m) g b p L := by
  obtain ⟨ns, h1, h2⟩ := h; exact ⟨ns, h1.drewN m, h2⟩
theorem Chn.drew {w g b p L} (h : Chn w g b p L) : Chn w.drew g b p L := by
  obtain ⟨ns, h1, h2⟩ := h; exact ⟨ns, h1.drew, h2⟩
theorem Chn.alloc {w g b p L} (h : Chn w g b p L) (o : Obj) : Chn (w.alloc o) g b p L := by
  obtain ⟨ns, h1, h2⟩ := h; exact ⟨ns, h1.alloc o, h2⟩
theorem Chn.keep {w w' g b p L} (h : Chn w g b p L) (hg : w'.heap[g]? = w.heap[g]?) (hb : w'.heap[b]? = w.heap[b]?) : Chn w' g b p L := by
  obtain ⟨ns, h1, h2⟩ := h; exact ⟨ns, h1.keep hg hb, h2⟩
theorem Chn.below {w w' g b p L} (h : Chn w g b p L) (hb : Below w.heap.size w w') : Chn w' g b p L := by
  obtain ⟨ns, h1, h2⟩ := h; exact ⟨ns, h1.below hb, h2⟩
theorem Chn.glt {w g b p L} (h : Chn w g b p L) : g < w.heap.size := by
  obtain ⟨ns, h1, h2⟩ := h; exact blk_lt h1.1
theorem Chn.blt {w g b p L} (h : Chn w g b p L) : b < w.heap.size := by
  obtain ⟨ns, h1, h2⟩ := h; exact h1.blt
theorem Chn.ne {w g b p L} (h : Chn w g b p L) : g ≠ b := by
  obtain ⟨ns, h1, h2⟩ := h; exact h1.2.2.1
end Go.Proofs.Ytokhbiaaaflphaa.ChainM
