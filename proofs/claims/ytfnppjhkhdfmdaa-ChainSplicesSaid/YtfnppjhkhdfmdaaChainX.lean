/-
  Chains, plain: what is put in and dropped; there and back.
  No condition.
-/
import Derived.Test.YtfnppjhkhdfmdaaChainV
namespace Go.Proofs.Ytfnppjhkhdfmdaa.ChainX
open Go.RowKit Go.Proofs.Ytfnppjhkhdfmdaa.ChainA Go.Proofs.Ytfnppjhkhdfmdaa.ChainS Go.Proofs.Ytfnppjhkhdfmdaa.ChainM Go.Proofs.Ytfnppjhkhdfmdaa.ChainN Go.Proofs.Ytfnppjhkhdfmdaa.ChainF Go.Proofs.Ytfnppjhkhdfmdaa.ChainG Go.Proofs.Ytfnppjhkhdfmdaa.ChainP Go.Proofs.Ytfnppjhkhdfmdaa.ChainU Go.Proofs.Ytfnppjhkhdfmdaa.ChainV Go.Proofs.Ytfnppjhkhdfmdaa.GChainPlays
set_option linter.unusedVariables false
theorem idx_split (x : Nat) (B : List Nat) : ∀ A : List Nat, x ∉ A → (A ++ x :: B).idxOf x = A.length
  | [], _ => by simp
  | a :: A, h => by
    have h1 : (a == x) = false := by
      have : a ≠ x := fun e => h (by rw [e]; exact List.mem_cons_self)
      simpa using this
    have ih := idx_split x B A (fun q => h (List.mem_cons_of_mem _ q))
    rw [List.cons_append, List.idxOf_cons, h1, cond_false, ih, List.length_cons]
theorem notin_split {p : Nat} {L : List (List Nat)} {ns : List S62} (h : Rep p L ns) {j x : Nat} {A B : List Nat} (hl : L[j]? = some (A ++ x :: B)) : x ∉ A ∧ x ∉ B := by
  have hn := h.nodup j _ hl
  rw [List.nodup_append] at hn
  exact ⟨fun q => hn.2.2 x q x List.mem_cons_self rfl, (List.nodup_cons.1 hn.2.1).1⟩
theorem bes_split {p : Nat} {L : List (List Nat)} {ns : List S62} (h : Rep p L ns) {j x : Nat} {A B : List Nat} (hl : L[j]? = some (A ++ x :: B)) (d : Int) :
    mBes p L (x : Int) d = if 0 ≤ (A.length : Int) + d ∧ (A.length : Int) + d < (A ++ x :: B).length then ((((A ++ x :: B).getD ((A.length : Int) + d).toNat 0 : Nat) : Int), true) else (0, false) := by
  have hm : x ∈ A ++ x :: B := List.mem_append_right _ List.mem_cons_self
  have hx := (h.mem j _ x hl hm).1
  have hw := wh_at h hl hm
  unfold mBes
  rw [Int.toNat_natCast, if_pos (show (0 ≤ (x : Int) ∧ (x : Int) < (p : Int)) ∧ 0 ≤ wh L x by omega), hw, Int.toNat_natCast, getD_of hl, idx_split x B A (notin_split h hl).1]
theorem drop_split {p : Nat} {L : List (List Nat)} {ns : List S62} (h : Rep p L ns) {j x : Nat} {A B : List Nat} (hl : L[j]? = some (A ++ x :: B)) : mDrop p L (x : Int) = (L.set j (A ++ B), 0) := by
  have hm : x ∈ A ++ x :: B := List.mem_append_right _ List.mem_cons_self
  have hx := (h.mem j _ x hl hm).1
  have hw := wh_at h hl hm
  unfold mDrop
  rw [Int.toNat_natCast, if_pos (show 0 ≤ (x : Int) ∧ (x : Int) < (p : Int) by omega), if_neg (by omega), hw, Int.toNat_natCast, getD_of hl, idx_split x B A (notin_split h hl).1]
  simp
theorem which_split {p : Nat} {L : List (List Nat)} {ns : List S62} (h : Rep p L ns) {j x : Nat} {l : List Nat} (hl : L[j]? = some l) (hm : x ∈ l) : mWhich p L (x : Int) = ((j : Int), true) := by
  have hx := (h.mem j _ x hl hm).1
  have hw := wh_at h hl hm
  unfold mWhich
  rw [Int.toNat_natCast, if_pos (show (0 ≤ (x : Int) ∧ (x : Int) < (p : Int)) ∧ 0 ≤ wh L x by omega), hw]
/-- What is put in and dropped leaves all as it was. -/
theorem ins_back {p : Nat} {L L2 : List (List Nat)} {ns ns2 : List S62} (h : Rep p L ns) {x y : Int} (hm : mIns p L x y = (L2, 0)) (h2 : Rep p L2 ns2) :
    mBes p L2 x 1 = (y, true) ∧ mBes p L2 y (-1) = (x, true) ∧ mDrop p L2 x = (L, 0) := by
  unfold mIns at hm
  by_cases ha : (0 ≤ x ∧ x < p) ∧ (0 ≤ y ∧ y < p)
  · rw [if_pos ha] at hm
    obtain ⟨xn, rfl⟩ : ∃ n : Nat, x = n := ⟨x.toNat, by omega⟩
    obtain ⟨yn, rfl⟩ : ∃ n : Nat, y = n := ⟨y.toNat, by omega⟩
    simp only [Int.toNat_natCast] at hm
    by_cases hw : wh L xn < 0
    · rw [if_pos hw] at hm
      by_cases hw2 : wh L yn < 0
      · rw [if_pos hw2] at hm; cases hm
      · rw [if_neg hw2] at hm
        obtain ⟨j, hj⟩ : ∃ j : Nat, wh L yn = j := ⟨(wh L yn).toNat, by omega⟩
        obtain ⟨l, hl, hmem⟩ := wh_mem L yn j hj
        rw [hj, Int.toNat_natCast, getD_of hl] at hm
        have hil := List.idxOf_lt_length_of_mem hmem
        have hsp := split_at hmem
        obtain ⟨A, hA⟩ : ∃ A, A = l.take (l.idxOf yn) := ⟨_, rfl⟩
        obtain ⟨B, hB⟩ : ∃ B, B = l.drop (l.idxOf yn + 1) := ⟨_, rfl⟩
        have hdr : l.drop (l.idxOf yn) = yn :: B := by
          rw [List.drop_eq_getElem_cons hil, hB]; congr 1; exact List.getElem_idxOf hil
        rw [hdr, ← hA] at hm
        rw [← hA, ← hB] at hsp
        obtain ⟨rfl, _⟩ := Prod.mk.inj hm
        have hjl := lt_len hl
        have hl2 : (L.set j (A ++ xn :: yn :: B))[j]? = some (A ++ xn :: yn :: B) := List.getElem?_set_self hjl
        have hl3 : (L.set j (A ++ xn :: yn :: B))[j]? = some ((A ++ [xn]) ++ yn :: B) := by rw [hl2]; simp
        refine ⟨?_, ?_, ?_⟩
        · rw [bes_split h2 hl2, if_pos (by simp; omega), show ((A.length : Int) + 1).toNat = A.length + 1 by omega]
          simp [List.getD_eq_getElem?_getD]
        · rw [bes_split h2 hl3, if_pos (by simp; omega), show (((A ++ [xn]).length : Int) + -1).toNat = A.length by simp; omega]
          simp [List.getD_eq_getElem?_getD]
        · rw [drop_split h2 hl2, List.set_set, ← hsp, set_same hl]
    · rw [if_neg hw] at hm; cases hm
  · rw [if_neg ha] at hm; cases hm
/-- What is refused changes nothing. -/
theorem ins_no {p : Nat} {L : List (List Nat)} {x y : Int} (hm : (mIns p L x y).2 ≠ 0) : (mIns p L x y).1 = L := by
  unfold mIns at hm ⊢
  by_cases ha : (0 ≤ x ∧ x < p) ∧ (0 ≤ y ∧ y < p)
  · rw [if_pos ha] at hm ⊢
    by_cases hw : wh L x.toNat < 0
    · rw [if_pos hw] at hm ⊢
      by_cases hw2 : wh L y.toNat < 0
      · rw [if_pos hw2]
      · rw [if_neg hw2] at hm; exact absurd rfl hm
    · rw [if_neg hw]
  · rw [if_neg ha]
open Go.Proofs.YtfnppjhkhdfmdaaW.PrintWords Go.Proofs.Ytfnppjhkhdfmdaa.ChainQ
/-- The state of a law: the chains stand for L, the document's own (in a variable's block bm) for Lr. -/
structure LS (g b p : Nat) (L Lr : List (List Nat)) (v : Value) (bm : Nat) (w W : World) : Prop where
  chn : Chn W g b p L
  ref : RefP W (fun k => k ≠ b ∧ k ≠ bm) v Lr
  box : W.heap[bm]? = some (.cells #[.int .i64 (p : Int), v] 27 (0, 0))
  lo : w.heap.size ≤ b
  ne : bm ≠ b
  bel : Below w.heap.size w W
section
variable {g b p : Nat} {L L' Lr : List (List Nat)} {v : Value} {bm : Nat} {w W W' : World}
theorem LS.below (h : LS g b p L Lr v bm w W) (k : Below W.heap.size W W') : LS g b p L Lr v bm w W' :=
  ⟨h.chn.below k, h.ref.below k, below_blk k h.box (blk_lt h.box), h.lo, h.ne, h.bel.trans (k.mono h.bel.size)⟩
theorem LS.wr (h : LS g b p L Lr v bm w W) (c : Chn W' g b p L') (k : Wr b W W') : LS g b p L' Lr v bm w W' :=
  ⟨c, h.ref.wr k (fun _ hk => hk.1), wr_blk k h.box h.ne, h.lo, h.ne, h.bel.trans (k.1.mono h.lo)⟩
theorem LS.new {w1 : World} (hc : Chn W g b p L) (hr : RefAt W b v Lr) (hb : w1.heap.size ≤ b) (k1 : Below w.heap.size w w1) (k2 : Below w1.heap.size w1 W) : LS g b p L Lr v W.heap.size w (W.alloc (.cells #[.int .i64 (p : Int), v] 27)) :=
  ⟨hc.alloc _, (hr.bound.alloc _).mono (fun k hk => ⟨hk.1, by omega⟩), blk_new _ _, Nat.le_trans k1.size hb, by have := hc.blt; omega, (k1.trans (k2.mono k1.size)).alloc (by have := k1.size; have := k2.size; omega) _⟩
end
end Go.Proofs.Ytfnppjhkhdfmdaa.ChainX
