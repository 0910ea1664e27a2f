/-
  The first of timers is one of them, and none of them is before it.
  No condition.
-/
import Derived.Test.YtfeehajeegeacaaGTickFirstx4
import Derived.Test.YtfeehajeegeacaaTickMath
namespace Go.Proofs.Ytfeehajeegeacaa.Pure
open Go.RowKit Go.Proofs.Ytfeehajeegeacaa.GTickFirst Go.Proofs.YtfeehajeegeacaaW.PrintWords Go.Proofs.YtfeehajeegeacaaW.PrintLast Go.Proofs.YtfeehajeegeacaaW.PrintMore Go.Proofs.Ytfeehajeegeacaa.TickMath

theorem works_f (k : Nat) (hk : 64 ≤ k) : complinelaw01_works.f k = some true := at_rounds complinelaw01_works.mono hk (by decide +kernel)
theorem add_f (a b : Nat) (ha : a < 18446744073709551616) (hb : b < 18446744073709551616) : tick_Add.f a b = some (su a b) := by
  unfold tick_Add.f su
  rw [if_pos (by omega)]
  by_cases h : 18446744073709551615 < a + b
  · rw [if_pos (by omega), if_pos h]
  · rw [if_neg (by omega), if_neg h]; simp
theorem sub_f (a b : Nat) (ha : a < 18446744073709551616) (hb : b < 18446744073709551616) : tick_Sub.f a b = some ((a - b : Nat) : Int) := by
  unfold tick_Sub.f
  rw [if_pos (by omega)]
  by_cases h : a < b
  · rw [if_pos (by omega)]; congr 1; omega
  · rw [if_neg (by omega)]; congr 1; omega
/-- One timer before another one, by its three numbers. -/
def bf (a0 a1 a2 b0 b1 b2 : Int) : Prop := a0 < b0 ∨ (a0 = b0 ∧ (a1 < b1 ∨ (a1 = b1 ∧ a2 < b2)))
instance (a0 a1 a2 b0 b1 b2 : Int) : Decidable (bf a0 a1 a2 b0 b1 b2) := by unfold bf; infer_instance
/-- Which is before which. -/
def cm (a0 a1 a2 b0 b1 b2 : Int) : Int := if bf a0 a1 a2 b0 b1 b2 then -1 else if bf b0 b1 b2 a0 a1 a2 then 1 else 0
theorem before_f (a0 a1 a2 b0 b1 b2 : Int) : complineref01_Before.f a0 a1 a2 b0 b1 b2 = some (decide (bf a0 a1 a2 b0 b1 b2)) := by
  unfold complineref01_Before.f
  by_cases h0 : a0 = b0
  · rw [if_pos h0]
    by_cases h1 : a1 = b1
    · rw [if_pos h1]; refine congrArg some (decide_eq_decide.2 ?_); unfold bf; omega
    · rw [if_neg h1]; refine congrArg some (decide_eq_decide.2 ?_); unfold bf; omega
  · rw [if_neg h0]; refine congrArg some (decide_eq_decide.2 ?_); unfold bf; omega
theorem cmp_u (a b : Int) : cmp_Compare_uint64.f a b = some (if a < b then -1 else if a > b then 1 else 0) := by
  unfold cmp_Compare_uint64.f cmp_isNaN_uint64.f
  simp -implicitDefEqProofs only [bne_self_eq_false, Option.bind_some, Bool.false_eq_true, if_false]
  (repeat' split) <;> rfl
theorem cmp_i (a b : Int) : cmp_Compare_int.f a b = some (if a < b then -1 else if a > b then 1 else 0) := by
  unfold cmp_Compare_int.f cmp_isNaN_int.f
  simp -implicitDefEqProofs only [bne_self_eq_false, Option.bind_some, Bool.false_eq_true, if_false]
  (repeat' split) <;> rfl
theorem or_f (k : Nat) (x y z : Int) (hk : 5 ≤ k) : cmp_Or_int.f k [x, y, z] = some (if x = 0 then (if y = 0 then z else y) else x) := by
  obtain ⟨k, rfl⟩ : ∃ m, k = m + 1 + 1 + 1 + 1 := ⟨k - 4, by omega⟩
  unfold cmp_Or_int.f
  have w1 : wrap64 (0 + 1) = 1 := by unfold wrap64; omega
  have w2 : wrap64 (1 + 1) = 2 := by unfold wrap64; omega
  have w3 : wrap64 (2 + 1) = 3 := by unfold wrap64; omega
  have r0 : rd [x, y, z] 0 = x := rfl
  have r1 : rd [x, y, z] 1 = y := rfl
  have r2 : rd [x, y, z] 2 = z := rfl
  have e : (([x, y, z] : List Int).length : Int) = 3 := rfl
  rw [e]
  simp -implicitDefEqProofs only [cmp_Or_int.l0, e, r0, r1, r2, w1, w2, w3, show (0 : Int) < 3 from by decide, show (1 : Int) < 3 from by decide, show (2 : Int) < 3 from by decide, show ¬ (3 : Int) < 3 from by decide, show (0 : Int) ≤ 0 from by decide, show (0 : Int) ≤ 1 from by decide, show (0 : Int) ≤ 2 from by decide, if_true, if_false]
  by_cases hx : x = 0
  · rw [if_pos hx, if_pos hx]
    by_cases hy : y = 0
    · rw [if_pos hy, if_pos hy]
      by_cases hz : z = 0
      · rw [if_pos hz, hz]
      · rw [if_neg hz]
    · rw [if_neg hy, if_neg hy]
  · rw [if_neg hx, if_neg hx]
theorem compare_f (k : Nat) (a0 a1 a2 b0 b1 b2 : Int) (hk : 5 ≤ k) : tick_Compare.f k a0 a1 a2 b0 b1 b2 = some (cm a0 a1 a2 b0 b1 b2) := by
  unfold tick_Compare.f
  simp -implicitDefEqProofs only [cmp_u, cmp_i, Option.bind_some]
  rw [or_f k _ _ _ hk, Option.bind_some]
  refine congrArg some ?_
  unfold cm
  by_cases h1 : bf a0 a1 a2 b0 b1 b2
  · rw [if_pos h1]; unfold bf at h1; (repeat' split) <;> omega
  · rw [if_neg h1]
    by_cases h2 : bf b0 b1 b2 a0 a1 a2
    · rw [if_pos h2]; unfold bf at h1 h2; (repeat' split) <;> omega
    · rw [if_neg h2]; unfold bf at h1 h2; (repeat' split) <;> omega
def okS33 (x : S33) : Prop := (Lit.int .u64 x.f0).wf = true ∧ (Lit.int .u64 x.f1).wf = true ∧ (Lit.int .i64 x.f2).wf = true
theorem rd_get (l : List S33) (i : Nat) (h : i < l.length) : rd_T33 l (i : Int) = l[i] := by
  unfold rd_T33
  rw [Int.toNat_natCast, List.getD_eq_getElem?_getD, List.getElem?_eq_getElem h]; rfl
theorem first_l (l : List S33) (hn : l.length ≤ 60) (d : Nat) : ∀ (k i : Nat) (r : S33), i + d = l.length → d + 10 < k → r ∈ l → (∀ j (h : j < l.length), j < i → ¬ bf l[j].f0 l[j].f1 l[j].f2 r.f0 r.f1 r.f2) →
    ∃ q : S33, q ∈ l ∧ (∀ x ∈ l, ¬ bf x.f0 x.f1 x.f2 q.f0 q.f1 q.f2) ∧ tick_First.l0 k l (l.length : Int) i r.f0 r.f1 r.f2 = some (q.f0, q.f1, q.f2, true) := by
  induction d with
  | zero =>
    intro k i r hi hk hr hb
    obtain ⟨k, rfl⟩ : ∃ m, k = m + 1 := ⟨k - 1, by omega⟩
    refine ⟨r, hr, fun x hx => ?_, ?_⟩
    · obtain ⟨j, hj, rfl⟩ := List.getElem_of_mem hx
      exact hb j hj (by omega)
    · simp -implicitDefEqProofs only [tick_First.l0]
      rw [if_neg (by omega)]
  | succ d ih =>
    intro k i r hi hk hr hb
    obtain ⟨k, rfl⟩ : ∃ m, k = m + 1 := ⟨k - 1, by omega⟩
    have hlt : i < l.length := by omega
    simp -implicitDefEqProofs only [tick_First.l0]
    rw [if_pos (by omega), if_pos (by omega), if_pos (by omega), compare_f k _ _ _ _ _ _ (by omega), Option.bind_some, rd_get l i hlt, show (i : Int) + 1 = ((i + 1 : Nat) : Int) by simp, wrap64_in _ (by omega) (by omega)]
    by_cases h : bf l[i].f0 l[i].f1 l[i].f2 r.f0 r.f1 r.f2
    · have hc : cm l[i].f0 l[i].f1 l[i].f2 r.f0 r.f1 r.f2 < 0 := by unfold cm; rw [if_pos h]; decide
      rw [if_pos hc]
      refine ih k (i + 1) l[i] (by omega) (by omega) (List.getElem_mem hlt) (fun j hj hji => ?_)
      by_cases e : j = i
      · subst e; unfold bf; omega
      · have := hb j hj (by omega)
        unfold bf at this h ⊢; omega
    · have hc : ¬ cm l[i].f0 l[i].f1 l[i].f2 r.f0 r.f1 r.f2 < 0 := by unfold cm; rw [if_neg h]; split <;> decide
      rw [if_neg hc]
      refine ih k (i + 1) r (by omega) (by omega) hr (fun j hj hji => ?_)
      by_cases e : j = i
      · subst e; exact h
      · exact hb j hj (by omega)
theorem law_l (l : List S33) (hn : l.length ≤ 60) (q : S33) (hq : ∀ x ∈ l, ¬ bf x.f0 x.f1 x.f2 q.f0 q.f1 q.f2) (d : Nat) : ∀ (k i : Nat) (t : Bool), i + d = l.length → d + 10 < k → (t = true ∨ ∃ j, ∃ h : j < l.length, i ≤ j ∧ l[j] = q) →
    complinelaw01_TickFirst.l0 k l true t i q.f0 q.f1 q.f2 = some true := by
  induction d with
  | zero =>
    intro k i t hi hk ht
    obtain ⟨k, rfl⟩ : ∃ m, k = m + 1 := ⟨k - 1, by omega⟩
    simp -implicitDefEqProofs only [complinelaw01_TickFirst.l0]
    rw [if_neg (by omega)]
    rcases ht with rfl | ⟨j, hj, hij, _⟩
    · rfl
    · omega
  | succ d ih =>
    intro k i t hi hk ht
    obtain ⟨k, rfl⟩ : ∃ m, k = m + 1 := ⟨k - 1, by omega⟩
    have hlt : i < l.length := by omega
    have hb : decide (bf l[i].f0 l[i].f1 l[i].f2 q.f0 q.f1 q.f2) = false := decide_eq_false (hq _ (List.getElem_mem hlt))
    simp -implicitDefEqProofs only [complinelaw01_TickFirst.l0]
    rw [if_pos (by omega), before_f, rd_get l i hlt, hb, show (i : Int) + 1 = ((i + 1 : Nat) : Int) by simp, wrap64_in _ (by omega) (by omega)]
    simp -implicitDefEqProofs only [Option.bind_some, Bool.false_eq_true, if_false]
    cases t with
    | true =>
      rw [if_pos rfl, if_pos (by omega)]
      exact ih k (i + 1) true (by omega) (by omega) (.inl rfl)
    | false =>
      rw [if_neg (by decide), if_pos (by omega)]
      refine ih k (i + 1) _ (by omega) (by omega) ?_
      rcases ht with h | ⟨j, hj, hij, e⟩
      · cases h
      · by_cases hji : j = i
        · left; subst hji; rw [e]; simp
        · right; exact ⟨j, hj, by omega, e⟩
theorem TickFirst (l : List S33) (_ : l.length * 24 ≤ 140737488351232) (_ : ∀ x ∈ l, okS33 x) : ∃ k, complinelaw01_TickFirst.f k l = some true := by
  refine ⟨98 + 1, ?_⟩
  simp -implicitDefEqProofs only [complinelaw01_TickFirst.f, works_f (98 + 1) (by omega), Option.bind_some, if_true]
  by_cases hn : l.length > 60
  · rw [if_pos (by omega)]
  rw [if_neg (by omega)]
  unfold tick_First.f
  by_cases h0 : l.length = 0
  · rw [if_pos (by omega)]
    simp -implicitDefEqProofs only [Option.bind_some, Bool.false_eq_true, if_false, complinelaw01_TickFirst.j0, if_true]
    rw [if_pos (by omega)]; rfl
  · rw [if_neg (by omega), if_pos (by omega)]
    have r0 := rd_get l 0 (by omega)
    rw [show ((0 : Nat) : Int) = 0 from rfl] at r0
    obtain ⟨q, hq, hb, e⟩ := first_l l (by omega) l.length (98 + 1) 0 l[0] (by omega) (by omega) (List.getElem_mem (by omega)) (fun j hj h => absurd h (Nat.not_lt_zero _))
    rw [r0]
    rw [show ((0 : Nat) : Int) = 0 from rfl] at e
    rw [e]
    have hz : ((l.length : Int) == 0) = false := beq_false_of_ne (by omega)
    simp -implicitDefEqProofs only [Option.bind_some, if_true, hz, complinelaw01_TickFirst.j0, Bool.false_eq_true, if_false]
    obtain ⟨j, hj, ej⟩ := List.getElem_of_mem hq
    exact law_l l (by omega) q hb l.length 98 0 false (by omega) (by omega) (.inr ⟨j, hj, by omega, ej⟩)

end Go.Proofs.Ytfeehajeegeacaa.Pure
