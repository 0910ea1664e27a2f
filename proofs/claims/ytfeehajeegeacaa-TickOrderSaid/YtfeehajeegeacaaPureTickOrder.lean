/-
  Which timer is before which is what the reference says, and it is an order.
  No condition.
-/
import Derived.Test.YtfeehajeegeacaaGTickOrderx4
import Derived.Test.YtfeehajeegeacaaTickMath
namespace Go.Proofs.Ytfeehajeegeacaa.Pure
open Go.RowKit Go.Proofs.Ytfeehajeegeacaa.GTickOrder Go.Proofs.YtfeehajeegeacaaW.PrintWords Go.Proofs.YtfeehajeegeacaaW.PrintLast Go.Proofs.YtfeehajeegeacaaW.PrintMore Go.Proofs.Ytfeehajeegeacaa.TickMath

theorem works_f (k : Nat) (hk : 64 ≤ k) : complinelaw01_works.f k = some true := at_rounds complinelaw01_works.mono hk (by decide +kernel)
theorem add_f (a b : Nat) (ha : a < 18446744073709551616) (hb : b < 18446744073709551616) : tick_Add.f a b = some (su a b) := by
  unfold tick_Add.f su
  rw [if_pos (by omega)]
  by_cases h : 18446744073709551615 < a + b
  · rw [if_pos (by omega), if_pos h]
  · rw [if_neg (by omega), if_neg h]; simp
theorem sub_f (a b : Nat) (ha : a < 18446744073709551616) (hb : b < 18446744073709551616) : tick_Sub.f a b = some ((a - b : Nat) : Int) := by
  unfold tick_Sub.f
  rw [if_pos (by omega)]
  by_cases h : a < b
  · rw [if_pos (by omega)]; congr 1; omega
  · rw [if_neg (by omega)]; congr 1; omega
/-- One timer before another one, by its three numbers. -/
def bf (a0 a1 a2 b0 b1 b2 : Int) : Prop := a0 < b0 ∨ (a0 = b0 ∧ (a1 < b1 ∨ (a1 = b1 ∧ a2 < b2)))
instance (a0 a1 a2 b0 b1 b2 : Int) : Decidable (bf a0 a1 a2 b0 b1 b2) := by unfold bf; infer_instance
/-- Which is before which. -/
def cm (a0 a1 a2 b0 b1 b2 : Int) : Int := if bf a0 a1 a2 b0 b1 b2 then -1 else if bf b0 b1 b2 a0 a1 a2 then 1 else 0
theorem before_f (a0 a1 a2 b0 b1 b2 : Int) : complineref01_Before.f a0 a1 a2 b0 b1 b2 = some (decide (bf a0 a1 a2 b0 b1 b2)) := by
  unfold complineref01_Before.f
  by_cases h0 : a0 = b0
  · rw [if_pos h0]
    by_cases h1 : a1 = b1
    · rw [if_pos h1]; refine congrArg some (decide_eq_decide.2 ?_); unfold bf; omega
    · rw [if_neg h1]; refine congrArg some (decide_eq_decide.2 ?_); unfold bf; omega
  · rw [if_neg h0]; refine congrArg some (decide_eq_decide.2 ?_); unfold bf; omega
theorem cmp_u (a b : Int) : cmp_Compare_uint64.f a b = some (if a < b then -1 else if a > b then 1 else 0) := by
  unfold cmp_Compare_uint64.f cmp_isNaN_uint64.f
  simp -implicitDefEqProofs only [bne_self_eq_false, Option.bind_some, Bool.false_eq_true, if_false]
  (repeat' split) <;> rfl
theorem cmp_i (a b : Int) : cmp_Compare_int.f a b = some (if a < b then -1 else if a > b then 1 else 0) := by
  unfold cmp_Compare_int.f cmp_isNaN_int.f
  simp -implicitDefEqProofs only [bne_self_eq_false, Option.bind_some, Bool.false_eq_true, if_false]
  (repeat' split) <;> rfl
theorem or_f (k : Nat) (x y z : Int) (hk : 5 ≤ k) : cmp_Or_int.f k [x, y, z] = some (if x = 0 then (if y = 0 then z else y) else x) := by
  obtain ⟨k, rfl⟩ : ∃ m, k = m + 1 + 1 + 1 + 1 := ⟨k - 4, by omega⟩
  unfold cmp_Or_int.f
  have w1 : wrap64 (0 + 1) = 1 := by unfold wrap64; omega
  have w2 : wrap64 (1 + 1) = 2 := by unfold wrap64; omega
  have w3 : wrap64 (2 + 1) = 3 := by unfold wrap64; omega
  have r0 : rd [x, y, z] 0 = x := rfl
  have r1 : rd [x, y, z] 1 = y := rfl
  have r2 : rd [x, y, z] 2 = z := rfl
  have e : (([x, y, z] : List Int).length : Int) = 3 := rfl
  rw [e]
  simp -implicitDefEqProofs only [cmp_Or_int.l0, e, r0, r1, r2, w1, w2, w3, show (0 : Int) < 3 from by decide, show (1 : Int) < 3 from by decide, show (2 : Int) < 3 from by decide, show ¬ (3 : Int) < 3 from by decide, show (0 : Int) ≤ 0 from by decide, show (0 : Int) ≤ 1 from by decide, show (0 : Int) ≤ 2 from by decide, if_true, if_false]
  by_cases hx : x = 0
  · rw [if_pos hx, if_pos hx]
    by_cases hy : y = 0
    · rw [if_pos hy, if_pos hy]
      by_cases hz : z = 0
      · rw [if_pos hz, hz]
      · rw [if_neg hz]
    · rw [if_neg hy, if_neg hy]
  · rw [if_neg hx, if_neg hx]
theorem compare_f (k : Nat) (a0 a1 a2 b0 b1 b2 : Int) (hk : 5 ≤ k) : tick_Compare.f k a0 a1 a2 b0 b1 b2 = some (cm a0 a1 a2 b0 b1 b2) := by
  unfold tick_Compare.f
  simp -implicitDefEqProofs only [cmp_u, cmp_i, Option.bind_some]
  rw [or_f k _ _ _ hk, Option.bind_some]
  refine congrArg some ?_
  unfold cm
  by_cases h1 : bf a0 a1 a2 b0 b1 b2
  · rw [if_pos h1]; unfold bf at h1; (repeat' split) <;> omega
  · rw [if_neg h1]
    by_cases h2 : bf b0 b1 b2 a0 a1 a2
    · rw [if_pos h2]; unfold bf at h1 h2; (repeat' split) <;> omega
    · rw [if_neg h2]; unfold bf at h1 h2; (repeat' split) <;> omega
def okS33 (x : S33) : Prop := (Lit.int .u64 x.f0).wf = true ∧ (Lit.int .u64 x.f1).wf = true ∧ (Lit.int .i64 x.f2).wf = true
theorem rcompare_f (a0 a1 a2 b0 b1 b2 : Int) : complineref01_Compare.f a0 a1 a2 b0 b1 b2 = some (cm a0 a1 a2 b0 b1 b2) := by
  unfold complineref01_Compare.f cm
  rw [before_f, before_f, Option.bind_some, Option.bind_some]
  by_cases h1 : bf a0 a1 a2 b0 b1 b2
  · rw [if_pos h1, if_pos (decide_eq_true h1)]
  · rw [if_neg h1, if_neg (by simpa using h1)]
    by_cases h2 : bf b0 b1 b2 a0 a1 a2
    · rw [if_pos h2, if_pos (decide_eq_true h2)]
    · rw [if_neg h2, if_neg (by simpa using h2)]
theorem cm_back (a0 a1 a2 b0 b1 b2 : Int) : cm b0 b1 b2 a0 a1 a2 = wrap64 (-cm a0 a1 a2 b0 b1 b2) := by
  unfold cm
  by_cases h1 : bf a0 a1 a2 b0 b1 b2
  · have h2 : ¬ bf b0 b1 b2 a0 a1 a2 := by unfold bf at h1 ⊢; omega
    simp only [if_neg h2, if_pos h1]; unfold wrap64; omega
  · by_cases h2 : bf b0 b1 b2 a0 a1 a2
    · simp only [if_neg h1, if_pos h2]; unfold wrap64; omega
    · simp only [if_neg h1, if_neg h2]; unfold wrap64; omega
theorem cm_eq (a0 a1 a2 b0 b1 b2 : Int) : ((cm a0 a1 a2 b0 b1 b2 == 0) != (a0 == b0 && (a1 == b1 && (a2 == b2)))) = false := by
  unfold cm
  by_cases h1 : bf a0 a1 a2 b0 b1 b2
  · rw [if_pos h1]
    have : (a0 == b0 && (a1 == b1 && (a2 == b2))) = false := by
      unfold bf at h1; simp; omega
    rw [this]; rfl
  · rw [if_neg h1]
    by_cases h2 : bf b0 b1 b2 a0 a1 a2
    · rw [if_pos h2]
      have : (a0 == b0 && (a1 == b1 && (a2 == b2))) = false := by
        unfold bf at h2; simp; omega
      rw [this]; rfl
    · rw [if_neg h2]
      have : (a0 == b0 && (a1 == b1 && (a2 == b2))) = true := by
        unfold bf at h1 h2; simp; omega
      rw [this]; rfl
/-- An order: what the three tests say. -/
theorem cm_law (a0 a1 a2 b0 b1 b2 c0 c1 c2 : Int) :
    (cm a0 a1 a2 b0 b1 b2 = -1 ∧ cm b0 b1 b2 c0 c1 c2 ≠ 1 → cm a0 a1 a2 c0 c1 c2 = -1) ∧ (cm a0 a1 a2 b0 b1 b2 = 1 ∧ cm b0 b1 b2 c0 c1 c2 ≠ -1 → cm a0 a1 a2 c0 c1 c2 = 1) ∧
      (cm a0 a1 a2 b0 b1 b2 = 0 → cm b0 b1 b2 c0 c1 c2 = cm a0 a1 a2 c0 c1 c2) := by
  unfold cm
  by_cases h1 : bf a0 a1 a2 b0 b1 b2 <;> by_cases h2 : bf b0 b1 b2 a0 a1 a2 <;> by_cases h3 : bf b0 b1 b2 c0 c1 c2 <;> by_cases h4 : bf c0 c1 c2 b0 b1 b2 <;> by_cases h5 : bf a0 a1 a2 c0 c1 c2 <;> by_cases h6 : bf c0 c1 c2 a0 a1 a2 <;> simp [h1, h2, h3, h4, h5, h6] <;> unfold bf at h1 h2 h3 h4 h5 h6 <;> omega
theorem tests (x y z : Int) (h1 : x = -1 ∧ y ≠ 1 → z = -1) (h2 : x = 1 ∧ y ≠ -1 → z = 1) (h3 : x = 0 → y = z) :
    (if x = (-1) then (if y = 1 then (if x = 1 then (if y = (-1) then (if x = 0 then (some (y == z)) else (some true)) else (if z = 1 then (if x = 0 then (some (y == z)) else (some true)) else (some false))) else (if x = 0 then (some (y == z)) else (some true))) else (if z = (-1) then (if x = 1 then (if y = (-1) then (if x = 0 then (some (y == z)) else (some true)) else (if z = 1 then (if x = 0 then (some (y == z)) else (some true)) else (some false))) else (if x = 0 then (some (y == z)) else (some true))) else (some false))) else (if x = 1 then (if y = (-1) then (if x = 0 then (some (y == z)) else (some true)) else (if z = 1 then (if x = 0 then (some (y == z)) else (some true)) else (some false))) else (if x = 0 then (some (y == z)) else (some true)))) = some true := by
  by_cases a : x = -1
  · subst a
    by_cases b : y = 1
    · subst b; rfl
    · rw [if_pos rfl, if_neg b, if_pos (h1 ⟨rfl, b⟩)]; rfl
  · rw [if_neg a]
    by_cases b : x = 1
    · subst b
      by_cases c : y = -1
      · subst c; rfl
      · rw [if_pos rfl, if_neg c, if_pos (h2 ⟨rfl, c⟩)]; rfl
    · rw [if_neg b]
      by_cases c : x = 0
      · rw [if_pos c, h3 c]; simp
      · rw [if_neg c]
theorem TickOrder (a b c : S33) (_ : okS33 a) (_ : okS33 b) (_ : okS33 c) : ∃ k, complinelaw01_TickOrder.f k a.f0 a.f1 a.f2 b.f0 b.f1 b.f2 c.f0 c.f1 c.f2 = some true := by
  refine ⟨98 + 1, ?_⟩
  simp -implicitDefEqProofs only [complinelaw01_TickOrder.f, works_f (98 + 1) (by omega), compare_f (98 + 1) _ _ _ _ _ _ (by omega), rcompare_f, Option.bind_some, if_true, bne_self_eq_false]
  simp -implicitDefEqProofs only [complinelaw01_TickOrder.j0, cm_eq, Bool.false_eq_true, if_false, compare_f 98 _ _ _ _ _ _ (by omega), Option.bind_some, if_true]
  rw [if_pos (cm_back _ _ _ _ _ _)]
  obtain ⟨h1, h2, h3⟩ := cm_law a.f0 a.f1 a.f2 b.f0 b.f1 b.f2 c.f0 c.f1 c.f2
  exact tests _ _ _ h1 h2 h3

end Go.Proofs.Ytfeehajeegeacaa.Pure
