/-
  A sum, and whether it is more than never, and a difference: the program tells what the reference tells.
  No condition.
-/
import Derived.Test.YtfeehajeegeacaaGTickSumsx2
import Derived.Test.YtfeehajeegeacaaTickMath
namespace Go.Proofs.Ytfeehajeegeacaa.Pure
open Go.RowKit Go.Proofs.Ytfeehajeegeacaa.GTickSums Go.Proofs.YtfeehajeegeacaaW.PrintWords Go.Proofs.YtfeehajeegeacaaW.PrintLast Go.Proofs.YtfeehajeegeacaaW.PrintMore Go.Proofs.Ytfeehajeegeacaa.TickMath

theorem works_f (k : Nat) (hk : 64 ≤ k) : complinelaw01_works.f k = some true := at_rounds complinelaw01_works.mono hk (by decide +kernel)
theorem add_f (a b : Nat) (ha : a < 18446744073709551616) (hb : b < 18446744073709551616) : tick_Add.f a b = some (su a b) := by
  unfold tick_Add.f su
  rw [if_pos (by omega)]
  by_cases h : 18446744073709551615 < a + b
  · rw [if_pos (by omega), if_pos h]
  · rw [if_neg (by omega), if_neg h]; simp
theorem sub_f (a b : Nat) (ha : a < 18446744073709551616) (hb : b < 18446744073709551616) : tick_Sub.f a b = some ((a - b : Nat) : Int) := by
  unfold tick_Sub.f
  rw [if_pos (by omega)]
  by_cases h : a < b
  · rw [if_pos (by omega)]; congr 1; omega
  · rw [if_neg (by omega)]; congr 1; omega
theorem radd_f (a b : Nat) (ha : a < 18446744073709551616) (_hb : b < 18446744073709551616) : complineref01_Add.f a b = some (su a b) := by
  unfold complineref01_Add.f su
  rw [wrap_in _ (by omega) (by omega)]
  by_cases h : 18446744073709551615 < a + b
  · rw [if_pos (by omega), if_pos h]
  · rw [if_neg (by omega), if_neg h, wrap_in _ (by omega) (by omega)]; simp
theorem rsub_f (a b : Nat) (ha : a < 18446744073709551616) (_hb : b < 18446744073709551616) : complineref01_Sub.f a b = some ((a - b : Nat) : Int) := by
  unfold complineref01_Sub.f
  by_cases h : a < b
  · rw [if_pos (by omega)]; congr 1; omega
  · rw [if_neg (by omega), wrap_in _ (by omega) (by omega)]; congr 1; omega
theorem TickSums : complinelaw01_TickSums.Pure := by
  intro a0 a1 w0 w1
  obtain ⟨a, rfl, ha⟩ := u64_nat w0
  obtain ⟨b, rfl, hb⟩ := u64_nat w1
  refine ⟨64, ?_⟩
  simp -implicitDefEqProofs only [complinelaw01_TickSums.f, works_f 64 (by omega), add_f a b ha hb, radd_f a b ha hb, sub_f a b ha hb, rsub_f a b ha hb, Option.bind_some, if_true, beq_self_eq_true]

end Go.Proofs.Ytfeehajeegeacaa.Pure
