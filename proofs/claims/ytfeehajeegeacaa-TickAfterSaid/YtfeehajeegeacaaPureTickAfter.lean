/-
  The next one of a row, and how many were missed: the program tells what the reference tells.
  No condition.
-/
import Derived.Test.YtfeehajeegeacaaGTickAfterx2
import Derived.Test.YtfeehajeegeacaaTickMath
namespace Go.Proofs.Ytfeehajeegeacaa.Pure
open Go.RowKit Go.Proofs.Ytfeehajeegeacaa.GTickAfter Go.Proofs.YtfeehajeegeacaaW.PrintWords Go.Proofs.YtfeehajeegeacaaW.PrintLast Go.Proofs.YtfeehajeegeacaaW.PrintMore Go.Proofs.Ytfeehajeegeacaa.TickMath

theorem works_f (k : Nat) (hk : 64 ≤ k) : complinelaw01_works.f k = some true := at_rounds complinelaw01_works.mono hk (by decide +kernel)
theorem add_f (a b : Nat) (ha : a < 18446744073709551616) (hb : b < 18446744073709551616) : tick_Add.f a b = some (su a b) := by
  unfold tick_Add.f su
  rw [if_pos (by omega)]
  by_cases h : 18446744073709551615 < a + b
  · rw [if_pos (by omega), if_pos h]
  · rw [if_neg (by omega), if_neg h]; simp
theorem sub_f (a b : Nat) (ha : a < 18446744073709551616) (hb : b < 18446744073709551616) : tick_Sub.f a b = some ((a - b : Nat) : Int) := by
  unfold tick_Sub.f
  rw [if_pos (by omega)]
  by_cases h : a < b
  · rw [if_pos (by omega)]; congr 1; omega
  · rw [if_neg (by omega)]; congr 1; omega
theorem radd_f (a b : Nat) (ha : a < 18446744073709551616) (_hb : b < 18446744073709551616) : complineref01_Add.f a b = some (su a b) := by
  unfold complineref01_Add.f su
  rw [wrap_in _ (by omega) (by omega)]
  by_cases h : 18446744073709551615 < a + b
  · rw [if_pos (by omega), if_pos h]
  · rw [if_neg (by omega), if_neg h, wrap_in _ (by omega) (by omega)]; simp
theorem after_f (a p n : Nat) (ha : a < 18446744073709551616) (hp : p < 18446744073709551616) (hn : n < 18446744073709551616) :
    tick_After.f a p n = some (if p = 0 then ((a : Int), 0) else ((su (a + (n - a) / p * p) p).1, (((n - a) / p : Nat) : Int))) := by
  unfold tick_After.f
  by_cases h : p = 0
  · rw [if_pos (by omega), if_pos h]
  have hm : (n - a) / p * p ≤ n - a := Nat.div_mul_le_self _ _
  have hd : (n - a) / p ≤ n - a := Nat.div_le_self _ _
  have e1 : (((n - a) / p : Nat) : Int) * (p : Int) = (((n - a) / p * p : Nat) : Int) := by simp
  rw [if_neg (by omega), if_neg h, sub_f n a hn ha, Option.bind_some, tdiv_nat, wrap_lt _ (by omega), e1, wrap_lt _ (by omega), show (a : Int) + (((n - a) / p * p : Nat) : Int) = ((a + (n - a) / p * p : Nat) : Int) by simp]
  by_cases hle : a ≤ n
  · rw [wrap_lt _ (by omega), add_f _ _ (by omega) hp, Option.bind_some]
  · have : n - a = 0 := by omega
    rw [this]; simp only [Nat.zero_div, Nat.zero_mul, Nat.add_zero]
    rw [wrap_lt _ ha, add_f _ _ ha hp, Option.bind_some]
theorem rafter_f (a p n : Nat) (ha : a < 18446744073709551616) (hp : p < 18446744073709551616) (hn : n < 18446744073709551616) :
    complineref01_After.f a p n = some (if p = 0 then ((a : Int), 0) else ((su (a + (n - a) / p * p) p).1, (((n - a) / p : Nat) : Int))) := by
  unfold complineref01_After.f
  by_cases h : p = 0
  · rw [if_pos (by omega), if_pos h]
  rw [if_neg (by omega), if_neg h]
  by_cases hgt : a > n
  · have : n - a = 0 := by omega
    rw [if_pos (by omega), radd_f a p ha hp, Option.bind_some, this]
    simp
  · have hm := Nat.mod_le (n - a) p
    have hdm := Nat.div_add_mod (n - a) p
    rw [Nat.mul_comm] at hdm
    have hd : (n - a) / p ≤ n - a := Nat.div_le_self _ _
    have e1 : (n : Int) - (a : Int) = ((n - a : Nat) : Int) := by omega
    have e2 : (n : Int) - (((n - a) % p : Nat) : Int) = ((a + (n - a) / p * p : Nat) : Int) := by omega
    have e3 : ((n - a : Nat) : Int) - (((n - a) % p : Nat) : Int) = (((n - a) / p * p : Nat) : Int) := by omega
    rw [if_neg (by omega), e1, wrap_lt _ (by omega), tmod_nat, e2, e3, wrap_lt _ (by omega), wrap_lt _ (by omega), radd_f _ p (by omega) hp, Option.bind_some, tdiv_nat, Nat.mul_div_cancel _ (by omega), wrap_lt _ (by omega)]
theorem TickAfter : complinelaw01_TickAfter.Pure := by
  intro a0 a1 a2 w0 w1 w2
  obtain ⟨a, rfl, ha⟩ := u64_nat w0
  obtain ⟨p, rfl, hp⟩ := u64_nat w1
  obtain ⟨n, rfl, hn⟩ := u64_nat w2
  refine ⟨64, ?_⟩
  simp -implicitDefEqProofs only [complinelaw01_TickAfter.f, works_f 64 (by omega), after_f a p n ha hp hn, rafter_f a p n ha hp hn, Option.bind_some, if_true, beq_self_eq_true]

end Go.Proofs.Ytfeehajeegeacaa.Pure
