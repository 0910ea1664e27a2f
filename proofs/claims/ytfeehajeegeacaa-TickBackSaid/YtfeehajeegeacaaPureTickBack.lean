/-
  What is added is taken away again, if the sum is no more than never; in whichever order one adds.
  No condition.
-/
import Derived.Test.YtfeehajeegeacaaGTickBackx3
import Derived.Test.YtfeehajeegeacaaTickMath
namespace Go.Proofs.Ytfeehajeegeacaa.Pure
open Go.RowKit Go.Proofs.Ytfeehajeegeacaa.GTickBack Go.Proofs.YtfeehajeegeacaaW.PrintWords Go.Proofs.YtfeehajeegeacaaW.PrintLast Go.Proofs.YtfeehajeegeacaaW.PrintMore Go.Proofs.Ytfeehajeegeacaa.TickMath

theorem works_f (k : Nat) (hk : 64 ≤ k) : complinelaw01_works.f k = some true := at_rounds complinelaw01_works.mono hk (by decide +kernel)
theorem add_f (a b : Nat) (ha : a < 18446744073709551616) (hb : b < 18446744073709551616) : tick_Add.f a b = some (su a b) := by
  unfold tick_Add.f su
  rw [if_pos (by omega)]
  by_cases h : 18446744073709551615 < a + b
  · rw [if_pos (by omega), if_pos h]
  · rw [if_neg (by omega), if_neg h]; simp
theorem sub_f (a b : Nat) (ha : a < 18446744073709551616) (hb : b < 18446744073709551616) : tick_Sub.f a b = some ((a - b : Nat) : Int) := by
  unfold tick_Sub.f
  rw [if_pos (by omega)]
  by_cases h : a < b
  · rw [if_pos (by omega)]; congr 1; omega
  · rw [if_neg (by omega)]; congr 1; omega
theorem TickBack : complinelaw01_TickBack.Pure := by
  intro a0 a1 w0 w1
  obtain ⟨a, rfl, ha⟩ := u64_nat w0
  obtain ⟨b, rfl, hb⟩ := u64_nat w1
  refine ⟨98 + 1, ?_⟩
  have hc : su b a = su a b := by unfold su; rw [Nat.add_comm]
  have s0 := sub_f 18446744073709551615 a (by decide) ha
  rw [show ((18446744073709551615 : Nat) : Int) = 18446744073709551615 from rfl] at s0
  simp -implicitDefEqProofs only [complinelaw01_TickBack.f, works_f (98 + 1) (by omega), add_f a b ha hb, add_f b a hb ha, hc, Option.bind_some, if_true, bne_self_eq_false]
  simp -implicitDefEqProofs only [complinelaw01_TickBack.j0, Bool.false_eq_true, if_false]
  unfold su
  by_cases h : 18446744073709551615 < a + b
  · rw [if_pos h]
    simp -implicitDefEqProofs only [if_true, s0, Option.bind_some]
    refine congrArg some (decide_eq_true ?_); omega
  · rw [if_neg h]
    have s1 := sub_f (a + b) a (by omega) ha
    have s2 := sub_f (a + b) b (by omega) hb
    have s3 := sub_f a (a + b) ha (by omega)
    simp -implicitDefEqProofs only [if_true, if_false, Bool.false_eq_true, s1, s2, s3, Option.bind_some]
    rw [if_pos (by omega), if_pos (by omega), if_pos (by omega)]
    refine congrArg some (beq_iff_eq.2 ?_); omega

end Go.Proofs.Ytfeehajeegeacaa.Pure
