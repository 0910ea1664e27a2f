/-
  Between the two multiples of 2^b about a tick there is none, and a multiple is its own.
  No condition.
-/
import Derived.Test.YtfeehajeegeacaaGTickRoundsx3
import Derived.Test.YtfeehajeegeacaaTickMath
namespace Go.Proofs.Ytfeehajeegeacaa.Pure
open Go.RowKit Go.Proofs.Ytfeehajeegeacaa.GTickRounds Go.Proofs.YtfeehajeegeacaaW.PrintWords Go.Proofs.YtfeehajeegeacaaW.PrintLast Go.Proofs.YtfeehajeegeacaaW.PrintMore Go.Proofs.Ytfeehajeegeacaa.TickMath

theorem works_f (k : Nat) (hk : 64 ≤ k) : complinelaw01_works.f k = some true := at_rounds complinelaw01_works.mono hk (by decide +kernel)
theorem add_f (a b : Nat) (ha : a < 18446744073709551616) (hb : b < 18446744073709551616) : tick_Add.f a b = some (su a b) := by
  unfold tick_Add.f su
  rw [if_pos (by omega)]
  by_cases h : 18446744073709551615 < a + b
  · rw [if_pos (by omega), if_pos h]
  · rw [if_neg (by omega), if_neg h]; simp
theorem sub_f (a b : Nat) (ha : a < 18446744073709551616) (hb : b < 18446744073709551616) : tick_Sub.f a b = some ((a - b : Nat) : Int) := by
  unfold tick_Sub.f
  rw [if_pos (by omega)]
  by_cases h : a < b
  · rw [if_pos (by omega)]; congr 1; omega
  · rw [if_neg (by omega)]; congr 1; omega
theorem floor_f (a : Nat) (b : Int) (ha : a < 18446744073709551616) (hb : b < 9223372036854775808) : tick_Floor.f a b = some (fl a (sh b) : Int) := by
  have e : IntKind.u64.wrap (mx b 0) = ((b.toNat : Nat) : Int) := by rw [wrap_u64]; unfold mx; split <;> omega
  have hle := fl_le a (sh b)
  unfold fl sh at hle
  unfold tick_Floor.f
  rw [e, if_pos (by omega), shr_min, shl_min _ _ (by omega)]
  rfl
theorem ceil_f (a : Nat) (b : Int) (ha : a < 18446744073709551616) (hb : b < 9223372036854775808) : tick_Ceil.f a b = some (ce a b) := by
  unfold tick_Ceil.f ce
  rw [floor_f a b ha hb, Option.bind_some]
  by_cases h : fl a (sh b) = a
  · rw [if_pos (by omega), if_pos h]
  rw [if_neg (by omega), if_neg h]
  by_cases h63 : 63 < b
  · rw [if_pos h63, if_pos h63]
  rw [if_neg h63, if_neg h63]
  have h0 : 0 < b := by
    by_cases h0 : b ≤ 0
    · exact absurd (by rw [sh_low b h0, fl_zero]) h
    · omega
  have hle := fl_le a (sh b)
  have hp := pw_le63 (sh b) (by rw [sh_mid b h63]; omega)
  have e : IntKind.u64.wrap b = ((sh b : Nat) : Int) := by rw [wrap_u64, sh_mid b h63]; omega
  have e2 : shl .u64 1 ((sh b : Nat) : Int) = ((2 ^ sh b : Nat) : Int) := by
    have := shl_min 1 (sh b) (by rw [Nat.min_eq_left (sh_le b)]; omega)
    rw [Nat.min_eq_left (sh_le b), Nat.one_mul] at this
    exact this
  rw [e, if_pos (by omega), e2, add_f _ _ (by omega) (by omega), Option.bind_some]
  unfold su
  by_cases h1 : 18446744073709551615 < fl a (sh b) + 2 ^ sh b
  · simp only [if_pos h1]
  · simp only [if_neg h1]
theorem ce_mul (a : Nat) (b : Int) : ce (fl a (sh b)) b = ((fl a (sh b) : Int), false) := by unfold ce; rw [if_pos (fl_fl _ _)]
theorem ce_ge (a : Nat) (b : Int) (ha : a < 18446744073709551616) : ¬ (ce a b).1 < (a : Int) := by
  have h := fl_gt a (sh b)
  unfold ce; generalize fl a (sh b) = q at *; generalize 2 ^ sh b = p at *; (repeat' split) <;> simp <;> omega
theorem TickRounds : complinelaw01_TickRounds.Pure := by
  intro a0 b w0 w1
  obtain ⟨a, rfl, ha⟩ := u64_nat w0
  have hb := i64_in w1
  have hle := fl_le a (sh b)
  refine ⟨98 + 1, ?_⟩
  simp -implicitDefEqProofs only [complinelaw01_TickRounds.f, works_f (98 + 1) (by omega), ceil_f a b ha hb.2, floor_f a b ha hb.2, ceil_f (fl a (sh b)) b (by omega) hb.2, floor_f (fl a (sh b)) b (by omega) hb.2, fl_fl, ce_mul, Option.bind_some, if_true]
  rw [if_neg (by omega), if_neg (ce_ge a b ha)]
  simp -implicitDefEqProofs only [complinelaw01_TickRounds.j0, Bool.false_eq_true, if_false]
  unfold ce
  by_cases h : fl a (sh b) = a
  · rw [if_pos h]
    simp -implicitDefEqProofs only [Bool.false_eq_true, if_false, if_true]
    rw [if_pos (by omega)]; simp
  rw [if_neg h]
  by_cases h63 : 63 < b
  · rw [if_pos h63]
    simp -implicitDefEqProofs only [if_true]
    refine congrArg some (bne_iff_ne.2 ?_); omega
  rw [if_neg h63]
  have h0 : 0 < b := by
    by_cases h0 : b ≤ 0
    · exact absurd (by rw [sh_low b h0, fl_zero]) h
    · omega
  by_cases h1 : 18446744073709551615 < fl a (sh b) + 2 ^ sh b
  · rw [if_pos h1]
    simp -implicitDefEqProofs only [if_true]
    refine congrArg some (bne_iff_ne.2 ?_); omega
  rw [if_neg h1]
  simp -implicitDefEqProofs only [Bool.false_eq_true, if_false, if_true]
  have hp := pw_pos (sh b)
  have e : IntKind.u64.wrap b = ((sh b : Nat) : Int) := by rw [wrap_u64, sh_mid b h63]; omega
  have e2 : shl .u64 1 ((sh b : Nat) : Int) = ((2 ^ sh b : Nat) : Int) := by
    have hp := pw_le63 (sh b) (by rw [sh_mid b h63]; omega)
    have := shl_min 1 (sh b) (by rw [Nat.min_eq_left (sh_le b)]; omega)
    rw [Nat.min_eq_left (sh_le b), Nat.one_mul] at this
    exact this
  have e3 : ((fl a (sh b) + 2 ^ sh b : Nat) : Int) - ((fl a (sh b) : Nat) : Int) = ((2 ^ sh b : Nat) : Int) := by omega
  have e4 : ((fl a (sh b) + 2 ^ sh b : Nat) : Int) - 1 = ((fl a (sh b) + 2 ^ sh b - 1 : Nat) : Int) := by omega
  rw [if_neg (by omega), if_pos (by omega), if_pos (by omega), e, if_pos (by omega), e2, e3, wrap_lt _ (by omega), if_pos rfl, floor_f _ b (by omega) hb.2, Option.bind_some, fl_next, if_pos rfl,
    e4, wrap_lt _ (by omega), floor_f _ b (by omega) hb.2, Option.bind_some, fl_below]
  simp

end Go.Proofs.Ytfeehajeegeacaa.Pure
