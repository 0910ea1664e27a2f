/-
  The multiples of a power of two next to a tick: the program tells what the reference tells.
  No condition.
-/
import Derived.Test.YtfeehajeegeacaaGTickStepsx3
import Derived.Test.YtfeehajeegeacaaTickMath
namespace Go.Proofs.Ytfeehajeegeacaa.Pure
open Go.RowKit Go.Proofs.Ytfeehajeegeacaa.GTickSteps Go.Proofs.YtfeehajeegeacaaW.PrintWords Go.Proofs.YtfeehajeegeacaaW.PrintLast Go.Proofs.YtfeehajeegeacaaW.PrintMore Go.Proofs.Ytfeehajeegeacaa.TickMath

theorem works_f (k : Nat) (hk : 64 ≤ k) : complinelaw01_works.f k = some true := at_rounds complinelaw01_works.mono hk (by decide +kernel)
theorem add_f (a b : Nat) (ha : a < 18446744073709551616) (hb : b < 18446744073709551616) : tick_Add.f a b = some (su a b) := by
  unfold tick_Add.f su
  rw [if_pos (by omega)]
  by_cases h : 18446744073709551615 < a + b
  · rw [if_pos (by omega), if_pos h]
  · rw [if_neg (by omega), if_neg h]; simp
theorem sub_f (a b : Nat) (ha : a < 18446744073709551616) (hb : b < 18446744073709551616) : tick_Sub.f a b = some ((a - b : Nat) : Int) := by
  unfold tick_Sub.f
  rw [if_pos (by omega)]
  by_cases h : a < b
  · rw [if_pos (by omega)]; congr 1; omega
  · rw [if_neg (by omega)]; congr 1; omega
theorem floor_f (a : Nat) (b : Int) (ha : a < 18446744073709551616) (hb : b < 9223372036854775808) : tick_Floor.f a b = some (fl a (sh b) : Int) := by
  have e : IntKind.u64.wrap (mx b 0) = ((b.toNat : Nat) : Int) := by rw [wrap_u64]; unfold mx; split <;> omega
  have hle := fl_le a (sh b)
  unfold fl sh at hle
  unfold tick_Floor.f
  rw [e, if_pos (by omega), shr_min, shl_min _ _ (by omega)]
  rfl
theorem ceil_f (a : Nat) (b : Int) (ha : a < 18446744073709551616) (hb : b < 9223372036854775808) : tick_Ceil.f a b = some (ce a b) := by
  unfold tick_Ceil.f ce
  rw [floor_f a b ha hb, Option.bind_some]
  by_cases h : fl a (sh b) = a
  · rw [if_pos (by omega), if_pos h]
  rw [if_neg (by omega), if_neg h]
  by_cases h63 : 63 < b
  · rw [if_pos h63, if_pos h63]
  rw [if_neg h63, if_neg h63]
  have h0 : 0 < b := by
    by_cases h0 : b ≤ 0
    · exact absurd (by rw [sh_low b h0, fl_zero]) h
    · omega
  have hle := fl_le a (sh b)
  have hp := pw_le63 (sh b) (by rw [sh_mid b h63]; omega)
  have e : IntKind.u64.wrap b = ((sh b : Nat) : Int) := by rw [wrap_u64, sh_mid b h63]; omega
  have e2 : shl .u64 1 ((sh b : Nat) : Int) = ((2 ^ sh b : Nat) : Int) := by
    have := shl_min 1 (sh b) (by rw [Nat.min_eq_left (sh_le b)]; omega)
    rw [Nat.min_eq_left (sh_le b), Nat.one_mul] at this
    exact this
  rw [e, if_pos (by omega), e2, add_f _ _ (by omega) (by omega), Option.bind_some]
  unfold su
  by_cases h1 : 18446744073709551615 < fl a (sh b) + 2 ^ sh b
  · simp only [if_pos h1]
  · simp only [if_neg h1]
theorem power_l (B : Nat) (hB : B ≤ 64) (d : Nat) : ∀ (k i : Nat), i + d = min B 63 → d + 1 < k →
    complineref01_power.l0 k (B : Int) ((2 ^ i : Nat) : Int) (i : Int) = some (if 63 < B then (0, false) else (((2 ^ B : Nat) : Int), true)) := by
  induction d with
  | zero =>
    intro k i hi hk
    obtain ⟨k, rfl⟩ : ∃ m, k = m + 1 := ⟨k - 1, by omega⟩
    simp -implicitDefEqProofs only [complineref01_power.l0]
    by_cases h : 63 < B
    · rw [if_pos (by omega), if_pos (by omega), if_pos h]
    · obtain rfl : i = B := by omega
      rw [if_neg (by omega), if_neg h]
  | succ d ih =>
    intro k i hi hk
    obtain ⟨k, rfl⟩ : ∃ m, k = m + 1 := ⟨k - 1, by omega⟩
    simp -implicitDefEqProofs only [complineref01_power.l0]
    have hp := pw_le63 i (by omega)
    have hp1 := pw_le63 (i + 1) (by omega)
    have e : (2 : Int) * ((2 ^ i : Nat) : Int) = ((2 ^ (i + 1) : Nat) : Int) := by rw [Nat.pow_succ]; omega
    rw [if_pos (by omega), if_neg (by omega), e, wrap_lt _ (by omega), show (i : Int) + 1 = ((i + 1 : Nat) : Int) by simp, wrap64_in _ (by omega) (by omega)]
    exact ih k (i + 1) (by omega) (by omega)
theorem power_f (k : Nat) (b : Int) (hk : 70 ≤ k) : complineref01_power.f k (mn b 64) = some (if 63 < b then (0, false) else (((2 ^ sh b : Nat) : Int), true)) := by
  unfold complineref01_power.f
  by_cases h : b ≤ 0
  · obtain ⟨k, rfl⟩ : ∃ m, k = m + 1 := ⟨k - 1, by omega⟩
    simp -implicitDefEqProofs only [complineref01_power.l0]
    have : mn b 64 = b := by unfold mn; split <;> omega
    rw [this, if_neg (by omega), if_neg (by omega), sh_low b h]; rfl
  · have e : mn b 64 = ((sh b : Nat) : Int) := by unfold mn sh; split <;> omega
    have := power_l (sh b) (sh_le b) (min (sh b) 63) k 0 (by omega) (by omega)
    rw [e]
    refine this.trans ?_
    by_cases h1 : 63 < b
    · rw [if_pos h1, if_pos (by unfold sh; omega)]
    · rw [if_neg h1, if_neg (by unfold sh; omega)]
theorem rfloor_f (k a : Nat) (b : Int) (hk : 70 ≤ k) (ha : a < 18446744073709551616) : complineref01_Floor.f k a b = some (fl a (sh b) : Int) := by
  unfold complineref01_Floor.f
  rw [power_f k b hk, Option.bind_some]
  by_cases h : 63 < b
  · rw [if_pos h, sh_top b h, fl_top a ha]; rfl
  · have hp := pw_pos (sh b)
    have hm := Nat.mod_le a (2 ^ sh b)
    rw [if_neg h]
    simp -implicitDefEqProofs only [if_true]
    rw [if_neg (by omega), tmod_nat]
    have e : (a : Int) - ((a % 2 ^ sh b : Nat) : Int) = (fl a (sh b) : Int) := by rw [← fl_mod]; omega
    have hle := fl_le a (sh b)
    rw [e, wrap_lt _ (by omega)]
theorem rceil_f (k a : Nat) (b : Int) (hk : 70 ≤ k) (ha : a < 18446744073709551616) : complineref01_Ceil.f k a b = some (ce a b) := by
  unfold complineref01_Ceil.f ce
  rw [rfloor_f k a b hk ha, Option.bind_some]
  by_cases h : fl a (sh b) = a
  · rw [if_pos (by omega), if_pos h]
  rw [if_neg (by omega), if_neg h, power_f k b hk, Option.bind_some]
  have hle := fl_le a (sh b)
  by_cases h63 : 63 < b
  · simp -implicitDefEqProofs only [if_pos h63, Bool.false_eq_true, if_false]
  simp -implicitDefEqProofs only [if_neg h63, if_true]
  have hp := pw_pos (sh b)
  rw [wrap_in _ (by omega) (by omega)]
  by_cases h1 : 18446744073709551615 < fl a (sh b) + 2 ^ sh b
  · rw [if_pos (by omega), if_pos h1]
  · rw [if_neg (by omega), if_neg h1, wrap_in _ (by omega) (by omega)]; simp
theorem TickSteps : complinelaw01_TickSteps.Pure := by
  intro a0 b w0 w1
  obtain ⟨a, rfl, ha⟩ := u64_nat w0
  have hb := i64_in w1
  refine ⟨80, ?_⟩
  simp -implicitDefEqProofs only [complinelaw01_TickSteps.f, works_f 80 (by omega), ceil_f a b ha hb.2, rceil_f 80 a b (by omega) ha, floor_f a b ha hb.2, rfloor_f 80 a b (by omega) ha, Option.bind_some, if_true, beq_self_eq_true]

end Go.Proofs.Ytfeehajeegeacaa.Pure
