/-
  Plain numbers behind ticks: multiples of a power of two about a number, over naturals. No condition.
-/
import Derived.Test.YtfeehajeegeacaaWMore
import Derived.Laws.BitsLemmas
namespace Go.Proofs.Ytfeehajeegeacaa.TickMath
open Go.Proofs.YtfeehajeegeacaaW.PrintWords Go.Proofs.YtfeehajeegeacaaW.PrintMore Go.RowKit

theorem wrap_u64 (n : Int) : IntKind.u64.wrap n = n % 18446744073709551616 := by simp [IntKind.wrap, IntKind.bits, IntKind.signed]
theorem wrap_in (n : Int) (h0 : 0 ≤ n) (h : n < 18446744073709551616) : IntKind.u64.wrap n = n := by rw [wrap_u64]; omega
theorem wrap_lt (n : Nat) (h : n < 18446744073709551616) : IntKind.u64.wrap (n : Int) = (n : Int) := by rw [wrap_u64]; omega
theorem wrap64_in (n : Int) (h0 : -9223372036854775808 ≤ n) (h : n < 9223372036854775808) : wrap64 n = n := by unfold wrap64; omega
theorem shr_min (x s : Nat) : shr .u64 (x : Int) (s : Int) = ((x / 2 ^ min s 64 : Nat) : Int) := by
  unfold shr
  have h1 : min ((s : Int).toNat) (IntKind.bits .u64) = min s 64 := by simp [IntKind.bits]
  rw [h1]; simp
theorem shl_min (x s : Nat) (h : x * 2 ^ min s 64 < 18446744073709551616) : shl .u64 (x : Int) (s : Int) = ((x * 2 ^ min s 64 : Nat) : Int) := by
  unfold shl
  have h1 : min ((s : Int).toNat) (IntKind.bits .u64) = min s 64 := by simp [IntKind.bits]
  rw [h1]
  have h2 : (x : Int) * 2 ^ min s 64 = ((x * 2 ^ min s 64 : Nat) : Int) := by simp
  rw [h2]; exact wrap_lt _ h
/-- The multiple of 2^n that is no more. -/
def fl (a n : Nat) : Nat := a / 2 ^ n * 2 ^ n
/-- By how many bits. -/
def sh (b : Int) : Nat := min b.toNat 64
theorem fl_le (a n : Nat) : fl a n ≤ a := Nat.div_mul_le_self _ _
theorem pw_pos (n : Nat) : 0 < 2 ^ n := Nat.two_pow_pos n
theorem fl_gt (a n : Nat) : a < fl a n + 2 ^ n := by
  have h1 := Nat.div_add_mod a (2 ^ n)
  have h2 := Nat.mod_lt a (pw_pos n)
  unfold fl; rw [Nat.mul_comm]; omega
theorem fl_mul (q n : Nat) : fl (q * 2 ^ n) n = q * 2 ^ n := by unfold fl; rw [Nat.mul_div_cancel _ (pw_pos n)]
theorem fl_fl (a n : Nat) : fl (fl a n) n = fl a n := fl_mul _ _
theorem fl_zero (a : Nat) : fl a 0 = a := by unfold fl; simp
theorem fl_top (a : Nat) (h : a < 18446744073709551616) : fl a 64 = 0 := by unfold fl; rw [Nat.div_eq_of_lt (by simpa using h), Nat.zero_mul]
theorem fl_next (a n : Nat) : fl (fl a n + 2 ^ n) n = fl a n + 2 ^ n := by
  have : fl a n + 2 ^ n = (a / 2 ^ n + 1) * 2 ^ n := by unfold fl; rw [Nat.add_mul, Nat.one_mul]
  rw [this]; exact fl_mul _ _
theorem fl_below (a n : Nat) : fl (fl a n + 2 ^ n - 1) n = fl a n := by
  have hp := pw_pos n
  have h1 : fl a n + 2 ^ n - 1 = (2 ^ n - 1) + 2 ^ n * (a / 2 ^ n) := by unfold fl; rw [Nat.mul_comm]; omega
  have h2 : (fl a n + 2 ^ n - 1) / 2 ^ n = a / 2 ^ n := by rw [h1, Nat.add_mul_div_left _ _ hp, Nat.div_eq_of_lt (by omega), Nat.zero_add]
  unfold fl at h2 ⊢; rw [h2]
theorem fl_mod (a n : Nat) : a - a % 2 ^ n = fl a n := by
  have := Nat.div_add_mod a (2 ^ n)
  unfold fl; rw [Nat.mul_comm]; omega
theorem sh_le (b : Int) : sh b ≤ 64 := by unfold sh; omega
theorem sh_low (b : Int) (h : b ≤ 0) : sh b = 0 := by unfold sh; omega
theorem sh_mid (b : Int) (h : ¬ 63 < b) : sh b = b.toNat := by unfold sh; omega
theorem sh_top (b : Int) (h : 63 < b) : sh b = 64 := by unfold sh; omega
theorem pw_le63 (n : Nat) (h : n ≤ 63) : 2 ^ n ≤ 9223372036854775808 := Nat.le_trans (Nat.pow_le_pow_right (by decide) h) (by decide)
/-- The multiple that is no less, and whether it is more than never. -/
def ce (a : Nat) (b : Int) : Int × Bool :=
  if fl a (sh b) = a then ((a : Int), false) else if 63 < b then (18446744073709551615, true)
  else if 18446744073709551615 < fl a (sh b) + 2 ^ sh b then (18446744073709551615, true) else (((fl a (sh b) + 2 ^ sh b : Nat) : Int), false)
theorem u64_nat {a : Int} (h : (Lit.int .u64 a).wf = true) : ∃ n : Nat, a = n ∧ n < 18446744073709551616 := by
  simp only [Lit.wf, IntKind.min, IntKind.max, IntKind.signed, IntKind.bits, Bool.and_eq_true] at h
  exact ⟨a.toNat, by simp at h; omega, by simp at h; omega⟩
theorem i64_in {a : Int} (h : (Lit.int .i64 a).wf = true) : -9223372036854775808 ≤ a ∧ a < 9223372036854775808 := by
  simp only [Lit.wf, IntKind.min, IntKind.max, IntKind.signed, IntKind.bits, Bool.and_eq_true] at h
  exact ⟨by simp at h; omega, by simp at h; omega⟩
/-- A sum, and whether it is more than never. -/
def su (a b : Nat) : Int × Bool := if 18446744073709551615 < a + b then (18446744073709551615, true) else (((a + b : Nat) : Int), false)
theorem tdiv_nat (a p : Nat) : Int.tdiv (a : Int) (p : Int) = ((a / p : Nat) : Int) := rfl
theorem tmod_nat (a p : Nat) : Int.tmod (a : Int) (p : Int) = ((a % p : Nat) : Int) := rfl
end Go.Proofs.Ytfeehajeegeacaa.TickMath
