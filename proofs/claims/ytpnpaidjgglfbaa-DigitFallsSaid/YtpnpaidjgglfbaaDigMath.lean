/-
  Plain numbers behind the wheel's digits: where a tick lies among four levels, over naturals, and the laws of it. No condition.
-/
import Derived.Test.YtpnpaidjgglfbaaWMore
import Derived.Laws.BitsLemmas
namespace Go.Proofs.Ytpnpaidjgglfbaa.DigMath
open Go.Proofs.YtpnpaidjgglfbaaW.PrintWords Go.Proofs.YtpnpaidjgglfbaaW.PrintMore Go.RowKit

theorem wrap_u64 (n : Int) : IntKind.u64.wrap n = n % 18446744073709551616 := by simp [IntKind.wrap, IntKind.bits, IntKind.signed]
theorem wrap_lt (n : Nat) (h : n < 18446744073709551616) : IntKind.u64.wrap (n : Int) = (n : Int) := by rw [wrap_u64]; omega
theorem wrap64_nat (n : Nat) (h : n < 9223372036854775808) : wrap64 (n : Int) = (n : Int) := by unfold wrap64; omega
theorem shr_nat (x s : Nat) (hs : s ≤ 64) : shr .u64 (x : Int) (s : Int) = ((x / 2 ^ s : Nat) : Int) := by
  unfold shr
  have h1 : min ((s : Int).toNat) (IntKind.bits .u64) = s := by simp [IntKind.bits]; omega
  rw [h1]; simp
theorem shl_nat (x s : Nat) (hs : s ≤ 64) (h : x * 2 ^ s < 18446744073709551616) : shl .u64 (x : Int) (s : Int) = ((x * 2 ^ s : Nat) : Int) := by
  unfold shl
  have h1 : min ((s : Int).toNat) (IntKind.bits .u64) = s := by simp [IntKind.bits]; omega
  rw [h1]
  have h2 : (x : Int) * 2 ^ s = ((x * 2 ^ s : Nat) : Int) := by simp
  rw [h2]; exact wrap_lt _ h
theorem wraps_u64 (n : Int) (h0 : 0 ≤ n) (h1 : n < 2 ^ 64) : IntKind.u64.wrap n = n := by rw [wrap_u64]; omega
theorem bits_xor_nat (k : IntKind) (j : Nat) (hj : j ≤ k.bits) (hk : ∀ n : Int, 0 ≤ n → n < 2 ^ j → k.wrap n = n) (a b : Nat) (ha : a < 2 ^ j) (hb : b < 2 ^ j) :
    bits .xor k a b = ((a ^^^ b : Nat) : Int) := by
  have hp : 2 ^ j ≤ 2 ^ k.bits := Nat.pow_le_pow_right (by decide) hj
  have ha' : a % 2 ^ k.bits = a := Nat.mod_eq_of_lt (Nat.lt_of_lt_of_le ha hp)
  have hb' : b % 2 ^ k.bits = b := Nat.mod_eq_of_lt (Nat.lt_of_lt_of_le hb hp)
  have cast : ∀ n : Nat, n < 2 ^ j → ((n : Nat) : Int) < 2 ^ j := fun n h => by exact_mod_cast h
  simp only [bits, BitVec.ofInt_natCast, BitVec.toNat_xor, BitVec.toNat_ofNat, ha', hb']
  exact hk _ (Int.natCast_nonneg _) (cast _ (Nat.xor_lt_two_pow ha hb))
theorem bitsU (a b : Nat) (ha : a < 18446744073709551616) (hb : b < 18446744073709551616) :
    bits .and .u64 a b = ((a &&& b : Nat) : Int) ∧ bits .or .u64 a b = ((a ||| b : Nat) : Int) ∧ bits .xor .u64 a b = ((a ^^^ b : Nat) : Int) :=
  ⟨(bits_nat .u64 64 (by decide) wraps_u64 a b ha hb).1, (bits_nat .u64 64 (by decide) wraps_u64 a b ha hb).2, bits_xor_nat .u64 64 (by decide) wraps_u64 a b ha hb⟩
theorem xor_zero (a b : Nat) : a ^^^ b = 0 ↔ a = b := by
  constructor
  · intro h
    have h2 : a ^^^ (a ^^^ b) = a := by rw [h]; simp
    rw [← Nat.xor_assoc, Nat.xor_self, Nat.zero_xor] at h2
    exact h2.symm
  · rintro rfl; exact Nat.xor_self _
theorem xor_div (a b s : Nat) : (a ^^^ b) / 2 ^ s = 0 ↔ a / 2 ^ s = b / 2 ^ s := by
  rw [← Nat.shiftRight_eq_div_pow, Nat.shiftRight_xor_distrib, xor_zero, Nat.shiftRight_eq_div_pow, Nat.shiftRight_eq_div_pow]
theorem or_join (x y s : Nat) (hy : y < 2 ^ s) : (x * 2 ^ s) ||| y = x * 2 ^ s + y := by
  rw [Nat.mul_comm]; exact (Nat.two_pow_add_eq_or_of_lt hy x).symm
theorem or_mask (r s : Nat) (hr : r < 2 ^ s) : r ||| (2 ^ s - 1) = 2 ^ s - 1 := by
  apply Nat.eq_of_testBit_eq
  intro i
  rw [Nat.testBit_or, Nat.testBit_two_pow_sub_one]
  by_cases h : i < s
  · simp [h]
  · have : r.testBit i = false := Nat.testBit_lt_two_pow (Nat.lt_of_lt_of_le hr (Nat.pow_le_pow_right (by decide) (by omega)))
    simp [h, this]
theorem or_ones (x s : Nat) : x ||| (2 ^ s - 1) = x / 2 ^ s * 2 ^ s + (2 ^ s - 1) := by
  have hpos : 0 < 2 ^ s := Nat.two_pow_pos s
  have h1 : x = x / 2 ^ s * 2 ^ s ||| x % 2 ^ s := by
    rw [or_join _ _ _ (Nat.mod_lt _ hpos), Nat.mul_comm]; exact (Nat.div_add_mod x (2 ^ s)).symm
  have h2 : x ||| (2 ^ s - 1) = x / 2 ^ s * 2 ^ s ||| (x % 2 ^ s ||| (2 ^ s - 1)) := by
    rw [← Nat.or_assoc, ← h1]
  rw [h2, or_mask _ _ (Nat.mod_lt _ hpos), or_join _ _ _ (by omega)]

/-- The width of a digit. -/
def wid (bits : Int) : Nat := (if bits < 1 then 1 else if 6 < bits then 6 else bits).toNat
theorem wid_le (b : Int) : 1 ≤ wid b ∧ wid b ≤ 6 := by unfold wid; (repeat' split) <;> omega
theorem wid_mn (b : Int) : mn (mx b 1) 6 = (wid b : Int) := by unfold wid mn mx; (repeat' split) <;> omega
/-- The level. -/
def cl (level : Int) : Nat := (if level < 0 then 0 else if 3 < level then 3 else level).toNat
theorem cl_le (b : Int) : cl b ≤ 3 := by unfold cl; (repeat' split) <;> omega
theorem cl_mn (b : Int) : mn (mx b 0) 3 = (cl b : Int) := by unfold cl mn mx; (repeat' split) <;> omega
theorem cl_nat (l : Nat) (h : l ≤ 3) : cl (l : Int) = l := by unfold cl; (repeat' split) <;> omega

theorem pw_le (w l : Nat) (hw : w ≤ 6) (hl : l ≤ 4) : 2 ^ (w * l) ≤ 16777216 := by
  have h : w * l ≤ 6 * 4 := Nat.mul_le_mul hw hl
  exact Nat.le_trans (Nat.pow_le_pow_right (by decide) h) (by decide)
theorem pw_pos (n : Nat) : 0 < 2 ^ n := Nat.two_pow_pos n
theorem pw_succ (w l : Nat) : 2 ^ (w * (l + 1)) = 2 ^ (w * l) * 2 ^ w := by rw [Nat.mul_succ, Nat.pow_add]

/-- At which level. -/
def lv (w b a : Nat) : Int :=
  if a ≤ b then -1 else if a / 2 ^ (w * 1) = b / 2 ^ (w * 1) then 0 else if a / 2 ^ (w * 2) = b / 2 ^ (w * 2) then 1
  else if a / 2 ^ (w * 3) = b / 2 ^ (w * 3) then 2 else if a / 2 ^ (w * 4) = b / 2 ^ (w * 4) then 3 else 4
/-- In which slot. -/
def sl (w b a : Nat) : Nat := if lv w b a < 0 then 0 else if lv w b a ≥ 4 then 0 else a / 2 ^ (w * (lv w b a).toNat) % 2 ^ w
/-- Where a slot begins. -/
def bg (w b l s : Nat) : Nat := b / 2 ^ (w * (l + 1)) * 2 ^ (w * (l + 1)) + s * 2 ^ (w * l)
/-- The last one seen. -/
def hz (w b : Nat) : Nat := b / 2 ^ (w * 4) * 2 ^ (w * 4) + (2 ^ (w * 4) - 1)

theorem lv_neg {w b a : Nat} (h : a ≤ b) : lv w b a = -1 := by unfold lv; rw [if_pos h]
/-- What a level says. -/
theorem lv_cases (w b a : Nat) (h : b < a) :
    (∃ l : Nat, l ≤ 3 ∧ lv w b a = l ∧ a / 2 ^ (w * (l + 1)) = b / 2 ^ (w * (l + 1)) ∧ b / 2 ^ (w * l) < a / 2 ^ (w * l)) ∨
    (lv w b a = 4 ∧ b / 2 ^ (w * 4) < a / 2 ^ (w * 4)) := by
  have lt : ∀ l, a / 2 ^ (w * l) ≠ b / 2 ^ (w * l) → b / 2 ^ (w * l) < a / 2 ^ (w * l) := fun l hne =>
    Nat.lt_of_le_of_ne (Nat.div_le_div_right (Nat.le_of_lt h)) (Ne.symm hne)
  unfold lv
  rw [if_neg (by omega)]
  by_cases h1 : a / 2 ^ (w * 1) = b / 2 ^ (w * 1)
  · rw [if_pos h1]; exact .inl ⟨0, by omega, rfl, h1, by simpa using h⟩
  rw [if_neg h1]
  by_cases h2 : a / 2 ^ (w * 2) = b / 2 ^ (w * 2)
  · rw [if_pos h2]; exact .inl ⟨1, by omega, rfl, h2, lt _ h1⟩
  rw [if_neg h2]
  by_cases h3 : a / 2 ^ (w * 3) = b / 2 ^ (w * 3)
  · rw [if_pos h3]; exact .inl ⟨2, by omega, rfl, h3, lt _ h2⟩
  rw [if_neg h3]
  by_cases h4 : a / 2 ^ (w * 4) = b / 2 ^ (w * 4)
  · rw [if_pos h4]; exact .inl ⟨3, by omega, rfl, h4, lt _ h3⟩
  rw [if_neg h4]; exact .inr ⟨rfl, lt _ h4⟩
theorem div_up (x y p q : Nat) (h : x / p = y / p) : x / (p * q) = y / (p * q) := by rw [← Nat.div_div_eq_div_mul, ← Nat.div_div_eq_div_mul, h]
theorem eq_up {w a b l m : Nat} (hlm : l ≤ m) (h : a / 2 ^ (w * l) = b / 2 ^ (w * l)) : a / 2 ^ (w * m) = b / 2 ^ (w * m) := by
  obtain ⟨d, rfl⟩ := Nat.le.dest hlm
  rw [Nat.mul_add, Nat.pow_add]; exact div_up _ _ _ _ h
/-- A level is at most l just where the digits above it are alike. -/
theorem lv_le {w b a l : Nat} (h : b < a) (hl : l ≤ 3) (he : a / 2 ^ (w * (l + 1)) = b / 2 ^ (w * (l + 1))) : lv w b a ≤ l := by
  rcases lv_cases w b a h with ⟨m, hm, e, h1, h2⟩ | ⟨e, h2⟩
  · rw [e]
    by_cases hlm : m ≤ l
    · omega
    · have := eq_up (m := m) (by omega) he
      omega
  · have := eq_up (m := 4) (by omega) he
    omega
/-- A tick's slot begins at the tick, its lower digits struck. -/
theorem bg_sl {w b a l : Nat} (h1 : a / 2 ^ (w * (l + 1)) = b / 2 ^ (w * (l + 1))) : bg w b l (a / 2 ^ (w * l) % 2 ^ w) = a / 2 ^ (w * l) * 2 ^ (w * l) := by
  unfold bg
  rw [← h1, pw_succ, ← Nat.div_div_eq_div_mul]
  generalize a / 2 ^ (w * l) = x
  generalize 2 ^ (w * l) = p
  have : x = x / 2 ^ w * 2 ^ w + x % 2 ^ w := by rw [Nat.mul_comm]; exact (Nat.div_add_mod _ _).symm
  calc x / 2 ^ w * (p * 2 ^ w) + x % 2 ^ w * p = (x / 2 ^ w * 2 ^ w + x % 2 ^ w) * p := by rw [Nat.add_mul, Nat.mul_assoc, Nat.mul_comm p]
    _ = x * p := by rw [← this]
theorem sl_of {w b a l : Nat} (hl : l ≤ 3) (e : lv w b a = l) : sl w b a = a / 2 ^ (w * l) % 2 ^ w := by
  unfold sl; rw [e, if_neg (by omega), if_neg (by omega)]; rfl
theorem floor_le (a p : Nat) : a / p * p ≤ a := Nat.div_mul_le_self _ _
theorem floor_gt (a p : Nat) (hp : 0 < p) : a < a / p * p + p := by
  have := Nat.div_add_mod a p
  have := Nat.mod_lt a hp
  rw [Nat.mul_comm]; omega
theorem floor_div (a p : Nat) (hp : 0 < p) : a / p * p / p = a / p := Nat.mul_div_cancel _ hp
theorem lt_floor {b a p : Nat} (hp : 0 < p) (h : b / p < a / p) : b < a / p * p := by
  have := floor_gt b p hp
  have h2 : (b / p + 1) * p ≤ a / p * p := Nat.mul_le_mul_right p h
  rw [Nat.add_mul] at h2; omega
/-- Beyond the last one seen. -/
theorem hz_lt {w b a : Nat} (h : b / 2 ^ (w * 4) < a / 2 ^ (w * 4)) : hz w b < a := by
  have := pw_pos (w * 4)
  have h1 := floor_le a (2 ^ (w * 4))
  have h2 : (b / 2 ^ (w * 4) + 1) * 2 ^ (w * 4) ≤ a / 2 ^ (w * 4) * 2 ^ (w * 4) := Nat.mul_le_mul_right _ h
  rw [Nat.add_mul] at h2
  unfold hz; omega
theorem le_hz {w b a : Nat} (h : a / 2 ^ (w * 4) = b / 2 ^ (w * 4)) : a ≤ hz w b := by
  have := pw_pos (w * 4)
  have := floor_gt a _ this
  unfold hz; rw [← h]; omega
/-- A level below the fourth: where the slot begins, and what lies there. -/
theorem holds {w b a l : Nat} (h : b < a) (hl : l ≤ 3) (e : lv w b a = l) :
    bg w b l (sl w b a) = a / 2 ^ (w * l) * 2 ^ (w * l) ∧ b < a / 2 ^ (w * l) * 2 ^ (w * l) ∧ a ≤ hz w b := by
  rcases lv_cases w b a h with ⟨m, hm, e', h1, h2⟩ | ⟨e', h2⟩
  · obtain rfl : m = l := by omega
    exact ⟨by rw [sl_of hl e, bg_sl h1], lt_floor (pw_pos _) h2, le_hz (eq_up (by omega) h1)⟩
  · omega
theorem falls {w a l : Nat} (hl : l ≤ 3) : lv w (a / 2 ^ (w * l) * 2 ^ (w * l)) a < l := by
  by_cases hle : a ≤ a / 2 ^ (w * l) * 2 ^ (w * l)
  · rw [lv_neg hle]; omega
  · by_cases h0 : l = 0
    · subst h0; simp at hle
    · have := lv_le (w := w) (b := a / 2 ^ (w * l) * 2 ^ (w * l)) (a := a) (l := l - 1) (by omega) (by omega) (by
        rw [show l - 1 + 1 = l by omega, floor_div _ _ (pw_pos _)])
      omega
theorem rises {w b a c : Nat} (h : a ≤ c) : lv w b a < lv w b c ∨ (lv w b a = lv w b c ∧ sl w b a ≤ sl w b c) := by
  by_cases ha : a ≤ b
  · by_cases hc : c ≤ b
    · right; rw [lv_neg ha, lv_neg hc]; exact ⟨rfl, by unfold sl; rw [lv_neg ha, if_pos (by decide)]; omega⟩
    · left; rw [lv_neg ha]
      rcases lv_cases w b c (by omega) with ⟨m, _, e, _⟩ | ⟨e, _⟩ <;> omega
  · rcases lv_cases w b c (by omega) with ⟨m, hm, e, h1, h2⟩ | ⟨e, h2⟩
    · have hmid : a / 2 ^ (w * (m + 1)) = b / 2 ^ (w * (m + 1)) := by
        have g1 : a / 2 ^ (w * (m + 1)) ≤ c / 2 ^ (w * (m + 1)) := Nat.div_le_div_right h
        have g2 : b / 2 ^ (w * (m + 1)) ≤ a / 2 ^ (w * (m + 1)) := Nat.div_le_div_right (by omega)
        omega
      have hle := lv_le (w := w) (b := b) (a := a) (l := m) (by omega) hm hmid
      by_cases he : lv w b a = m
      · right
        refine ⟨by omega, ?_⟩
        rw [sl_of hm he, sl_of hm e]
        have g1 : a / 2 ^ (w * m) ≤ c / 2 ^ (w * m) := Nat.div_le_div_right h
        have g3 : a / 2 ^ (w * m) / 2 ^ w = c / 2 ^ (w * m) / 2 ^ w := by
          rw [Nat.div_div_eq_div_mul, Nat.div_div_eq_div_mul, ← pw_succ, hmid, h1]
        have d1 := Nat.div_add_mod (a / 2 ^ (w * m)) (2 ^ w)
        have d2 := Nat.div_add_mod (c / 2 ^ (w * m)) (2 ^ w)
        rw [g3] at d1
        omega
      · left; omega
    · rcases lv_cases w b a (by omega) with ⟨m, hm, e', _⟩ | ⟨e', _⟩
      · left; omega
      · right; refine ⟨by omega, ?_⟩
        unfold sl; rw [e', e]; simp
theorem later {w b c a : Nat} (h : b ≤ c) : lv w c a ≤ lv w b a ∧ (a ≤ c ↔ lv w c a = -1) := by
  by_cases hc : a ≤ c
  · refine ⟨?_, by simp [lv_neg hc, hc]⟩
    rw [lv_neg hc]
    by_cases hb : a ≤ b
    · rw [lv_neg hb]; omega
    · rcases lv_cases w b a (by omega) with ⟨m, hm, e', _⟩ | ⟨e', _⟩ <;> omega
  · refine ⟨?_, ?_⟩
    · rcases lv_cases w b a (by omega) with ⟨m, hm, e, h1, h2⟩ | ⟨e, h2⟩
      · rw [e]
        refine lv_le (by omega) hm ?_
        have g1 : c / 2 ^ (w * (m + 1)) ≤ a / 2 ^ (w * (m + 1)) := Nat.div_le_div_right (by omega)
        have g2 : b / 2 ^ (w * (m + 1)) ≤ c / 2 ^ (w * (m + 1)) := Nat.div_le_div_right h
        omega
      · rw [e]
        rcases lv_cases w c a (by omega) with ⟨m, hm, e', _⟩ | ⟨e', _⟩ <;> omega
    · constructor
      · intro h'; exact absurd h' hc
      · intro h'
        rcases lv_cases w c a (by omega) with ⟨m, hm, e', _⟩ | ⟨e', _⟩ <;> omega
end Go.Proofs.Ytpnpaidjgglfbaa.DigMath
