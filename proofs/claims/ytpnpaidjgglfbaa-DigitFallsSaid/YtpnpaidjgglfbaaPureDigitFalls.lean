/-
  From where its slot begins a tick is at a lower level, so that four steps reach it.
  No condition: every base, every tick, every number of bits.
-/
import Derived.Test.YtpnpaidjgglfbaaOwnFalls
import Derived.Test.YtpnpaidjgglfbaaDigMath
namespace Go.Proofs.Ytpnpaidjgglfbaa.Pure
open Go.RowKit Go.Proofs.Ytpnpaidjgglfbaa.PDigitFalls Go.Proofs.YtpnpaidjgglfbaaW.PrintWords Go.Proofs.YtpnpaidjgglfbaaW.PrintLast Go.Proofs.YtpnpaidjgglfbaaW.PrintMore Go.Proofs.Ytpnpaidjgglfbaa.DigMath

theorem u64_nat {a : Int} (h : (Lit.int .u64 a).wf = true) : ∃ n : Nat, a = n ∧ n < 18446744073709551616 := by
  simp -implicitDefEqProofs only [Lit.wf, IntKind.min, IntKind.max, IntKind.signed, IntKind.bits, Bool.and_eq_true] at h
  exact ⟨a.toNat, by simp at h; omega, by simp at h; omega⟩

theorem of_f (bits : Int) : digit_of.f bits = some (wid bits : Int) := by
  have := wid_le bits
  simp -implicitDefEqProofs only [digit_of.f, digit_within_int.f, Option.bind_some]
  rw [wid_mn, wrap_lt _ (by omega)]
theorem shift_f (w l : Nat) (hw : w ≤ 6) (hl : l ≤ 4) : digit_wheel_shift.f (w : Int) (l : Int) = some ((w * l : Nat) : Int) := by
  have h : w * l ≤ 6 * 4 := Nat.mul_le_mul hw hl
  have e : (w : Int) * (l : Int) = ((w * l : Nat) : Int) := by simp
  simp -implicitDefEqProofs only [digit_wheel_shift.f]
  rw [wrap_lt l (by omega), e, wrap_lt _ (by omega)]
theorem mask_f (w : Nat) (hw : w ≤ 6) : digit_wheel_mask.f (w : Int) = some ((2 ^ w - 1 : Nat) : Int) := by
  have h1 : 2 ^ w ≤ 2 ^ 6 := Nat.pow_le_pow_right (by decide) hw
  have hp := pw_pos w
  simp -implicitDefEqProofs only [digit_wheel_mask.f]
  have e := shl_nat 1 w (by omega) (by omega)
  rw [if_pos (by omega), show (1 : Int) = ((1 : Nat) : Int) from rfl, e]
  have e2 : ((1 * 2 ^ w : Nat) : Int) - ((1 : Nat) : Int) = ((2 ^ w - 1 : Nat) : Int) := by omega
  rw [e2, wrap_lt _ (by omega)]
theorem level_step (j b a w l : Nat) (hb : b < 18446744073709551616) (ha : a < 18446744073709551616) (hw : w ≤ 6) (hl : l < 4) :
    digit_Level.l0 (j + 1) b a w l = if a / 2 ^ (w * (l + 1)) = b / 2 ^ (w * (l + 1)) then some (l : Int) else digit_Level.l0 j b a w ((l + 1 : Nat) : Int) := by
  have h : w * (l + 1) ≤ 6 * 4 := Nat.mul_le_mul hw (by omega)
  simp -implicitDefEqProofs only [digit_Level.l0]
  have e : (l : Int) + 1 = ((l + 1 : Nat) : Int) := by simp
  rw [if_pos (by omega), e, wrap64_nat _ (by omega), shift_f w (l + 1) hw (by omega)]
  simp -implicitDefEqProofs only [Option.bind_some]
  rw [if_pos (by omega), (bitsU b a hb ha).2.2, shr_nat _ _ (by omega)]
  by_cases hx : a / 2 ^ (w * (l + 1)) = b / 2 ^ (w * (l + 1))
  · rw [if_pos hx, if_pos (by have := (xor_div b a (w * (l + 1))).2 hx.symm; omega)]
  · rw [if_neg hx, if_neg (fun h0 => hx ((xor_div b a (w * (l + 1))).1 (by omega)).symm)]
theorem level_f (k b a : Nat) (bits : Int) (hk : 6 ≤ k) (hb : b < 18446744073709551616) (ha : a < 18446744073709551616) :
    digit_Level.f k b a bits = some (lv (wid bits) b a) := by
  obtain ⟨j, rfl⟩ : ∃ m, k = m + 1 + 1 + 1 + 1 + 1 := ⟨k - 5, by omega⟩
  have hw := (wid_le bits).2
  simp -implicitDefEqProofs only [digit_Level.f]
  by_cases h : a ≤ b
  · rw [if_pos (by omega), lv_neg h]
  rw [if_neg (by omega), of_f]
  simp -implicitDefEqProofs only [Option.bind_some]
  have z : (0 : Int) = ((0 : Nat) : Int) := rfl
  rw [z, level_step _ b a _ 0 hb ha hw (by omega), level_step _ b a _ (0 + 1) hb ha hw (by omega), level_step _ b a _ (0 + 1 + 1) hb ha hw (by omega), level_step _ b a _ (0 + 1 + 1 + 1) hb ha hw (by omega)]
  have last : digit_Level.l0 (j + 1) b a (wid bits) ((0 + 1 + 1 + 1 + 1 : Nat) : Int) = some 4 := by
    simp -implicitDefEqProofs only [digit_Level.l0]; rw [if_neg (by omega)]
  rw [last]
  unfold lv
  rw [if_neg h]
  simp -implicitDefEqProofs only [Nat.zero_add, Nat.reduceAdd]
  repeat' split
  all_goals rfl
theorem within_f (x lo hi : Int) : digit_within_int.f x lo hi = some (mn (mx x lo) hi) := rfl
theorem digit_f (t : Nat) (level bits : Int) (ht : t < 18446744073709551616) :
    digit_Digit.f t level bits = some ((t / 2 ^ (wid bits * cl level) % 2 ^ wid bits : Nat) : Int) := by
  have hw := (wid_le bits).2
  have hl := cl_le level
  have h : wid bits * cl level ≤ 6 * 3 := Nat.mul_le_mul hw hl
  have hp := pw_pos (wid bits)
  have h1 : 2 ^ wid bits ≤ 2 ^ 6 := Nat.pow_le_pow_right (by decide) hw
  have hd : t / 2 ^ (wid bits * cl level) ≤ t := Nat.div_le_self _ _
  have hm := Nat.mod_lt (t / 2 ^ (wid bits * cl level)) hp
  simp -implicitDefEqProofs only [digit_Digit.f, of_f, within_f, Option.bind_some, cl_mn]
  rw [shift_f _ _ hw (by omega), mask_f _ hw]
  simp -implicitDefEqProofs only [Option.bind_some]
  rw [if_pos (by omega), shr_nat _ _ (by omega), (bitsU _ _ (by omega) (by omega)).1, Nat.and_two_pow_sub_one_eq_mod, wrap64_nat _ (by omega)]
theorem slot_f (k b a : Nat) (bits : Int) (hk : 6 ≤ k) (hb : b < 18446744073709551616) (ha : a < 18446744073709551616) :
    digit_Slot.f k b a bits = some (sl (wid bits) b a : Int) := by
  simp -implicitDefEqProofs only [digit_Slot.f, level_f k b a bits hk hb ha, Option.bind_some]
  unfold sl
  by_cases h0 : lv (wid bits) b a < 0
  · rw [if_pos h0, if_pos h0]; rfl
  rw [if_neg h0, if_neg h0]
  by_cases h4 : lv (wid bits) b a ≥ 4
  · rw [if_pos h4, if_pos h4]; rfl
  rw [if_neg h4, if_neg h4, digit_f a _ bits ha]
  have : cl (lv (wid bits) b a) = (lv (wid bits) b a).toNat := by unfold cl; (repeat' split) <;> omega
  rw [this]; rfl
theorem horizon_f (b : Nat) (bits : Int) (hb : b < 18446744073709551616) : digit_Horizon.f b bits = some (hz (wid bits) b : Int) := by
  have hw := (wid_le bits).2
  have h : wid bits * 4 ≤ 6 * 4 := Nat.mul_le_mul hw (by omega)
  have h1 := pw_le (wid bits) 4 hw (by omega)
  have hp := pw_pos (wid bits * 4)
  simp -implicitDefEqProofs only [digit_Horizon.f, of_f, Option.bind_some]
  rw [show (4 : Int) = ((4 : Nat) : Int) from rfl, shift_f _ 4 hw (by omega)]
  simp -implicitDefEqProofs only [Option.bind_some]
  rw [if_pos (by omega), show (1 : Int) = ((1 : Nat) : Int) from rfl, shl_nat 1 _ (by omega) (by omega)]
  have e2 : ((1 * 2 ^ (wid bits * 4) : Nat) : Int) - ((1 : Nat) : Int) = ((2 ^ (wid bits * 4) - 1 : Nat) : Int) := by omega
  rw [e2, wrap_lt _ (by omega), (bitsU _ _ hb (by omega)).2.1, or_ones]; rfl
theorem reach_f (level bits : Int) : digit_Reach.f level bits = some ((2 ^ (wid bits * cl level) : Nat) : Int) := by
  have hw := (wid_le bits).2
  have hl := cl_le level
  have h : wid bits * cl level ≤ 6 * 3 := Nat.mul_le_mul hw hl
  have h1 := pw_le (wid bits) (cl level) hw (by omega)
  simp -implicitDefEqProofs only [digit_Reach.f, of_f, within_f, Option.bind_some, cl_mn]
  rw [shift_f _ _ hw (by omega)]
  simp -implicitDefEqProofs only [Option.bind_some]
  rw [if_pos (by omega), show (1 : Int) = ((1 : Nat) : Int) from rfl, shl_nat 1 _ (by omega) (by omega), Nat.one_mul]
/-- A slot's number, held between. -/
def cs (w : Nat) (s : Int) : Nat := (mn (mx s 0) ((2 ^ w - 1 : Nat) : Int)).toNat
theorem cs_mn (w : Nat) (s : Int) : mn (mx s 0) ((2 ^ w - 1 : Nat) : Int) = (cs w s : Int) := by
  have := pw_pos w
  unfold cs; generalize 2 ^ w = p at *; unfold mn mx; (repeat' split) <;> omega
theorem cs_lt (w : Nat) (s : Int) : cs w s < 2 ^ w := by
  have := pw_pos w
  unfold cs; generalize 2 ^ w = p at *; unfold mn mx; (repeat' split) <;> omega
theorem cs_nat (w s : Nat) (h : s < 2 ^ w) : cs w (s : Int) = s := by
  unfold cs; generalize 2 ^ w = p at *; unfold mn mx; (repeat' split) <;> omega
theorem bg_lt (w b l s : Nat) (hs : s < 2 ^ w) : bg w b l s < b / 2 ^ (w * (l + 1)) * 2 ^ (w * (l + 1)) + 2 ^ (w * (l + 1)) := by
  have : (s + 1) * 2 ^ (w * l) ≤ 2 ^ w * 2 ^ (w * l) := Nat.mul_le_mul_right _ hs
  have hp := pw_pos (w * l)
  rw [Nat.mul_comm (2 ^ w), ← pw_succ, Nat.add_mul] at this
  unfold bg; omega
theorem begin_f (b : Nat) (level slot bits : Int) (hb : b < 18446744073709551616) :
    digit_Begin.f b level slot bits = some (bg (wid bits) b (cl level) (cs (wid bits) slot) : Int) := by
  have hw := (wid_le bits).2
  have hl := cl_le level
  have h : wid bits * cl level ≤ 6 * 3 := Nat.mul_le_mul hw hl
  have h' : wid bits * (cl level + 1) ≤ 6 * 4 := Nat.mul_le_mul hw (by omega)
  have h1 := pw_le (wid bits) (cl level) hw (by omega)
  have h2 := pw_le (wid bits) (cl level + 1) hw (by omega)
  have h6 : 2 ^ wid bits ≤ 2 ^ 6 := Nat.pow_le_pow_right (by decide) hw
  have hc := cs_lt (wid bits) slot
  have hp := pw_pos (wid bits)
  have hf := floor_le b (2 ^ (wid bits * (cl level + 1)))
  have hsl : cs (wid bits) slot * 2 ^ (wid bits * cl level) < 2 ^ (wid bits * (cl level + 1)) := by
    rw [pw_succ, Nat.mul_comm]; exact Nat.mul_lt_mul_of_pos_left hc (pw_pos _)
  simp -implicitDefEqProofs only [digit_Begin.f, of_f, within_f, Option.bind_some, cl_mn]
  rw [mask_f _ hw]
  simp -implicitDefEqProofs only [Option.bind_some]
  rw [wrap64_nat _ (by omega), cs_mn]
  have e : (cl level : Int) + 1 = ((cl level + 1 : Nat) : Int) := by simp
  rw [e, wrap64_nat _ (by omega), shift_f _ (cl level + 1) hw (by omega)]
  simp -implicitDefEqProofs only [Option.bind_some]
  rw [if_pos (by omega), if_pos (by omega), shift_f _ (cl level) hw (by omega)]
  simp -implicitDefEqProofs only [Option.bind_some]
  rw [if_pos (by omega), shr_nat _ _ (by omega), shl_nat _ _ (by omega) (by omega), wrap_lt _ (by omega), shl_nat _ _ (by omega) (by omega), (bitsU _ _ (by omega) (by omega)).2.1, or_join _ _ _ hsl]
  rfl
theorem works_f (k : Nat) (hk : 64 ≤ k) : complinelaw03_works.f k = some true := by
  have e1 : digit_Level.f k 0 5 6 = some 0 := (level_f k 0 5 6 (by omega) (by decide) (by decide)).trans (by decide +kernel)
  have e2 : digit_Level.f k 0 64 6 = some 1 := (level_f k 0 64 6 (by omega) (by decide) (by decide)).trans (by decide +kernel)
  have e3 : digit_Slot.f k 0 64 6 = some 1 := (slot_f k 0 64 6 (by omega) (by decide) (by decide)).trans (by decide +kernel)
  have e4 : digit_Level.f k 63 64 6 = some 1 := (level_f k 63 64 6 (by omega) (by decide) (by decide)).trans (by decide +kernel)
  have e5 : digit_Level.f k 0 16777216 6 = some 4 := (level_f k 0 16777216 6 (by omega) (by decide) (by decide)).trans (by decide +kernel)
  have e6 : digit_Level.f k 5 5 6 = some (-1) := (level_f k 5 5 6 (by omega) (by decide) (by decide)).trans (by decide +kernel)
  have e7 : digit_Begin.f 70 1 3 6 = some 192 := (begin_f 70 1 3 6 (by decide)).trans (by decide +kernel)
  have e8 : digit_Horizon.f 70 6 = some 16777215 := (horizon_f 70 6 (by decide)).trans (by decide +kernel)
  have e9 : digit_Reach.f 2 6 = some 4096 := (reach_f 2 6).trans (by decide +kernel)
  have e10 : digit_Digit.f 200 1 6 = some 3 := (digit_f 200 1 6 (by decide)).trans (by decide +kernel)
  simp -implicitDefEqProofs only [complinelaw03_works.f, e1, e2, e3, e4, e5, e6, e7, e8, e9, e10, Option.bind_some, if_true]
  rfl
theorem sl_lt (w b a : Nat) : sl w b a < 2 ^ w := by
  unfold sl; have := pw_pos w
  repeat' split
  · exact this
  · exact this
  · exact Nat.mod_lt _ this

theorem falls_loop (a : Nat) (bits : Int) (ha : a < 18446744073709551616) (d : Nat) : ∀ (k i b : Nat), b ≤ a → a ≤ hz (wid bits) b → b < 18446744073709551616 →
    i + d = 4 → lv (wid bits) b a < d → d + 20 ≤ k → complinelaw03_DigitFalls.l0 k a bits true b i = some true := by
  induction d with
  | zero =>
    intro k i b hba hz hb hi hlv hk
    obtain ⟨k, rfl⟩ : ∃ m, k = m + 1 := ⟨k - 1, by omega⟩
    simp -implicitDefEqProofs only [complinelaw03_DigitFalls.l0]
    rw [if_neg (by omega), if_pos trivial]
    by_cases h : a ≤ b
    · have : a = b := by omega
      subst this; simp
    · rcases lv_cases (wid bits) b a (by omega) with ⟨m, hm, e, _⟩ | ⟨e, _⟩ <;> omega
  | succ d ih =>
    intro k i b hba hz hb hi hlv hk
    obtain ⟨k, rfl⟩ : ∃ m, k = m + 1 := ⟨k - 1, by omega⟩
    simp -implicitDefEqProofs only [complinelaw03_DigitFalls.l0]
    rw [if_pos (by omega), level_f _ b a bits (by omega) hb ha]
    simp -implicitDefEqProofs only [Option.bind_some]
    by_cases h : a ≤ b
    · have : a = b := by omega
      subst this
      rw [lv_neg h, if_pos (by decide), if_pos trivial]; simp
    · rcases lv_cases (wid bits) b a (by omega) with ⟨l, hl, e, h1, h2⟩ | ⟨e, h2⟩
      · obtain ⟨g1, g2, g3⟩ := holds (w := wid bits) (b := b) (a := a) (l := l) (by omega) hl e
        have f1 := floor_le a (2 ^ (wid bits * l))
        have f3 := falls (w := wid bits) (a := a) (l := l) hl
        rw [e, if_neg (by omega), slot_f _ b a bits (by omega) hb ha]
        simp -implicitDefEqProofs only [Option.bind_some]
        rw [begin_f b l _ bits hb]
        simp -implicitDefEqProofs only [Option.bind_some]
        rw [cl_nat l hl, cs_nat _ _ (sl_lt _ _ _), g1, if_neg (by omega), if_neg (by omega), level_f _ _ a bits (by omega) (by omega) ha]
        simp -implicitDefEqProofs only [Option.bind_some]
        rw [if_neg (by omega), show (i : Int) + 1 = ((i + 1 : Nat) : Int) by simp, wrap64_nat _ (by omega)]
        refine ih k (i + 1) _ f1 ?_ (by omega) (by omega) (by omega) (by omega)
        refine le_hz ?_
        have q : a / 2 ^ (wid bits * l) = a / 2 ^ (wid bits * l) * 2 ^ (wid bits * l) / 2 ^ (wid bits * l) := (floor_div _ _ (pw_pos _)).symm
        exact eq_up (l := l) (m := 4) (by omega) q
      · have := hz_lt h2
        omega

theorem DigitFalls : complinelaw03_DigitFalls.Pure := by
  intro a0 a1 a2 w0 w1 _
  obtain ⟨b, rfl, hb⟩ := u64_nat w0
  obtain ⟨a, rfl, ha⟩ := u64_nat w1
  refine ⟨99 + 1, ?_⟩
  simp -implicitDefEqProofs only [complinelaw03_DigitFalls.f, works_f (99 + 1) (by omega), Option.bind_some, if_true]
  by_cases h : a ≤ b
  · rw [if_pos (by omega)]; simp -implicitDefEqProofs only [complinelaw03_DigitFalls.j0, if_true]
  rw [if_neg (by omega), horizon_f b a2 hb]
  simp -implicitDefEqProofs only [Option.bind_some]
  by_cases hh : a ≤ hz (wid a2) b
  · rw [decide_eq_false (by omega)]
    simp -implicitDefEqProofs only [complinelaw03_DigitFalls.j0, Bool.false_eq_true, if_false]
    have hlv : lv (wid a2) b a < 4 := by
      rcases lv_cases (wid a2) b a (by omega) with ⟨l, hl, e, h1, h2⟩ | ⟨e, h2⟩
      · omega
      · have := hz_lt h2; omega
    exact falls_loop a a2 ha 4 _ 0 b (by omega) hh hb (by omega) hlv (by omega)
  · rw [decide_eq_true (by omega)]
    simp -implicitDefEqProofs only [complinelaw03_DigitFalls.j0, if_true]

end Go.Proofs.Ytpnpaidjgglfbaa.Pure
