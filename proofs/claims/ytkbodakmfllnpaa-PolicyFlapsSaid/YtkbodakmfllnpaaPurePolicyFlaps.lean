/-
  If two kinds are wanted in turn, and one of them is there, nothing is taken, if Calm is 2 or more.
  No condition.
-/
import Derived.Test.YtkbodakmfllnpaaGPolicyFlapsx4
namespace Go.Proofs.Ytkbodakmfllnpaa.Pure
open Go.RowKit Go.Proofs.Ytkbodakmfllnpaa.GPolicyFlaps Go.Proofs.YtkbodakmfllnpaaW.PrintWords Go.Proofs.YtkbodakmfllnpaaW.PrintLast Go.Proofs.YtkbodakmfllnpaaW.PrintMore

structure S23 where
  f0 : Bool
  f1 : Int
  f2 : Int
  f3 : Int
  f4 : Int
def k23 : Kd S23 := Kd.iso (Kd.pair Kd.bool (Kd.pair (Kd.int .i64) (Kd.pair (Kd.int .i64) (Kd.pair (Kd.int .i64) (Kd.int .i64))))) (fun x : S23 => (x.f0, x.f1, x.f2, x.f3, x.f4))
theorem k23_open {w : World} {x : S23} {cs : List Value} (h : k23.K w x cs) : cs = [.bool x.f0, .int .i64 x.f1, .int .i64 x.f2, .int .i64 x.f3, .int .i64 x.f4] := by
  obtain ⟨_, _, rfl, rfl, ⟨_, _, rfl, rfl, ⟨_, _, rfl, rfl, ⟨_, _, rfl, rfl, rfl⟩⟩⟩⟩ := h
  exact rfl
theorem k23_mk (w : World) (x : S23)  : k23.K w x [.bool x.f0, .int .i64 x.f1, .int .i64 x.f2, .int .i64 x.f3, .int .i64 x.f4] := ⟨[.bool x.f0], [.int .i64 x.f1, .int .i64 x.f2, .int .i64 x.f3, .int .i64 x.f4], rfl, rfl, ⟨[.int .i64 x.f1], [.int .i64 x.f2, .int .i64 x.f3, .int .i64 x.f4], rfl, rfl, ⟨[.int .i64 x.f2], [.int .i64 x.f3, .int .i64 x.f4], rfl, rfl, ⟨[.int .i64 x.f3], [.int .i64 x.f4], rfl, rfl, rfl⟩⟩⟩⟩
structure S33 where
  f0 : Int
  f1 : Int
def k33 : Kd S33 := Kd.iso (Kd.pair (Kd.int .i64) (Kd.int .i64)) (fun x : S33 => (x.f0, x.f1))
theorem k33_open {w : World} {x : S33} {cs : List Value} (h : k33.K w x cs) : cs = [.int .i64 x.f0, .int .i64 x.f1] := by
  obtain ⟨_, _, rfl, rfl, rfl⟩ := h
  exact rfl
theorem k33_mk (w : World) (x : S33)  : k33.K w x [.int .i64 x.f0, .int .i64 x.f1] := ⟨[.int .i64 x.f0], [.int .i64 x.f1], rfl, rfl, rfl⟩
def okS23 (x : S23) : Prop := (Lit.int .i64 x.f1).wf = true ∧ (Lit.int .i64 x.f2).wf = true ∧ (Lit.int .i64 x.f3).wf = true ∧ (Lit.int .i64 x.f4).wf = true
def okS25 (x : S25) : Prop := (Lit.int .i64 x.f0).wf = true ∧ (Lit.int .i64 x.f1).wf = true ∧ (Lit.int .i64 x.f2).wf = true ∧ (Lit.int .i64 x.f3).wf = true ∧ (Lit.int .i64 x.f4).wf = true
def okS33 (x : S33) : Prop := (Lit.int .i64 x.f0).wf = true ∧ (Lit.int .i64 x.f1).wf = true
theorem wrap64_in (n : Int) (h0 : -9223372036854775808 ≤ n) (h : n < 9223372036854775808) : wrap64 n = n := by unfold wrap64; omega
/-- Is what there is, or what was wanted, out of its bounds? -/
def nowB (now : Int) : Bool := decide (now < 0) || decide (4 < now)
def moodB (mw mf : Int) : Bool := decide (mw < 0) || decide (4 < mw) || decide (mf < 0) || decide (16 < mf)
/-- Are policy and tally as they should be? -/
def okPT (s l c m i0 i1 i2 i3 i4 : Int) : Bool := !badP s l c m && allT i0 i1 i2 i3 i4
/-- How often in a row, with this one. -/
def inRow (mw mf w : Int) : Int := if mw = w then mf + 1 else 1
/-- One step. -/
def stp (on : Bool) (s l c m mw mf now i0 i1 i2 i3 i4 : Int) : Int × Int × Bool × Int :=
  if okPT s l c m i0 i1 i2 i3 i4 = false then (0, 0, false, 1) else if nowB now = true then (0, 0, false, 7) else if moodB mw mf = true then (0, 0, false, 1) else if on = false then (0, 0, false, 0)
  else if wantK s l c i0 i1 i2 i4 = now then (wantK s l c i0 i1 i2 i4, 0, false, 0)
  else if inRow mw mf (wantK s l c i0 i1 i2 i4) ≥ m then (wantK s l c i0 i1 i2 i4, 0, true, 0) else (wantK s l c i0 i1 i2 i4, inRow mw mf (wantK s l c i0 i1 i2 i4), false, 0)
theorem wants_ok {s l c m i0 i1 i2 i3 i4 : Int} (on : Bool) (h : okPT s l c m i0 i1 i2 i3 i4 = true) : policy_Wants.f on s l c m i0 i1 i2 i3 i4 = some (wantK s l c i0 i1 i2 i4, 0) := by
  unfold okPT at h
  cases hb : badP s l c m with
  | true => rw [hb] at h; cases h
  | false =>
    cases ha : allT i0 i1 i2 i3 i4 with
    | false => rw [hb, ha] at h; cases h
    | true => unfold policy_Wants.f; rw [hb, ha]; rfl
theorem wants_no {s l c m i0 i1 i2 i3 i4 : Int} (on : Bool) (h : okPT s l c m i0 i1 i2 i3 i4 = false) : policy_Wants.f on s l c m i0 i1 i2 i3 i4 = some (0, 1) := by
  unfold okPT at h
  cases hb : badP s l c m with
  | true => unfold policy_Wants.f; rw [hb]; rfl
  | false =>
    cases ha : allT i0 i1 i2 i3 i4 with
    | true => rw [hb, ha] at h; cases h
    | false => unfold policy_Wants.f; rw [hb, ha]; rfl
theorem ok_good {s l c m i0 i1 i2 i3 i4 : Int} (h : okPT s l c m i0 i1 i2 i3 i4 = true) : badP s l c m = false := by
  unfold okPT at h
  cases hb : badP s l c m with
  | true => rw [hb] at h; cases h
  | false => rfl
theorem wantK_range (s l c i0 i1 i2 i4 : Int) : 0 ≤ wantK s l c i0 i1 i2 i4 ∧ wantK s l c i0 i1 i2 i4 ≤ 4 := by
  unfold wantK
  (repeat' split) <;> omega
theorem mood_yes {mw mf : Int} (h : moodB mw mf = false) : 0 ≤ mw ∧ mw ≤ 4 ∧ 0 ≤ mf ∧ mf ≤ 16 := by
  unfold moodB at h; simp at h; omega
theorem mood_no {mw mf : Int} (h : 0 ≤ mw ∧ mw ≤ 4 ∧ 0 ≤ mf ∧ mf ≤ 16) : moodB mw mf = false := by
  unfold moodB; simp; omega
theorem now_no {n : Int} (h : 0 ≤ n ∧ n ≤ 4) : nowB n = false := by
  unfold nowB; simp; omega
theorem now_yes {n : Int} (h : nowB n = false) : 0 ≤ n ∧ n ≤ 4 := by
  unfold nowB at h; simp at h; omega
theorem wrong_f (k : Nat) (mw mf now : Int) (hk : 1 ≤ k) : policy_wrong.f k mw mf now = some (if nowB now = true then 7 else if moodB mw mf = true then 1 else 0) := by
  obtain ⟨k, rfl⟩ : ∃ m, k = m + 1 := ⟨k - 1, by omega⟩
  unfold policy_wrong.f nowB moodB
  by_cases h1 : now < 0
  · rw [if_pos h1]; simp [policy_wrong.j0, h1]
  rw [if_neg h1]
  by_cases h2 : 4 < now
  · simp [policy_wrong.j0, h1, h2]
  by_cases h3 : mw < 0
  · simp [policy_wrong.j0, h1, h2, h3]
  by_cases h4 : 4 < mw
  · simp [policy_wrong.j0, h1, h2, h3, h4]
  by_cases h5 : mf < 0
  · simp [policy_wrong.j0, h1, h2, h3, h4, h5]
  by_cases h6 : 16 < mf
  · simp [policy_wrong.j0, h1, h2, h3, h4, h5, h6]
  simp [policy_wrong.j0, h1, h2, h3, h4, h5, h6]
theorem step_f (k : Nat) (on : Bool) (s l c m mw mf now i0 i1 i2 i3 i4 : Int) (hk : 5 ≤ k) : policy_Step.f k on s l c m mw mf now i0 i1 i2 i3 i4 = some (stp on s l c m mw mf now i0 i1 i2 i3 i4) := by
  obtain ⟨k, rfl⟩ : ∃ q, k = q + 1 + 1 := ⟨k - 2, by omega⟩
  unfold policy_Step.f stp
  cases h : okPT s l c m i0 i1 i2 i3 i4 with
  | false =>
    rw [wants_no on h, Option.bind_some, if_neg (by decide), if_pos rfl]
    simp -implicitDefEqProofs [policy_Step.j0, policy_Step.j1]
  | true =>
    have hg := good_range (ok_good h)
    rw [wants_ok on h, Option.bind_some, if_pos rfl, wrong_f _ _ _ _ (by omega), Option.bind_some]
    generalize wantK s l c i0 i1 i2 i4 = w
    have hm0 : ¬ m ≤ 0 := by omega
    cases h1 : nowB now with
    | true => simp -implicitDefEqProofs [policy_Step.j0, policy_Step.j1]
    | false =>
      cases h2 : moodB mw mf with
      | true => simp -implicitDefEqProofs [policy_Step.j0, policy_Step.j1]
      | false =>
        have hm := mood_yes h2
        cases on with
        | false => simp -implicitDefEqProofs [policy_Step.j0, policy_Step.j1]
        | true =>
          unfold inRow
          by_cases hw : w = now
          · simp -implicitDefEqProofs [policy_Step.j0, policy_Step.j1, hw, hm0]
          · by_cases hmw : mw = w
            · have hwr : wrap64 (1 + mf) = mf + 1 := by rw [wrap64_in _ (by omega) (by omega)]; omega
              by_cases hc : m ≤ mf + 1
              · simp -implicitDefEqProofs [policy_Step.j0, policy_Step.j1, hw, hmw, hwr, hc]
              · simp -implicitDefEqProofs [policy_Step.j0, policy_Step.j1, hw, hmw, hwr, hc]
            · by_cases hc : m ≤ 1
              · simp -implicitDefEqProofs [policy_Step.j0, policy_Step.j1, hw, hmw, hc]
              · simp -implicitDefEqProofs [policy_Step.j0, policy_Step.j1, hw, hmw, hc]
/-- All steps. -/
def rn (on : Bool) (s l c m : Int) : Int → Int → Int → List S25 → List Int → List Int × Int
  | _, _, _, [], out => (out, 0)
  | now, mw, mf, t :: ts, out =>
    if (stp on s l c m mw mf now t.f0 t.f1 t.f2 t.f3 t.f4).2.2.2 = 0 then
      rn on s l c m (if (stp on s l c m mw mf now t.f0 t.f1 t.f2 t.f3 t.f4).2.2.1 = true then (stp on s l c m mw mf now t.f0 t.f1 t.f2 t.f3 t.f4).1 else now) (stp on s l c m mw mf now t.f0 t.f1 t.f2 t.f3 t.f4).1 (stp on s l c m mw mf now t.f0 t.f1 t.f2 t.f3 t.f4).2.1 ts
        (out ++ [if (stp on s l c m mw mf now t.f0 t.f1 t.f2 t.f3 t.f4).2.2.1 = true then (stp on s l c m mw mf now t.f0 t.f1 t.f2 t.f3 t.f4).1 else now])
    else ([], (stp on s l c m mw mf now t.f0 t.f1 t.f2 t.f3 t.f4).2.2.2)
theorem go_f (k : Nat) (on : Bool) (s l c m : Int) (hk : 5 ≤ k) : ∀ (ts : List S25) (now mw mf : Int) (out : List Int), run_go k on s l c m now mw mf ts out = some (rn on s l c m now mw mf ts out)
  | [], _, _, _, _ => rfl
  | t :: ts, now, mw, mf, out => by
    simp -implicitDefEqProofs only [run_go, rn, step_f k _ _ _ _ _ _ _ _ _ _ _ _ _ hk, Option.bind_some]
    rw [go_f k on s l c m hk ts]
    by_cases h : (stp on s l c m mw mf now t.f0 t.f1 t.f2 t.f3 t.f4).2.2.2 = 0
    · rw [if_pos h, if_pos h]
    · rw [if_neg h, if_neg h]
theorem run_f (k : Nat) (on : Bool) (s l c m now : Int) (ts : List S25) (hk : 5 ≤ k) (h : ts.length ≤ 1000) : policy_Run.f k on s l c m now ts = some (rn on s l c m now 0 0 ts []) := by
  unfold policy_Run.f
  rw [if_pos (by omega)]
  exact go_f k on s l c m hk ts now 0 0 []
theorem works_f (k : Nat) (hk : 64 ≤ k) : complinelaw15_works.f k = some true := at_rounds complinelaw15_works.mono hk (by decide +kernel)
/-- n times b and a. -/
def pairs (b a : S25) : Nat → List S25
  | 0 => []
  | n + 1 => b :: a :: pairs b a n
theorem pairs_app (b a : S25) : ∀ n, pairs b a n ++ [b, a] = pairs b a (n + 1)
  | 0 => rfl
  | n + 1 => by simp only [pairs, List.cons_append]; rw [pairs_app b a n]; rfl
theorem pairs_len (b a : S25) : ∀ n, (pairs b a n).length = 2 * n
  | 0 => rfl
  | n + 1 => by simp only [pairs, List.length_cons, pairs_len b a n]; omega
theorem flaps_rn (on : Bool) (s l c m w : Int) (b a : S25) (hb : okPT s l c m b.f0 b.f1 b.f2 b.f3 b.f4 = true) (ha : okPT s l c m a.f0 a.f1 a.f2 a.f3 a.f4 = true) (hw : wantK s l c a.f0 a.f1 a.f2 a.f4 = w) (hne : wantK s l c b.f0 b.f1 b.f2 b.f4 ≠ w) (hm : 2 ≤ m) :
    ∀ (n : Nat) (mw : Int) (out : List Int), 0 ≤ mw → mw ≤ 4 → rn on s l c m w mw 0 (pairs b a n) out = (out ++ List.replicate (2 * n) w, 0)
  | 0, _, out, _, _ => by simp [rn, pairs]
  | n + 1, mw, out, h0, h4 => by
    have hwr := wantK_range s l c a.f0 a.f1 a.f2 a.f4
    have hbr := wantK_range s l c b.f0 b.f1 b.f2 b.f4
    rw [hw] at hwr
    have hnb : nowB w = false := now_no hwr
    have e : 2 * (n + 1) = 2 * n + 1 + 1 := by omega
    have goal : ∀ mw', 0 ≤ mw' → mw' ≤ 4 → rn on s l c m w mw' 0 (pairs b a n) (out ++ [w] ++ [w]) = (out ++ List.replicate (2 * (n + 1)) w, 0) := by
      intro mw' q0 q4
      rw [flaps_rn on s l c m w b a hb ha hw hne hm n mw' _ q0 q4, e, List.replicate_succ, List.replicate_succ]; simp
    cases on with
    | false =>
      have s1 : stp false s l c m mw 0 w b.f0 b.f1 b.f2 b.f3 b.f4 = (0, 0, false, 0) := by simp [stp, hb, hnb, mood_no (show 0 ≤ mw ∧ mw ≤ 4 ∧ (0 : Int) ≤ 0 ∧ (0 : Int) ≤ 16 by omega)]
      have s2 : stp false s l c m 0 0 w a.f0 a.f1 a.f2 a.f3 a.f4 = (0, 0, false, 0) := by simp [stp, ha, hnb, mood_no (show 0 ≤ (0 : Int) ∧ (0 : Int) ≤ 4 ∧ (0 : Int) ≤ 0 ∧ (0 : Int) ≤ 16 by omega)]
      simp -implicitDefEqProofs only [pairs, rn, s1, s2, if_true, Bool.false_eq_true, if_false]
      exact goal 0 (by omega) (by omega)
    | true =>
      have hin : inRow mw 0 (wantK s l c b.f0 b.f1 b.f2 b.f4) = 1 := by unfold inRow; split <;> rfl
      have hm1 : ¬ (1 : Int) ≥ m := by omega
      have s1 : stp true s l c m mw 0 w b.f0 b.f1 b.f2 b.f3 b.f4 = (wantK s l c b.f0 b.f1 b.f2 b.f4, 1, false, 0) := by
        simp only [stp, hb, hnb, mood_no (show 0 ≤ mw ∧ mw ≤ 4 ∧ (0 : Int) ≤ 0 ∧ (0 : Int) ≤ 16 by omega), hin, if_neg hne, if_neg hm1, Bool.true_eq_false, Bool.false_eq_true, if_false]
      have s2 : stp true s l c m (wantK s l c b.f0 b.f1 b.f2 b.f4) 1 w a.f0 a.f1 a.f2 a.f3 a.f4 = (w, 0, false, 0) := by
        simp only [stp, ha, hnb, mood_no (show 0 ≤ wantK s l c b.f0 b.f1 b.f2 b.f4 ∧ wantK s l c b.f0 b.f1 b.f2 b.f4 ≤ 4 ∧ (0 : Int) ≤ 1 ∧ (1 : Int) ≤ 16 by omega), hw, if_true, Bool.true_eq_false, Bool.false_eq_true, if_false]
      simp -implicitDefEqProofs only [pairs, rn, s1, s2, if_true, Bool.false_eq_true, if_false]
      exact goal w (by omega) (by omega)
theorem flaps_l1 (w : Int) (N : Nat) (hN : N ≤ 100) (d : Nat) : ∀ (k i : Nat), i + d = N → d + 1 < k → complinelaw15_PolicyFlaps.l1 k true w (List.replicate N w) i = some true := by
  induction d with
  | zero =>
    intro k i hi hk
    obtain ⟨k, rfl⟩ : ∃ q, k = q + 1 := ⟨k - 1, by omega⟩
    simp -implicitDefEqProofs only [complinelaw15_PolicyFlaps.l1, List.length_replicate]
    rw [if_neg (by omega)]
  | succ d ih =>
    intro k i hi hk
    obtain ⟨k, rfl⟩ : ∃ q, k = q + 1 := ⟨k - 1, by omega⟩
    have hw : wrap64 ((i : Int) + 1) = ((i + 1 : Nat) : Int) := by rw [wrap64_in _ (by omega) (by omega)]; omega
    have hr : rd (List.replicate N w) i = w := by
      unfold rd
      rw [Int.toNat_natCast, List.getD_eq_getElem?_getD, List.getElem?_replicate_of_lt (by omega)]; rfl
    simp -implicitDefEqProofs only [complinelaw15_PolicyFlaps.l1, List.length_replicate, hw, hr, if_true]
    rw [if_pos (by omega), if_pos (by omega)]
    exact ih k (i + 1) (by omega) (by omega)
theorem flaps_l0 (on : Bool) (s l c m w : Int) (b a : S25) (n : Nat) (hn : n ≤ 50) (hb : okPT s l c m b.f0 b.f1 b.f2 b.f3 b.f4 = true) (ha : okPT s l c m a.f0 a.f1 a.f2 a.f3 a.f4 = true) (hw : wantK s l c a.f0 a.f1 a.f2 a.f4 = w) (hne : wantK s l c b.f0 b.f1 b.f2 b.f4 ≠ w) (hm : 2 ≤ m) (d : Nat) : ∀ (k i : Nat), i + d = n → d + 200 < k →
    complinelaw15_PolicyFlaps.l0 k n true w (pairs b a i) i on s l c m a.f0 a.f1 a.f2 a.f3 a.f4 b.f0 b.f1 b.f2 b.f3 b.f4 = some true := by
  induction d with
  | zero =>
    intro k i hi hk
    obtain ⟨k, rfl⟩ : ∃ q, k = q + 1 + 1 := ⟨k - 2, by omega⟩
    obtain rfl : i = n := by omega
    have hr := run_f (k + 1) on s l c m w (pairs b a i) (by omega) (by rw [pairs_len]; omega)
    rw [flaps_rn on s l c m w b a hb ha hw hne hm i 0 [] (by omega) (by omega), List.nil_append] at hr
    have hw2 : wrap64 (2 * (i : Int)) = ((2 * i : Nat) : Int) := by rw [wrap64_in _ (by omega) (by omega)]; omega
    simp -implicitDefEqProofs only [complinelaw15_PolicyFlaps.l0]
    rw [if_neg (by omega), hr]
    simp -implicitDefEqProofs only [Option.bind_some, if_true, List.length_replicate, hw2, complinelaw15_PolicyFlaps.j2]
    rw [if_neg (by simp)]
    exact flaps_l1 w (2 * i) (by omega) (2 * i) k 0 (by omega) (by omega)
  | succ d ih =>
    intro k i hi hk
    obtain ⟨k, rfl⟩ : ∃ q, k = q + 1 := ⟨k - 1, by omega⟩
    have hwr : wrap64 ((i : Int) + 1) = ((i + 1 : Nat) : Int) := by rw [wrap64_in _ (by omega) (by omega)]; omega
    simp -implicitDefEqProofs only [complinelaw15_PolicyFlaps.l0, Option.bind_some, pairs_len, List.length_cons, List.length_nil, hwr]
    rw [if_pos (by omega), if_pos (by omega)]
    have : pairs b a i ++ [(⟨b.f0, b.f1, b.f2, b.f3, b.f4⟩ : S25), (⟨a.f0, a.f1, a.f2, a.f3, a.f4⟩ : S25)] = pairs b a (i + 1) := pairs_app b a i
    rw [this]
    exact ih k (i + 1) (by omega) (by omega)
theorem PolicyFlaps (p : S23) (a b : S25) (n : Int) (_ : okS23 p) (_ : okS25 a) (_ : okS25 b) (_ : (Lit.int .i64 n).wf = true) : ∃ k, complinelaw15_PolicyFlaps.f k p.f0 p.f1 p.f2 p.f3 p.f4 a.f0 a.f1 a.f2 a.f3 a.f4 b.f0 b.f1 b.f2 b.f3 b.f4 n = some true := by
  refine ⟨400, ?_⟩
  simp -implicitDefEqProofs only [complinelaw15_PolicyFlaps.f, works_f 400 (by omega), Option.bind_some, if_true]
  cases ha : okPT p.f1 p.f2 p.f3 p.f4 a.f0 a.f1 a.f2 a.f3 a.f4 with
  | false =>
    obtain ⟨q, hq⟩ : ∃ q, policy_Wants.f p.f0 p.f1 p.f2 p.f3 p.f4 b.f0 b.f1 b.f2 b.f3 b.f4 = some q := ⟨_, rfl⟩
    rw [wants_no p.f0 ha, hq, Option.bind_some, Option.bind_some, if_neg (by decide)]
    simp -implicitDefEqProofs only [complinelaw15_PolicyFlaps.j0, if_true]
  | true =>
    rw [wants_ok p.f0 ha, Option.bind_some]
    cases hb : okPT p.f1 p.f2 p.f3 p.f4 b.f0 b.f1 b.f2 b.f3 b.f4 with
    | false =>
      rw [wants_no p.f0 hb, Option.bind_some, if_pos rfl, if_neg (by decide)]
      simp -implicitDefEqProofs only [complinelaw15_PolicyFlaps.j0, if_true]
    | true =>
      rw [wants_ok p.f0 hb, Option.bind_some, if_pos rfl, if_pos rfl]
      by_cases h0 : wantK p.f1 p.f2 p.f3 a.f0 a.f1 a.f2 a.f4 = wantK p.f1 p.f2 p.f3 b.f0 b.f1 b.f2 b.f4
      · rw [if_pos h0]; simp -implicitDefEqProofs only [complinelaw15_PolicyFlaps.j0, if_true]
      by_cases h1 : p.f4 < 2
      · rw [if_neg h0, if_pos h1]; simp -implicitDefEqProofs only [complinelaw15_PolicyFlaps.j0, if_true]
      by_cases h3 : n < 0
      · rw [if_neg h0, if_neg h1, if_pos h3]; simp -implicitDefEqProofs only [complinelaw15_PolicyFlaps.j0, if_true]
      rw [if_neg h0, if_neg h1, if_neg h3]
      by_cases h4 : n > 50
      · rw [decide_eq_true h4]; simp -implicitDefEqProofs only [complinelaw15_PolicyFlaps.j0, if_true]
      rw [decide_eq_false h4]
      simp -implicitDefEqProofs only [complinelaw15_PolicyFlaps.j0, Bool.false_eq_true, if_false]
      obtain ⟨q, rfl⟩ : ∃ q : Nat, n = q := ⟨n.toNat, by omega⟩
      exact flaps_l0 p.f0 p.f1 p.f2 p.f3 p.f4 _ b a q (by omega) hb ha rfl (fun e => h0 e.symm) (by omega) q 399 0 (by omega) (by omega)

end Go.Proofs.Ytkbodakmfllnpaa.Pure
