/-
  Whether it is a policy, and which kind is wanted: the program tells what the reference tells.
  No condition.
-/
import Derived.Test.YtkbodakmfllnpaaGPolicyWantsx5
namespace Go.Proofs.Ytkbodakmfllnpaa.Pure
open Go.RowKit Go.Proofs.Ytkbodakmfllnpaa.GPolicyWants Go.Proofs.YtkbodakmfllnpaaW.PrintWords Go.Proofs.YtkbodakmfllnpaaW.PrintLast Go.Proofs.YtkbodakmfllnpaaW.PrintMore

structure S23 where
  f0 : Bool
  f1 : Int
  f2 : Int
  f3 : Int
  f4 : Int
def k23 : Kd S23 := Kd.iso (Kd.pair Kd.bool (Kd.pair (Kd.int .i64) (Kd.pair (Kd.int .i64) (Kd.pair (Kd.int .i64) (Kd.int .i64))))) (fun x : S23 => (x.f0, x.f1, x.f2, x.f3, x.f4))
theorem k23_open {w : World} {x : S23} {cs : List Value} (h : k23.K w x cs) : cs = [.bool x.f0, .int .i64 x.f1, .int .i64 x.f2, .int .i64 x.f3, .int .i64 x.f4] := by
  obtain ⟨_, _, rfl, rfl, ⟨_, _, rfl, rfl, ⟨_, _, rfl, rfl, ⟨_, _, rfl, rfl, rfl⟩⟩⟩⟩ := h
  exact rfl
theorem k23_mk (w : World) (x : S23)  : k23.K w x [.bool x.f0, .int .i64 x.f1, .int .i64 x.f2, .int .i64 x.f3, .int .i64 x.f4] := ⟨[.bool x.f0], [.int .i64 x.f1, .int .i64 x.f2, .int .i64 x.f3, .int .i64 x.f4], rfl, rfl, ⟨[.int .i64 x.f1], [.int .i64 x.f2, .int .i64 x.f3, .int .i64 x.f4], rfl, rfl, ⟨[.int .i64 x.f2], [.int .i64 x.f3, .int .i64 x.f4], rfl, rfl, ⟨[.int .i64 x.f3], [.int .i64 x.f4], rfl, rfl, rfl⟩⟩⟩⟩
structure S33 where
  f0 : Int
  f1 : Int
def k33 : Kd S33 := Kd.iso (Kd.pair (Kd.int .i64) (Kd.int .i64)) (fun x : S33 => (x.f0, x.f1))
theorem k33_open {w : World} {x : S33} {cs : List Value} (h : k33.K w x cs) : cs = [.int .i64 x.f0, .int .i64 x.f1] := by
  obtain ⟨_, _, rfl, rfl, rfl⟩ := h
  exact rfl
theorem k33_mk (w : World) (x : S33)  : k33.K w x [.int .i64 x.f0, .int .i64 x.f1] := ⟨[.int .i64 x.f0], [.int .i64 x.f1], rfl, rfl, rfl⟩
def okS23 (x : S23) : Prop := (Lit.int .i64 x.f1).wf = true ∧ (Lit.int .i64 x.f2).wf = true ∧ (Lit.int .i64 x.f3).wf = true ∧ (Lit.int .i64 x.f4).wf = true
def okS25 (x : S25) : Prop := (Lit.int .i64 x.f0).wf = true ∧ (Lit.int .i64 x.f1).wf = true ∧ (Lit.int .i64 x.f2).wf = true ∧ (Lit.int .i64 x.f3).wf = true ∧ (Lit.int .i64 x.f4).wf = true
def okS33 (x : S33) : Prop := (Lit.int .i64 x.f0).wf = true ∧ (Lit.int .i64 x.f1).wf = true
theorem wrap64_in (n : Int) (h0 : -9223372036854775808 ≤ n) (h : n < 9223372036854775808) : wrap64 n = n := by unfold wrap64; omega
/-- Is what there is, or what was wanted, out of its bounds? -/
def nowB (now : Int) : Bool := decide (now < 0) || decide (4 < now)
def moodB (mw mf : Int) : Bool := decide (mw < 0) || decide (4 < mw) || decide (mf < 0) || decide (16 < mf)
/-- Are policy and tally as they should be? -/
def okPT (s l c m i0 i1 i2 i3 i4 : Int) : Bool := !badP s l c m && allT i0 i1 i2 i3 i4
/-- How often in a row, with this one. -/
def inRow (mw mf w : Int) : Int := if mw = w then mf + 1 else 1
/-- One step. -/
def stp (on : Bool) (s l c m mw mf now i0 i1 i2 i3 i4 : Int) : Int × Int × Bool × Int :=
  if okPT s l c m i0 i1 i2 i3 i4 = false then (0, 0, false, 1) else if nowB now = true then (0, 0, false, 7) else if moodB mw mf = true then (0, 0, false, 1) else if on = false then (0, 0, false, 0)
  else if wantK s l c i0 i1 i2 i4 = now then (wantK s l c i0 i1 i2 i4, 0, false, 0)
  else if inRow mw mf (wantK s l c i0 i1 i2 i4) ≥ m then (wantK s l c i0 i1 i2 i4, 0, true, 0) else (wantK s l c i0 i1 i2 i4, inRow mw mf (wantK s l c i0 i1 i2 i4), false, 0)
theorem wants_ok {s l c m i0 i1 i2 i3 i4 : Int} (on : Bool) (h : okPT s l c m i0 i1 i2 i3 i4 = true) : policy_Wants.f on s l c m i0 i1 i2 i3 i4 = some (wantK s l c i0 i1 i2 i4, 0) := by
  unfold okPT at h
  cases hb : badP s l c m with
  | true => rw [hb] at h; cases h
  | false =>
    cases ha : allT i0 i1 i2 i3 i4 with
    | false => rw [hb, ha] at h; cases h
    | true => unfold policy_Wants.f; rw [hb, ha]; rfl
theorem wants_no {s l c m i0 i1 i2 i3 i4 : Int} (on : Bool) (h : okPT s l c m i0 i1 i2 i3 i4 = false) : policy_Wants.f on s l c m i0 i1 i2 i3 i4 = some (0, 1) := by
  unfold okPT at h
  cases hb : badP s l c m with
  | true => unfold policy_Wants.f; rw [hb]; rfl
  | false =>
    cases ha : allT i0 i1 i2 i3 i4 with
    | true => rw [hb, ha] at h; cases h
    | false => unfold policy_Wants.f; rw [hb, ha]; rfl
theorem ok_good {s l c m i0 i1 i2 i3 i4 : Int} (h : okPT s l c m i0 i1 i2 i3 i4 = true) : badP s l c m = false := by
  unfold okPT at h
  cases hb : badP s l c m with
  | true => rw [hb] at h; cases h
  | false => rfl
theorem wantK_range (s l c i0 i1 i2 i4 : Int) : 0 ≤ wantK s l c i0 i1 i2 i4 ∧ wantK s l c i0 i1 i2 i4 ≤ 4 := by
  unfold wantK
  (repeat' split) <;> omega
theorem mood_yes {mw mf : Int} (h : moodB mw mf = false) : 0 ≤ mw ∧ mw ≤ 4 ∧ 0 ≤ mf ∧ mf ≤ 16 := by
  unfold moodB at h; simp at h; omega
theorem mood_no {mw mf : Int} (h : 0 ≤ mw ∧ mw ≤ 4 ∧ 0 ≤ mf ∧ mf ≤ 16) : moodB mw mf = false := by
  unfold moodB; simp; omega
theorem now_no {n : Int} (h : 0 ≤ n ∧ n ≤ 4) : nowB n = false := by
  unfold nowB; simp; omega
theorem now_yes {n : Int} (h : nowB n = false) : 0 ≤ n ∧ n ≤ 4 := by
  unfold nowB at h; simp at h; omega
theorem wrong_f (k : Nat) (mw mf now : Int) (hk : 1 ≤ k) : policy_wrong.f k mw mf now = some (if nowB now = true then 7 else if moodB mw mf = true then 1 else 0) := by
  obtain ⟨k, rfl⟩ : ∃ m, k = m + 1 := ⟨k - 1, by omega⟩
  unfold policy_wrong.f nowB moodB
  by_cases h1 : now < 0
  · rw [if_pos h1]; simp [policy_wrong.j0, h1]
  rw [if_neg h1]
  by_cases h2 : 4 < now
  · simp [policy_wrong.j0, h1, h2]
  by_cases h3 : mw < 0
  · simp [policy_wrong.j0, h1, h2, h3]
  by_cases h4 : 4 < mw
  · simp [policy_wrong.j0, h1, h2, h3, h4]
  by_cases h5 : mf < 0
  · simp [policy_wrong.j0, h1, h2, h3, h4, h5]
  by_cases h6 : 16 < mf
  · simp [policy_wrong.j0, h1, h2, h3, h4, h5, h6]
  simp [policy_wrong.j0, h1, h2, h3, h4, h5, h6]
theorem step_f (k : Nat) (on : Bool) (s l c m mw mf now i0 i1 i2 i3 i4 : Int) (hk : 5 ≤ k) : policy_Step.f k on s l c m mw mf now i0 i1 i2 i3 i4 = some (stp on s l c m mw mf now i0 i1 i2 i3 i4) := by
  obtain ⟨k, rfl⟩ : ∃ q, k = q + 1 + 1 := ⟨k - 2, by omega⟩
  unfold policy_Step.f stp
  cases h : okPT s l c m i0 i1 i2 i3 i4 with
  | false =>
    rw [wants_no on h, Option.bind_some, if_neg (by decide), if_pos rfl]
    simp -implicitDefEqProofs [policy_Step.j0, policy_Step.j1]
  | true =>
    have hg := good_range (ok_good h)
    rw [wants_ok on h, Option.bind_some, if_pos rfl, wrong_f _ _ _ _ (by omega), Option.bind_some]
    generalize wantK s l c i0 i1 i2 i4 = w
    have hm0 : ¬ m ≤ 0 := by omega
    cases h1 : nowB now with
    | true => simp -implicitDefEqProofs [policy_Step.j0, policy_Step.j1]
    | false =>
      cases h2 : moodB mw mf with
      | true => simp -implicitDefEqProofs [policy_Step.j0, policy_Step.j1]
      | false =>
        have hm := mood_yes h2
        cases on with
        | false => simp -implicitDefEqProofs [policy_Step.j0, policy_Step.j1]
        | true =>
          unfold inRow
          by_cases hw : w = now
          · simp -implicitDefEqProofs [policy_Step.j0, policy_Step.j1, hw, hm0]
          · by_cases hmw : mw = w
            · have hwr : wrap64 (1 + mf) = mf + 1 := by rw [wrap64_in _ (by omega) (by omega)]; omega
              by_cases hc : m ≤ mf + 1
              · simp -implicitDefEqProofs [policy_Step.j0, policy_Step.j1, hw, hmw, hwr, hc]
              · simp -implicitDefEqProofs [policy_Step.j0, policy_Step.j1, hw, hmw, hwr, hc]
            · by_cases hc : m ≤ 1
              · simp -implicitDefEqProofs [policy_Step.j0, policy_Step.j1, hw, hmw, hc]
              · simp -implicitDefEqProofs [policy_Step.j0, policy_Step.j1, hw, hmw, hc]
/-- All steps. -/
def rn (on : Bool) (s l c m : Int) : Int → Int → Int → List S25 → List Int → List Int × Int
  | _, _, _, [], out => (out, 0)
  | now, mw, mf, t :: ts, out =>
    if (stp on s l c m mw mf now t.f0 t.f1 t.f2 t.f3 t.f4).2.2.2 = 0 then
      rn on s l c m (if (stp on s l c m mw mf now t.f0 t.f1 t.f2 t.f3 t.f4).2.2.1 = true then (stp on s l c m mw mf now t.f0 t.f1 t.f2 t.f3 t.f4).1 else now) (stp on s l c m mw mf now t.f0 t.f1 t.f2 t.f3 t.f4).1 (stp on s l c m mw mf now t.f0 t.f1 t.f2 t.f3 t.f4).2.1 ts
        (out ++ [if (stp on s l c m mw mf now t.f0 t.f1 t.f2 t.f3 t.f4).2.2.1 = true then (stp on s l c m mw mf now t.f0 t.f1 t.f2 t.f3 t.f4).1 else now])
    else ([], (stp on s l c m mw mf now t.f0 t.f1 t.f2 t.f3 t.f4).2.2.2)
theorem go_f (k : Nat) (on : Bool) (s l c m : Int) (hk : 5 ≤ k) : ∀ (ts : List S25) (now mw mf : Int) (out : List Int), run_go k on s l c m now mw mf ts out = some (rn on s l c m now mw mf ts out)
  | [], _, _, _, _ => rfl
  | t :: ts, now, mw, mf, out => by
    simp -implicitDefEqProofs only [run_go, rn, step_f k _ _ _ _ _ _ _ _ _ _ _ _ _ hk, Option.bind_some]
    rw [go_f k on s l c m hk ts]
    by_cases h : (stp on s l c m mw mf now t.f0 t.f1 t.f2 t.f3 t.f4).2.2.2 = 0
    · rw [if_pos h, if_pos h]
    · rw [if_neg h, if_neg h]
theorem run_f (k : Nat) (on : Bool) (s l c m now : Int) (ts : List S25) (hk : 5 ≤ k) (h : ts.length ≤ 1000) : policy_Run.f k on s l c m now ts = some (rn on s l c m now 0 0 ts []) := by
  unfold policy_Run.f
  rw [if_pos (by omega)]
  exact go_f k on s l c m hk ts now 0 0 []
theorem works_f (k : Nat) (hk : 64 ≤ k) : complinelaw15_works.f k = some true := at_rounds complinelaw15_works.mono hk (by decide +kernel)
theorem PolicyWants (p : S23) (t : S25) (_ : okS23 p) (_ : okS25 t) : ∃ k, complinelaw15_PolicyWants.f k p.f0 p.f1 p.f2 p.f3 p.f4 t.f0 t.f1 t.f2 t.f3 t.f4 = some true := by
  refine ⟨64, ?_⟩
  have h1 : complineref15_Wants.f p.f0 p.f1 p.f2 p.f3 p.f4 t.f0 t.f1 t.f2 t.f3 t.f4 = policy_Wants.f p.f0 p.f1 p.f2 p.f3 p.f4 t.f0 t.f1 t.f2 t.f3 t.f4 := rfl
  have h2 : policy_Check.f p.f0 p.f1 p.f2 p.f3 p.f4 = some (if badP p.f1 p.f2 p.f3 p.f4 then 1 else 0) := rfl
  obtain ⟨q, hq⟩ : ∃ q, policy_Wants.f p.f0 p.f1 p.f2 p.f3 p.f4 t.f0 t.f1 t.f2 t.f3 t.f4 = some q := ⟨_, rfl⟩
  simp -implicitDefEqProofs only [complinelaw15_PolicyWants.f, works_f 64 (by omega), h1, h2, rcheck_f, hq, Option.bind_some, if_true, beq_self_eq_true]

end Go.Proofs.Ytkbodakmfllnpaa.Pure
