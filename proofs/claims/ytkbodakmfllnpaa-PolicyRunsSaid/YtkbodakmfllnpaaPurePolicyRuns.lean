/-
  Which kind there is behind each tally: the program tells what the reference tells.
  No condition.
-/
import Derived.Test.YtkbodakmfllnpaaGPolicyRunsx7
namespace Go.Proofs.Ytkbodakmfllnpaa.Pure
open Go.RowKit Go.Proofs.Ytkbodakmfllnpaa.GPolicyRuns Go.Proofs.YtkbodakmfllnpaaW.PrintWords Go.Proofs.YtkbodakmfllnpaaW.PrintLast Go.Proofs.YtkbodakmfllnpaaW.PrintMore

structure S23 where
  f0 : Bool
  f1 : Int
  f2 : Int
  f3 : Int
  f4 : Int
def k23 : Kd S23 := Kd.iso (Kd.pair Kd.bool (Kd.pair (Kd.int .i64) (Kd.pair (Kd.int .i64) (Kd.pair (Kd.int .i64) (Kd.int .i64))))) (fun x : S23 => (x.f0, x.f1, x.f2, x.f3, x.f4))
theorem k23_open {w : World} {x : S23} {cs : List Value} (h : k23.K w x cs) : cs = [.bool x.f0, .int .i64 x.f1, .int .i64 x.f2, .int .i64 x.f3, .int .i64 x.f4] := by
  obtain ⟨_, _, rfl, rfl, ⟨_, _, rfl, rfl, ⟨_, _, rfl, rfl, ⟨_, _, rfl, rfl, rfl⟩⟩⟩⟩ := h
  exact rfl
theorem k23_mk (w : World) (x : S23)  : k23.K w x [.bool x.f0, .int .i64 x.f1, .int .i64 x.f2, .int .i64 x.f3, .int .i64 x.f4] := ⟨[.bool x.f0], [.int .i64 x.f1, .int .i64 x.f2, .int .i64 x.f3, .int .i64 x.f4], rfl, rfl, ⟨[.int .i64 x.f1], [.int .i64 x.f2, .int .i64 x.f3, .int .i64 x.f4], rfl, rfl, ⟨[.int .i64 x.f2], [.int .i64 x.f3, .int .i64 x.f4], rfl, rfl, ⟨[.int .i64 x.f3], [.int .i64 x.f4], rfl, rfl, rfl⟩⟩⟩⟩
structure S33 where
  f0 : Int
  f1 : Int
def k33 : Kd S33 := Kd.iso (Kd.pair (Kd.int .i64) (Kd.int .i64)) (fun x : S33 => (x.f0, x.f1))
theorem k33_open {w : World} {x : S33} {cs : List Value} (h : k33.K w x cs) : cs = [.int .i64 x.f0, .int .i64 x.f1] := by
  obtain ⟨_, _, rfl, rfl, rfl⟩ := h
  exact rfl
theorem k33_mk (w : World) (x : S33)  : k33.K w x [.int .i64 x.f0, .int .i64 x.f1] := ⟨[.int .i64 x.f0], [.int .i64 x.f1], rfl, rfl, rfl⟩
def okS23 (x : S23) : Prop := (Lit.int .i64 x.f1).wf = true ∧ (Lit.int .i64 x.f2).wf = true ∧ (Lit.int .i64 x.f3).wf = true ∧ (Lit.int .i64 x.f4).wf = true
def okS25 (x : S25) : Prop := (Lit.int .i64 x.f0).wf = true ∧ (Lit.int .i64 x.f1).wf = true ∧ (Lit.int .i64 x.f2).wf = true ∧ (Lit.int .i64 x.f3).wf = true ∧ (Lit.int .i64 x.f4).wf = true
def okS33 (x : S33) : Prop := (Lit.int .i64 x.f0).wf = true ∧ (Lit.int .i64 x.f1).wf = true
theorem wrap64_in (n : Int) (h0 : -9223372036854775808 ≤ n) (h : n < 9223372036854775808) : wrap64 n = n := by unfold wrap64; omega
/-- Is what there is, or what was wanted, out of its bounds? -/
def nowB (now : Int) : Bool := decide (now < 0) || decide (4 < now)
def moodB (mw mf : Int) : Bool := decide (mw < 0) || decide (4 < mw) || decide (mf < 0) || decide (16 < mf)
/-- Are policy and tally as they should be? -/
def okPT (s l c m i0 i1 i2 i3 i4 : Int) : Bool := !badP s l c m && allT i0 i1 i2 i3 i4
/-- How often in a row, with this one. -/
def inRow (mw mf w : Int) : Int := if mw = w then mf + 1 else 1
/-- One step. -/
def stp (on : Bool) (s l c m mw mf now i0 i1 i2 i3 i4 : Int) : Int × Int × Bool × Int :=
  if okPT s l c m i0 i1 i2 i3 i4 = false then (0, 0, false, 1) else if nowB now = true then (0, 0, false, 7) else if moodB mw mf = true then (0, 0, false, 1) else if on = false then (0, 0, false, 0)
  else if wantK s l c i0 i1 i2 i4 = now then (wantK s l c i0 i1 i2 i4, 0, false, 0)
  else if inRow mw mf (wantK s l c i0 i1 i2 i4) ≥ m then (wantK s l c i0 i1 i2 i4, 0, true, 0) else (wantK s l c i0 i1 i2 i4, inRow mw mf (wantK s l c i0 i1 i2 i4), false, 0)
theorem wants_ok {s l c m i0 i1 i2 i3 i4 : Int} (on : Bool) (h : okPT s l c m i0 i1 i2 i3 i4 = true) : policy_Wants.f on s l c m i0 i1 i2 i3 i4 = some (wantK s l c i0 i1 i2 i4, 0) := by
  unfold okPT at h
  cases hb : badP s l c m with
  | true => rw [hb] at h; cases h
  | false =>
    cases ha : allT i0 i1 i2 i3 i4 with
    | false => rw [hb, ha] at h; cases h
    | true => unfold policy_Wants.f; rw [hb, ha]; rfl
theorem wants_no {s l c m i0 i1 i2 i3 i4 : Int} (on : Bool) (h : okPT s l c m i0 i1 i2 i3 i4 = false) : policy_Wants.f on s l c m i0 i1 i2 i3 i4 = some (0, 1) := by
  unfold okPT at h
  cases hb : badP s l c m with
  | true => unfold policy_Wants.f; rw [hb]; rfl
  | false =>
    cases ha : allT i0 i1 i2 i3 i4 with
    | true => rw [hb, ha] at h; cases h
    | false => unfold policy_Wants.f; rw [hb, ha]; rfl
theorem ok_good {s l c m i0 i1 i2 i3 i4 : Int} (h : okPT s l c m i0 i1 i2 i3 i4 = true) : badP s l c m = false := by
  unfold okPT at h
  cases hb : badP s l c m with
  | true => rw [hb] at h; cases h
  | false => rfl
theorem wantK_range (s l c i0 i1 i2 i4 : Int) : 0 ≤ wantK s l c i0 i1 i2 i4 ∧ wantK s l c i0 i1 i2 i4 ≤ 4 := by
  unfold wantK
  (repeat' split) <;> omega
theorem mood_yes {mw mf : Int} (h : moodB mw mf = false) : 0 ≤ mw ∧ mw ≤ 4 ∧ 0 ≤ mf ∧ mf ≤ 16 := by
  unfold moodB at h; simp at h; omega
theorem mood_no {mw mf : Int} (h : 0 ≤ mw ∧ mw ≤ 4 ∧ 0 ≤ mf ∧ mf ≤ 16) : moodB mw mf = false := by
  unfold moodB; simp; omega
theorem now_no {n : Int} (h : 0 ≤ n ∧ n ≤ 4) : nowB n = false := by
  unfold nowB; simp; omega
theorem now_yes {n : Int} (h : nowB n = false) : 0 ≤ n ∧ n ≤ 4 := by
  unfold nowB at h; simp at h; omega
theorem wrong_f (k : Nat) (mw mf now : Int) (hk : 1 ≤ k) : policy_wrong.f k mw mf now = some (if nowB now = true then 7 else if moodB mw mf = true then 1 else 0) := by
  obtain ⟨k, rfl⟩ : ∃ m, k = m + 1 := ⟨k - 1, by omega⟩
  unfold policy_wrong.f nowB moodB
  by_cases h1 : now < 0
  · rw [if_pos h1]; simp [policy_wrong.j0, h1]
  rw [if_neg h1]
  by_cases h2 : 4 < now
  · simp [policy_wrong.j0, h1, h2]
  by_cases h3 : mw < 0
  · simp [policy_wrong.j0, h1, h2, h3]
  by_cases h4 : 4 < mw
  · simp [policy_wrong.j0, h1, h2, h3, h4]
  by_cases h5 : mf < 0
  · simp [policy_wrong.j0, h1, h2, h3, h4, h5]
  by_cases h6 : 16 < mf
  · simp [policy_wrong.j0, h1, h2, h3, h4, h5, h6]
  simp [policy_wrong.j0, h1, h2, h3, h4, h5, h6]
theorem step_f (k : Nat) (on : Bool) (s l c m mw mf now i0 i1 i2 i3 i4 : Int) (hk : 5 ≤ k) : policy_Step.f k on s l c m mw mf now i0 i1 i2 i3 i4 = some (stp on s l c m mw mf now i0 i1 i2 i3 i4) := by
  obtain ⟨k, rfl⟩ : ∃ q, k = q + 1 + 1 := ⟨k - 2, by omega⟩
  unfold policy_Step.f stp
  cases h : okPT s l c m i0 i1 i2 i3 i4 with
  | false =>
    rw [wants_no on h, Option.bind_some, if_neg (by decide), if_pos rfl]
    simp -implicitDefEqProofs [policy_Step.j0, policy_Step.j1]
  | true =>
    have hg := good_range (ok_good h)
    rw [wants_ok on h, Option.bind_some, if_pos rfl, wrong_f _ _ _ _ (by omega), Option.bind_some]
    generalize wantK s l c i0 i1 i2 i4 = w
    have hm0 : ¬ m ≤ 0 := by omega
    cases h1 : nowB now with
    | true => simp -implicitDefEqProofs [policy_Step.j0, policy_Step.j1]
    | false =>
      cases h2 : moodB mw mf with
      | true => simp -implicitDefEqProofs [policy_Step.j0, policy_Step.j1]
      | false =>
        have hm := mood_yes h2
        cases on with
        | false => simp -implicitDefEqProofs [policy_Step.j0, policy_Step.j1]
        | true =>
          unfold inRow
          by_cases hw : w = now
          · simp -implicitDefEqProofs [policy_Step.j0, policy_Step.j1, hw, hm0]
          · by_cases hmw : mw = w
            · have hwr : wrap64 (1 + mf) = mf + 1 := by rw [wrap64_in _ (by omega) (by omega)]; omega
              by_cases hc : m ≤ mf + 1
              · simp -implicitDefEqProofs [policy_Step.j0, policy_Step.j1, hw, hmw, hwr, hc]
              · simp -implicitDefEqProofs [policy_Step.j0, policy_Step.j1, hw, hmw, hwr, hc]
            · by_cases hc : m ≤ 1
              · simp -implicitDefEqProofs [policy_Step.j0, policy_Step.j1, hw, hmw, hc]
              · simp -implicitDefEqProofs [policy_Step.j0, policy_Step.j1, hw, hmw, hc]
/-- All steps. -/
def rn (on : Bool) (s l c m : Int) : Int → Int → Int → List S25 → List Int → List Int × Int
  | _, _, _, [], out => (out, 0)
  | now, mw, mf, t :: ts, out =>
    if (stp on s l c m mw mf now t.f0 t.f1 t.f2 t.f3 t.f4).2.2.2 = 0 then
      rn on s l c m (if (stp on s l c m mw mf now t.f0 t.f1 t.f2 t.f3 t.f4).2.2.1 = true then (stp on s l c m mw mf now t.f0 t.f1 t.f2 t.f3 t.f4).1 else now) (stp on s l c m mw mf now t.f0 t.f1 t.f2 t.f3 t.f4).1 (stp on s l c m mw mf now t.f0 t.f1 t.f2 t.f3 t.f4).2.1 ts
        (out ++ [if (stp on s l c m mw mf now t.f0 t.f1 t.f2 t.f3 t.f4).2.2.1 = true then (stp on s l c m mw mf now t.f0 t.f1 t.f2 t.f3 t.f4).1 else now])
    else ([], (stp on s l c m mw mf now t.f0 t.f1 t.f2 t.f3 t.f4).2.2.2)
theorem go_f (k : Nat) (on : Bool) (s l c m : Int) (hk : 5 ≤ k) : ∀ (ts : List S25) (now mw mf : Int) (out : List Int), run_go k on s l c m now mw mf ts out = some (rn on s l c m now mw mf ts out)
  | [], _, _, _, _ => rfl
  | t :: ts, now, mw, mf, out => by
    simp -implicitDefEqProofs only [run_go, rn, step_f k _ _ _ _ _ _ _ _ _ _ _ _ _ hk, Option.bind_some]
    rw [go_f k on s l c m hk ts]
    by_cases h : (stp on s l c m mw mf now t.f0 t.f1 t.f2 t.f3 t.f4).2.2.2 = 0
    · rw [if_pos h, if_pos h]
    · rw [if_neg h, if_neg h]
theorem run_f (k : Nat) (on : Bool) (s l c m now : Int) (ts : List S25) (hk : 5 ≤ k) (h : ts.length ≤ 1000) : policy_Run.f k on s l c m now ts = some (rn on s l c m now 0 0 ts []) := by
  unfold policy_Run.f
  rw [if_pos (by omega)]
  exact go_f k on s l c m hk ts now 0 0 []
theorem works_f (k : Nat) (hk : 64 ≤ k) : complinelaw15_works.f k = some true := at_rounds complinelaw15_works.mono hk (by decide +kernel)
theorem rwants_ok {s l c m i0 i1 i2 i3 i4 : Int} (on : Bool) : complineref15_Wants.f on s l c m i0 i1 i2 i3 i4 = policy_Wants.f on s l c m i0 i1 i2 i3 i4 := rfl
theorem rstep_f (k : Nat) (on : Bool) (s l c m mw mf now i0 i1 i2 i3 i4 : Int) (hk : 5 ≤ k) : complineref15_Step.f k on s l c m mw mf now i0 i1 i2 i3 i4 = some (stp on s l c m mw mf now i0 i1 i2 i3 i4) := by
  obtain ⟨k, rfl⟩ : ∃ q, k = q + 1 + 1 := ⟨k - 2, by omega⟩
  unfold complineref15_Step.f stp
  rw [rwants_ok]
  cases h : okPT s l c m i0 i1 i2 i3 i4 with
  | false =>
    rw [wants_no on h, Option.bind_some, if_neg (by decide), if_pos rfl]
  | true =>
    rw [wants_ok on h, Option.bind_some, if_pos rfl]
    generalize wantK s l c i0 i1 i2 i4 = w
    by_cases n1 : now < 0
    · have : nowB now = true := by unfold nowB; simp [n1]
      simp -implicitDefEqProofs [complineref15_Step.j0, n1, this]
    by_cases n2 : 4 < now
    · have : nowB now = true := by unfold nowB; simp [n2]
      simp -implicitDefEqProofs [complineref15_Step.j0, n1, n2, this]
    have hn : nowB now = false := by unfold nowB; simp; omega
    by_cases m1 : mw < 0
    · have : moodB mw mf = true := by unfold moodB; simp [m1]
      simp -implicitDefEqProofs [complineref15_Step.j0, complineref15_Step.j1, n1, n2, hn, m1, this]
    by_cases m2 : 4 < mw
    · have : moodB mw mf = true := by unfold moodB; simp [m2]
      simp -implicitDefEqProofs [complineref15_Step.j0, complineref15_Step.j1, n1, n2, hn, m1, m2, this]
    by_cases m3 : mf < 0
    · have : moodB mw mf = true := by unfold moodB; simp [m3]
      simp -implicitDefEqProofs [complineref15_Step.j0, complineref15_Step.j1, n1, n2, hn, m1, m2, m3, this]
    by_cases m4 : 16 < mf
    · have : moodB mw mf = true := by unfold moodB; simp [m4]
      simp -implicitDefEqProofs [complineref15_Step.j0, complineref15_Step.j1, n1, n2, hn, m1, m2, m3, m4, this]
    have hm : moodB mw mf = false := mood_no (by omega)
    cases on with
    | false => simp -implicitDefEqProofs [complineref15_Step.j0, complineref15_Step.j1, n1, n2, hn, m1, m2, m3, m4, hm]
    | true =>
      unfold inRow
      by_cases hw : w = now
      · simp -implicitDefEqProofs [complineref15_Step.j0, complineref15_Step.j1, n1, n2, hn, m1, m2, m3, m4, hm, hw]
      · by_cases hmw : mw = w
        · have hwr : wrap64 (mf + 1) = mf + 1 := wrap64_in _ (by omega) (by omega)
          subst hmw
          by_cases hc : m ≤ mf + 1
          · simp -implicitDefEqProofs [complineref15_Step.j0, complineref15_Step.j1, n1, n2, hn, m1, m2, m3, m4, hm, hw, hwr, hc]
          · simp -implicitDefEqProofs [complineref15_Step.j0, complineref15_Step.j1, n1, n2, hn, m1, m2, m3, m4, hm, hw, hwr, hc]
        · by_cases hc : m ≤ 1
          · simp -implicitDefEqProofs [complineref15_Step.j0, complineref15_Step.j1, n1, n2, hn, m1, m2, m3, m4, hm, hw, hmw, hc]
          · simp -implicitDefEqProofs [complineref15_Step.j0, complineref15_Step.j1, n1, n2, hn, m1, m2, m3, m4, hm, hw, hmw, hc]
theorem rd_at (l : List S25) (j : Nat) (h : j < l.length) : rd_T25 l (j : Int) = l[j] := by
  unfold rd_T25
  rw [Int.toNat_natCast, List.getD_eq_getElem?_getD, List.getElem?_eq_getElem h]; rfl
theorem rrun_l (on : Bool) (s l c m : Int) (L : List S25) (hL : L.length ≤ 100) (d : Nat) : ∀ (k i : Nat) (now mw mf : Int) (out : List Int), i + d = L.length → d + 10 < k → out.length = i →
    complineref15_Run.l0 k now L out i on s l c m mw mf = some (rn on s l c m now mw mf (L.drop i) out) := by
  induction d with
  | zero =>
    intro k i now mw mf out hi hk ho
    obtain ⟨k, rfl⟩ : ∃ q, k = q + 1 := ⟨k - 1, by omega⟩
    rw [List.drop_eq_nil_of_le (by omega)]
    simp -implicitDefEqProofs only [complineref15_Run.l0, rn]
    rw [if_neg (by omega)]
  | succ d ih =>
    intro k i now mw mf out hi hk ho
    obtain ⟨k, rfl⟩ : ∃ q, k = q + 1 := ⟨k - 1, by omega⟩
    have hlt : i < L.length := by omega
    rw [List.drop_eq_getElem_cons hlt]
    simp -implicitDefEqProofs only [complineref15_Run.l0, rn]
    rw [if_pos (by omega), if_pos (by omega), rd_at L i hlt, rstep_f k _ _ _ _ _ _ _ _ _ _ _ _ _ (by omega), Option.bind_some]
    generalize stp on s l c m mw mf now L[i].f0 L[i].f1 L[i].f2 L[i].f3 L[i].f4 = q
    by_cases h0 : q.2.2.2 = 0
    · rw [if_pos h0, if_pos h0]
      have e : wrap64 ((i : Int) + 1) = ((i + 1 : Nat) : Int) := by rw [wrap64_in _ (by omega) (by omega)]; omega
      by_cases ht : q.2.2.1 = true
      · simp -implicitDefEqProofs only [if_pos ht]
        rw [if_pos (by omega), e]
        exact ih k (i + 1) _ _ _ _ (by omega) (by omega) (by simp [ho])
      · simp -implicitDefEqProofs only [if_neg ht]
        rw [if_pos (by omega), e]
        exact ih k (i + 1) _ _ _ _ (by omega) (by omega) (by simp [ho])
    · rw [if_neg h0, if_neg h0]
theorem rn_len (on : Bool) (s l c m : Int) : ∀ (ts : List S25) (now mw mf : Int) (out : List Int), (rn on s l c m now mw mf ts out).1.length ≤ out.length + ts.length
  | [], _, _, _, out => by simp [rn]
  | t :: ts, now, mw, mf, out => by
    simp -implicitDefEqProofs only [rn]
    by_cases h : (stp on s l c m mw mf now t.f0 t.f1 t.f2 t.f3 t.f4).2.2.2 = 0
    · rw [if_pos h]
      refine Nat.le_trans (rn_len on s l c m ts _ _ _ _) ?_
      simp; omega
    · rw [if_neg h]; simp
theorem same_l (a : List Int) (ha : a.length ≤ 1000) (d : Nat) : ∀ (k i : Nat), i + d = a.length → d + 1 < k → complineref02_Same.l0 k a a i = some true := by
  induction d with
  | zero =>
    intro k i hi hk
    obtain ⟨k, rfl⟩ : ∃ q, k = q + 1 := ⟨k - 1, by omega⟩
    simp -implicitDefEqProofs only [complineref02_Same.l0]
    rw [if_neg (by omega)]
  | succ d ih =>
    intro k i hi hk
    obtain ⟨k, rfl⟩ : ∃ q, k = q + 1 := ⟨k - 1, by omega⟩
    simp -implicitDefEqProofs only [complineref02_Same.l0, if_true]
    rw [if_pos (by omega), if_pos (by omega), if_pos (by omega), show (i : Int) + 1 = ((i + 1 : Nat) : Int) by omega, wrap64_in _ (by omega) (by omega)]
    exact ih k (i + 1) (by omega) (by omega)
theorem PolicyRuns (p : S23) (now : Int) (L : List S25) (_ : okS23 p) (_ : (Lit.int .i64 now).wf = true) (_ : L.length * 40 ≤ 140737488351232) (_ : ∀ x ∈ L, okS25 x) : ∃ k, complinelaw15_PolicyRuns.f k p.f0 p.f1 p.f2 p.f3 p.f4 now L = some true := by
  refine ⟨400, ?_⟩
  by_cases hL : L.length > 100
  · simp -implicitDefEqProofs only [complinelaw15_PolicyRuns.f, works_f 400 (by omega), Option.bind_some, if_true]
    rw [if_pos (by omega)]
  have h1 := run_f 400 p.f0 p.f1 p.f2 p.f3 p.f4 now L (by omega) (by omega)
  have h2 := rrun_l p.f0 p.f1 p.f2 p.f3 p.f4 L (by omega) L.length 400 0 now 0 0 [] (by omega) (by omega) rfl
  have h3 : complineref15_Run.f 400 p.f0 p.f1 p.f2 p.f3 p.f4 now L = some (rn p.f0 p.f1 p.f2 p.f3 p.f4 now 0 0 L []) := h2
  have hl := rn_len p.f0 p.f1 p.f2 p.f3 p.f4 L now 0 0 []
  rw [List.length_nil] at hl
  have h4 : complineref02_Same.f 400 (rn p.f0 p.f1 p.f2 p.f3 p.f4 now 0 0 L []).1 (rn p.f0 p.f1 p.f2 p.f3 p.f4 now 0 0 L []).1 = some true := by
    unfold complineref02_Same.f
    rw [if_pos rfl]
    exact same_l _ (by omega) _ 400 0 (Nat.zero_add _) (by omega)
  simp -implicitDefEqProofs only [complinelaw15_PolicyRuns.f, works_f 400 (by omega), h1, h3, h4, Option.bind_some, if_true, beq_self_eq_true]
  rw [if_neg (by omega)]

end Go.Proofs.Ytkbodakmfllnpaa.Pure
