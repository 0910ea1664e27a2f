/-
  If the same is wanted again and again, it is taken behind Calm tallies, and stays; if the policy is not on, nothing is.
  No condition.
-/
import Derived.Test.YtkbodakmfllnpaaGPolicyStaysx4
namespace Go.Proofs.Ytkbodakmfllnpaa.Pure
open Go.RowKit Go.Proofs.Ytkbodakmfllnpaa.GPolicyStays Go.Proofs.YtkbodakmfllnpaaW.PrintWords Go.Proofs.YtkbodakmfllnpaaW.PrintLast Go.Proofs.YtkbodakmfllnpaaW.PrintMore

structure S23 where
  f0 : Bool
  f1 : Int
  f2 : Int
  f3 : Int
  f4 : Int
def k23 : Kd S23 := Kd.iso (Kd.pair Kd.bool (Kd.pair (Kd.int .i64) (Kd.pair (Kd.int .i64) (Kd.pair (Kd.int .i64) (Kd.int .i64))))) (fun x : S23 => (x.f0, x.f1, x.f2, x.f3, x.f4))
theorem k23_open {w : World} {x : S23} {cs : List Value} (h : k23.K w x cs) : cs = [.bool x.f0, .int .i64 x.f1, .int .i64 x.f2, .int .i64 x.f3, .int .i64 x.f4] := by
  obtain ⟨_, _, rfl, rfl, ⟨_, _, rfl, rfl, ⟨_, _, rfl, rfl, ⟨_, _, rfl, rfl, rfl⟩⟩⟩⟩ := h
  exact rfl
theorem k23_mk (w : World) (x : S23)  : k23.K w x [.bool x.f0, .int .i64 x.f1, .int .i64 x.f2, .int .i64 x.f3, .int .i64 x.f4] := ⟨[.bool x.f0], [.int .i64 x.f1, .int .i64 x.f2, .int .i64 x.f3, .int .i64 x.f4], rfl, rfl, ⟨[.int .i64 x.f1], [.int .i64 x.f2, .int .i64 x.f3, .int .i64 x.f4], rfl, rfl, ⟨[.int .i64 x.f2], [.int .i64 x.f3, .int .i64 x.f4], rfl, rfl, ⟨[.int .i64 x.f3], [.int .i64 x.f4], rfl, rfl, rfl⟩⟩⟩⟩
structure S33 where
  f0 : Int
  f1 : Int
def k33 : Kd S33 := Kd.iso (Kd.pair (Kd.int .i64) (Kd.int .i64)) (fun x : S33 => (x.f0, x.f1))
theorem k33_open {w : World} {x : S33} {cs : List Value} (h : k33.K w x cs) : cs = [.int .i64 x.f0, .int .i64 x.f1] := by
  obtain ⟨_, _, rfl, rfl, rfl⟩ := h
  exact rfl
theorem k33_mk (w : World) (x : S33)  : k33.K w x [.int .i64 x.f0, .int .i64 x.f1] := ⟨[.int .i64 x.f0], [.int .i64 x.f1], rfl, rfl, rfl⟩
def okS23 (x : S23) : Prop := (Lit.int .i64 x.f1).wf = true ∧ (Lit.int .i64 x.f2).wf = true ∧ (Lit.int .i64 x.f3).wf = true ∧ (Lit.int .i64 x.f4).wf = true
def okS25 (x : S25) : Prop := (Lit.int .i64 x.f0).wf = true ∧ (Lit.int .i64 x.f1).wf = true ∧ (Lit.int .i64 x.f2).wf = true ∧ (Lit.int .i64 x.f3).wf = true ∧ (Lit.int .i64 x.f4).wf = true
def okS33 (x : S33) : Prop := (Lit.int .i64 x.f0).wf = true ∧ (Lit.int .i64 x.f1).wf = true
theorem wrap64_in (n : Int) (h0 : -9223372036854775808 ≤ n) (h : n < 9223372036854775808) : wrap64 n = n := by unfold wrap64; omega
/-- Is what there is, or what was wanted, out of its bounds? -/
def nowB (now : Int) : Bool := decide (now < 0) || decide (4 < now)
def moodB (mw mf : Int) : Bool := decide (mw < 0) || decide (4 < mw) || decide (mf < 0) || decide (16 < mf)
/-- Are policy and tally as they should be? -/
def okPT (s l c m i0 i1 i2 i3 i4 : Int) : Bool := !badP s l c m && allT i0 i1 i2 i3 i4
/-- How often in a row, with this one. -/
def inRow (mw mf w : Int) : Int := if mw = w then mf + 1 else 1
/-- One step. -/
def stp (on : Bool) (s l c m mw mf now i0 i1 i2 i3 i4 : Int) : Int × Int × Bool × Int :=
  if okPT s l c m i0 i1 i2 i3 i4 = false then (0, 0, false, 1) else if nowB now = true then (0, 0, false, 7) else if moodB mw mf = true then (0, 0, false, 1) else if on = false then (0, 0, false, 0)
  else if wantK s l c i0 i1 i2 i4 = now then (wantK s l c i0 i1 i2 i4, 0, false, 0)
  else if inRow mw mf (wantK s l c i0 i1 i2 i4) ≥ m then (wantK s l c i0 i1 i2 i4, 0, true, 0) else (wantK s l c i0 i1 i2 i4, inRow mw mf (wantK s l c i0 i1 i2 i4), false, 0)
theorem wants_ok {s l c m i0 i1 i2 i3 i4 : Int} (on : Bool) (h : okPT s l c m i0 i1 i2 i3 i4 = true) : policy_Wants.f on s l c m i0 i1 i2 i3 i4 = some (wantK s l c i0 i1 i2 i4, 0) := by
  unfold okPT at h
  cases hb : badP s l c m with
  | true => rw [hb] at h; cases h
  | false =>
    cases ha : allT i0 i1 i2 i3 i4 with
    | false => rw [hb, ha] at h; cases h
    | true => unfold policy_Wants.f; rw [hb, ha]; rfl
theorem wants_no {s l c m i0 i1 i2 i3 i4 : Int} (on : Bool) (h : okPT s l c m i0 i1 i2 i3 i4 = false) : policy_Wants.f on s l c m i0 i1 i2 i3 i4 = some (0, 1) := by
  unfold okPT at h
  cases hb : badP s l c m with
  | true => unfold policy_Wants.f; rw [hb]; rfl
  | false =>
    cases ha : allT i0 i1 i2 i3 i4 with
    | true => rw [hb, ha] at h; cases h
    | false => unfold policy_Wants.f; rw [hb, ha]; rfl
theorem ok_good {s l c m i0 i1 i2 i3 i4 : Int} (h : okPT s l c m i0 i1 i2 i3 i4 = true) : badP s l c m = false := by
  unfold okPT at h
  cases hb : badP s l c m with
  | true => rw [hb] at h; cases h
  | false => rfl
theorem wantK_range (s l c i0 i1 i2 i4 : Int) : 0 ≤ wantK s l c i0 i1 i2 i4 ∧ wantK s l c i0 i1 i2 i4 ≤ 4 := by
  unfold wantK
  (repeat' split) <;> omega
theorem mood_yes {mw mf : Int} (h : moodB mw mf = false) : 0 ≤ mw ∧ mw ≤ 4 ∧ 0 ≤ mf ∧ mf ≤ 16 := by
  unfold moodB at h; simp at h; omega
theorem mood_no {mw mf : Int} (h : 0 ≤ mw ∧ mw ≤ 4 ∧ 0 ≤ mf ∧ mf ≤ 16) : moodB mw mf = false := by
  unfold moodB; simp; omega
theorem now_no {n : Int} (h : 0 ≤ n ∧ n ≤ 4) : nowB n = false := by
  unfold nowB; simp; omega
theorem now_yes {n : Int} (h : nowB n = false) : 0 ≤ n ∧ n ≤ 4 := by
  unfold nowB at h; simp at h; omega
theorem wrong_f (k : Nat) (mw mf now : Int) (hk : 1 ≤ k) : policy_wrong.f k mw mf now = some (if nowB now = true then 7 else if moodB mw mf = true then 1 else 0) := by
  obtain ⟨k, rfl⟩ : ∃ m, k = m + 1 := ⟨k - 1, by omega⟩
  unfold policy_wrong.f nowB moodB
  by_cases h1 : now < 0
  · rw [if_pos h1]; simp [policy_wrong.j0, h1]
  rw [if_neg h1]
  by_cases h2 : 4 < now
  · simp [policy_wrong.j0, h1, h2]
  by_cases h3 : mw < 0
  · simp [policy_wrong.j0, h1, h2, h3]
  by_cases h4 : 4 < mw
  · simp [policy_wrong.j0, h1, h2, h3, h4]
  by_cases h5 : mf < 0
  · simp [policy_wrong.j0, h1, h2, h3, h4, h5]
  by_cases h6 : 16 < mf
  · simp [policy_wrong.j0, h1, h2, h3, h4, h5, h6]
  simp [policy_wrong.j0, h1, h2, h3, h4, h5, h6]
theorem step_f (k : Nat) (on : Bool) (s l c m mw mf now i0 i1 i2 i3 i4 : Int) (hk : 5 ≤ k) : policy_Step.f k on s l c m mw mf now i0 i1 i2 i3 i4 = some (stp on s l c m mw mf now i0 i1 i2 i3 i4) := by
  obtain ⟨k, rfl⟩ : ∃ q, k = q + 1 + 1 := ⟨k - 2, by omega⟩
  unfold policy_Step.f stp
  cases h : okPT s l c m i0 i1 i2 i3 i4 with
  | false =>
    rw [wants_no on h, Option.bind_some, if_neg (by decide), if_pos rfl]
    simp -implicitDefEqProofs [policy_Step.j0, policy_Step.j1]
  | true =>
    have hg := good_range (ok_good h)
    rw [wants_ok on h, Option.bind_some, if_pos rfl, wrong_f _ _ _ _ (by omega), Option.bind_some]
    generalize wantK s l c i0 i1 i2 i4 = w
    have hm0 : ¬ m ≤ 0 := by omega
    cases h1 : nowB now with
    | true => simp -implicitDefEqProofs [policy_Step.j0, policy_Step.j1]
    | false =>
      cases h2 : moodB mw mf with
      | true => simp -implicitDefEqProofs [policy_Step.j0, policy_Step.j1]
      | false =>
        have hm := mood_yes h2
        cases on with
        | false => simp -implicitDefEqProofs [policy_Step.j0, policy_Step.j1]
        | true =>
          unfold inRow
          by_cases hw : w = now
          · simp -implicitDefEqProofs [policy_Step.j0, policy_Step.j1, hw, hm0]
          · by_cases hmw : mw = w
            · have hwr : wrap64 (1 + mf) = mf + 1 := by rw [wrap64_in _ (by omega) (by omega)]; omega
              by_cases hc : m ≤ mf + 1
              · simp -implicitDefEqProofs [policy_Step.j0, policy_Step.j1, hw, hmw, hwr, hc]
              · simp -implicitDefEqProofs [policy_Step.j0, policy_Step.j1, hw, hmw, hwr, hc]
            · by_cases hc : m ≤ 1
              · simp -implicitDefEqProofs [policy_Step.j0, policy_Step.j1, hw, hmw, hc]
              · simp -implicitDefEqProofs [policy_Step.j0, policy_Step.j1, hw, hmw, hc]
/-- All steps. -/
def rn (on : Bool) (s l c m : Int) : Int → Int → Int → List S25 → List Int → List Int × Int
  | _, _, _, [], out => (out, 0)
  | now, mw, mf, t :: ts, out =>
    if (stp on s l c m mw mf now t.f0 t.f1 t.f2 t.f3 t.f4).2.2.2 = 0 then
      rn on s l c m (if (stp on s l c m mw mf now t.f0 t.f1 t.f2 t.f3 t.f4).2.2.1 = true then (stp on s l c m mw mf now t.f0 t.f1 t.f2 t.f3 t.f4).1 else now) (stp on s l c m mw mf now t.f0 t.f1 t.f2 t.f3 t.f4).1 (stp on s l c m mw mf now t.f0 t.f1 t.f2 t.f3 t.f4).2.1 ts
        (out ++ [if (stp on s l c m mw mf now t.f0 t.f1 t.f2 t.f3 t.f4).2.2.1 = true then (stp on s l c m mw mf now t.f0 t.f1 t.f2 t.f3 t.f4).1 else now])
    else ([], (stp on s l c m mw mf now t.f0 t.f1 t.f2 t.f3 t.f4).2.2.2)
theorem go_f (k : Nat) (on : Bool) (s l c m : Int) (hk : 5 ≤ k) : ∀ (ts : List S25) (now mw mf : Int) (out : List Int), run_go k on s l c m now mw mf ts out = some (rn on s l c m now mw mf ts out)
  | [], _, _, _, _ => rfl
  | t :: ts, now, mw, mf, out => by
    simp -implicitDefEqProofs only [run_go, rn, step_f k _ _ _ _ _ _ _ _ _ _ _ _ _ hk, Option.bind_some]
    rw [go_f k on s l c m hk ts]
    by_cases h : (stp on s l c m mw mf now t.f0 t.f1 t.f2 t.f3 t.f4).2.2.2 = 0
    · rw [if_pos h, if_pos h]
    · rw [if_neg h, if_neg h]
theorem run_f (k : Nat) (on : Bool) (s l c m now : Int) (ts : List S25) (hk : 5 ≤ k) (h : ts.length ≤ 1000) : policy_Run.f k on s l c m now ts = some (rn on s l c m now 0 0 ts []) := by
  unfold policy_Run.f
  rw [if_pos (by omega)]
  exact go_f k on s l c m hk ts now 0 0 []
theorem works_f (k : Nat) (hk : 64 ≤ k) : complinelaw15_works.f k = some true := at_rounds complinelaw15_works.mono hk (by decide +kernel)
theorem reps_app (t : S25) (n : Nat) : List.replicate n t ++ [t] = List.replicate (n + 1) t := by
  rw [← List.replicate_succ']
/-- What there is behind step i. -/
def outAt (on : Bool) (m now w : Int) (i : Nat) : Int := if on = true ∧ (i : Int) + 1 ≥ m then w else now
theorem stays_rn (on : Bool) (s l c m now : Int) (t : S25) (hok : okPT s l c m t.f0 t.f1 t.f2 t.f3 t.f4 = true) (_ : 0 ≤ now) (_ : now ≤ 4) : ∀ (n i : Nat) (cur mw mf : Int) (out : List Int), moodB mw mf = false → nowB cur = false →
    (on = false → cur = now) → (on = true → m ≤ i → cur = wantK s l c t.f0 t.f1 t.f2 t.f4) → (on = true → (i : Int) < m → cur = now ∧ (now ≠ wantK s l c t.f0 t.f1 t.f2 t.f4 → mf = i ∧ (mw = wantK s l c t.f0 t.f1 t.f2 t.f4 ∨ i = 0))) →
    ∃ o : List Int, rn on s l c m cur mw mf (List.replicate n t) out = (out ++ o, 0) ∧ o.length = n ∧ ∀ j, j < n → o.getD j 0 = outAt on m now (wantK s l c t.f0 t.f1 t.f2 t.f4) (i + j) := by
  have hg := good_range (ok_good hok)
  have hw := wantK_range s l c t.f0 t.f1 t.f2 t.f4
  intro n
  induction n with
  | zero => intro i cur mw mf out _ _ _ _ _; exact ⟨[], by simp [rn], rfl, fun j hj => by omega⟩
  | succ n ih =>
    intro i cur mw mf out hmd hnb hoff hge hlt
    rw [List.replicate_succ]
    have fin : ∀ (cur' mw' mf' : Int), stp on s l c m mw mf cur t.f0 t.f1 t.f2 t.f3 t.f4 = (mw', mf', decide (cur' ≠ cur), 0) → (cur' ≠ cur → cur' = mw') → moodB mw' mf' = false → nowB cur' = false → cur' = outAt on m now (wantK s l c t.f0 t.f1 t.f2 t.f4) i →
        (on = false → cur' = now) → (on = true → m ≤ (i + 1 : Nat) → cur' = wantK s l c t.f0 t.f1 t.f2 t.f4) → (on = true → ((i + 1 : Nat) : Int) < m → cur' = now ∧ (now ≠ wantK s l c t.f0 t.f1 t.f2 t.f4 → mf' = (i + 1 : Nat) ∧ (mw' = wantK s l c t.f0 t.f1 t.f2 t.f4 ∨ i + 1 = 0))) →
        ∃ o : List Int, rn on s l c m cur mw mf (t :: List.replicate n t) out = (out ++ o, 0) ∧ o.length = n + 1 ∧ ∀ j, j < n + 1 → o.getD j 0 = outAt on m now (wantK s l c t.f0 t.f1 t.f2 t.f4) (i + j) := by
      intro cur' mw' mf' hs hcm a1 a2 a3 a4 a5 a6
      have hc : (if decide (cur' ≠ cur) = true then mw' else cur) = cur' := by
        by_cases h : cur' = cur
        · simp [h]
        · rw [if_pos (decide_eq_true h)]; exact (hcm h).symm
      obtain ⟨o, e, el, ev⟩ := ih (i + 1) cur' mw' mf' (out ++ [cur']) a1 a2 a4 a5 a6
      refine ⟨cur' :: o, ?_, by simp [el], ?_⟩
      · simp -implicitDefEqProofs only [rn, hs, hc, if_true, e, List.append_assoc, List.singleton_append]
      · intro j hj
        cases j with
        | zero => exact a3
        | succ j =>
          have := ev j (by omega)
          rw [show i + 1 + j = i + (j + 1) by omega] at this
          exact this
    cases hon : on with
    | false =>
      rw [← hon]
      refine fin cur 0 0 ?_ (fun h => absurd rfl h) (by decide) hnb ?_ hoff (fun h => by rw [hon] at h; cases h) (fun h => by rw [hon] at h; cases h)
      · simp [stp, hok, hnb, hmd, hon]
      · simp [outAt, hon, hoff hon]
    | true =>
      rw [← hon]
      by_cases hwc : wantK s l c t.f0 t.f1 t.f2 t.f4 = cur
      · refine fin cur (wantK s l c t.f0 t.f1 t.f2 t.f4) 0 ?_ (fun h => absurd rfl h) (mood_no (by omega)) hnb ?_ hoff (fun _ _ => hwc.symm) ?_
        · simp [stp, hok, hnb, hmd, hon, hwc]
        · unfold outAt
          by_cases h : (i : Int) + 1 ≥ m
          · rw [if_pos ⟨hon, h⟩]; exact hwc.symm
          · rw [if_neg (fun q => h q.2)]; exact (hlt hon (by omega)).1
        · intro _ h
          have := (hlt hon (by omega)).1
          exact ⟨this, fun q => absurd (by rw [← this, hwc]) q⟩
      · have hi : (i : Int) < m := by
          by_cases h : m ≤ i
          · exact absurd (hge hon h).symm hwc
          · omega
        obtain ⟨hcn, hrest⟩ := hlt hon hi
        obtain ⟨hmf, hmw⟩ := hrest (fun q => hwc (by rw [hcn]; exact q.symm))
        have hin : inRow mw mf (wantK s l c t.f0 t.f1 t.f2 t.f4) = i + 1 := by
          unfold inRow
          by_cases h : mw = wantK s l c t.f0 t.f1 t.f2 t.f4
          · rw [if_pos h, hmf]
          · rw [if_neg h]
            cases hmw with
            | inl q => exact absurd q h
            | inr q => omega
        by_cases h : (i : Int) + 1 ≥ m
        · refine fin (wantK s l c t.f0 t.f1 t.f2 t.f4) (wantK s l c t.f0 t.f1 t.f2 t.f4) 0 ?_ (fun _ => rfl) (mood_no (by omega)) (now_no hw) ?_ (fun q => by rw [hon] at q; cases q) (fun _ _ => rfl) (fun _ q => by omega)
          · simp only [stp, hok, hnb, hmd, hon, hin, if_neg hwc, if_pos h, Bool.true_eq_false, Bool.false_eq_true, if_false]
            simp [hwc]
          · unfold outAt; rw [if_pos ⟨hon, h⟩]
        · refine fin cur (wantK s l c t.f0 t.f1 t.f2 t.f4) (i + 1) ?_ (fun q => absurd rfl q) (mood_no (by omega)) hnb ?_ hoff (fun _ q => by omega) (fun _ _ => ⟨hcn, fun _ => ⟨by omega, Or.inl rfl⟩⟩)
          · simp only [stp, hok, hnb, hmd, hon, hin, if_neg hwc, if_neg h, Bool.true_eq_false, Bool.false_eq_true, if_false]
            simp
          · unfold outAt; rw [if_neg (fun q => h q.2)]; exact hcn
theorem stays_l1 (on : Bool) (s l c m now w n : Int) (o : List Int) (hn : n ≤ 50) (hl : (o.length : Int) = n) (ho : ∀ j, j < o.length → o.getD j 0 = outAt on m now w j) (d : Nat) : ∀ (k i : Nat), i + d = o.length → 2 * d + 1 < k →
    complinelaw15_PolicyStays.l1 k now n true w o i on s l c m = some true := by
  induction d with
  | zero =>
    intro k i hi hk
    obtain ⟨k, rfl⟩ : ∃ q, k = q + 1 := ⟨k - 1, by omega⟩
    simp -implicitDefEqProofs only [complinelaw15_PolicyStays.l1]
    rw [if_neg (by omega)]
  | succ d ih =>
    intro k i hi hk
    obtain ⟨k, rfl⟩ : ∃ q, k = q + 1 + 1 := ⟨k - 2, by omega⟩
    have hw : wrap64 ((i : Int) + 1) = ((i + 1 : Nat) : Int) := by rw [wrap64_in _ (by omega) (by omega)]; omega
    have hr : rd o i = outAt on m now w i := by unfold rd; rw [Int.toNat_natCast]; exact ho i (by omega)
    have nx := ih k (i + 1) (by omega) (by omega)
    simp -implicitDefEqProofs only [complinelaw15_PolicyStays.l1, complinelaw15_PolicyStays.j4, hw, hr, nx]
    rw [if_pos (by omega)]
    have h0 : (0 : Int) ≤ i := by omega
    have h1 : (i : Int) < o.length := by omega
    unfold outAt
    cases on with
    | false => simp [h0, h1]
    | true =>
      by_cases h : (i : Int) + 1 ≥ m
      · have h' : ((i + 1 : Nat) : Int) ≥ m := by omega
        simp only [h0, h1, h, h', decide_true, if_true, and_self]
      · have h' : ¬ ((i + 1 : Nat) : Int) ≥ m := by omega
        simp only [h0, h1, h, h', decide_false, if_true, and_false, if_false, Bool.false_eq_true]
theorem stays_l0 (on : Bool) (s l c m now w : Int) (t : S25) (n : Nat) (hn : n ≤ 50) (hok : okPT s l c m t.f0 t.f1 t.f2 t.f3 t.f4 = true) (hw : wantK s l c t.f0 t.f1 t.f2 t.f4 = w) (hn0 : 0 ≤ now) (hn4 : now ≤ 4) (d : Nat) : ∀ (k i : Nat), i + d = n → d + 200 < k →
    complinelaw15_PolicyStays.l0 k now n true w (List.replicate i t) i on s l c m t.f0 t.f1 t.f2 t.f3 t.f4 = some true := by
  have hg := good_range (ok_good hok)
  induction d with
  | zero =>
    intro k i hi hk
    obtain ⟨k, rfl⟩ : ∃ q, k = q + 1 + 1 := ⟨k - 2, by omega⟩
    obtain rfl : i = n := by omega
    obtain ⟨o, e, el, ev⟩ := stays_rn on s l c m now t hok hn0 hn4 i 0 now 0 0 [] (by decide) (now_no ⟨hn0, hn4⟩) (fun _ => rfl) (fun _ q => by omega) (fun _ _ => ⟨rfl, fun _ => ⟨rfl, Or.inr rfl⟩⟩)
    have hr := run_f (k + 1) on s l c m now (List.replicate i t) (by omega) (by simp; omega)
    rw [e] at hr
    rw [hw] at ev
    have hl1 := stays_l1 on s l c m now w i o (by omega) (by omega) (fun j hj => by have := ev j (by omega); rw [Nat.zero_add] at this; exact this) o.length k 0 (by omega) (by omega)
    simp -implicitDefEqProofs only [complinelaw15_PolicyStays.l0]
    rw [if_neg (by omega), hr]
    simp -implicitDefEqProofs only [Option.bind_some, if_true, List.nil_append, complinelaw15_PolicyStays.j2, el]
    rw [if_neg (by simp)]
    exact hl1
  | succ d ih =>
    intro k i hi hk
    obtain ⟨k, rfl⟩ : ∃ q, k = q + 1 := ⟨k - 1, by omega⟩
    have hl0 : i ≤ 50 := by clear hw hok; omega
    have hl1 : (i : Int) < n := by clear hw hok; omega
    have hl : i < 3518437208883 := Nat.lt_of_le_of_lt hl0 (of_decide_eq_true rfl)
    have hx := ih k (i + 1) (by clear hw hok; omega) (by clear hw hok; omega)
    have hwr : wrap64 ((i : Int) + 1) = ((i + 1 : Nat) : Int) := by rw [wrap64_in _ (by omega) (by omega)]; omega
    simp -implicitDefEqProofs only [complinelaw15_PolicyStays.l0, List.length_replicate, hwr]
    rw [if_pos hl1, if_pos hl]
    have : List.replicate i t ++ [(⟨t.f0, t.f1, t.f2, t.f3, t.f4⟩ : S25)] = List.replicate (i + 1) t := reps_app t i
    rw [this]
    exact hx
theorem PolicyStays (p : S23) (now : Int) (t : S25) (n : Int) (_ : okS23 p) (_ : (Lit.int .i64 now).wf = true) (_ : okS25 t) (_ : (Lit.int .i64 n).wf = true) : ∃ k, complinelaw15_PolicyStays.f k p.f0 p.f1 p.f2 p.f3 p.f4 now t.f0 t.f1 t.f2 t.f3 t.f4 n = some true := by
  refine ⟨400, ?_⟩
  simp -implicitDefEqProofs only [complinelaw15_PolicyStays.f, works_f 400 (by omega), Option.bind_some, if_true]
  cases h : okPT p.f1 p.f2 p.f3 p.f4 t.f0 t.f1 t.f2 t.f3 t.f4 with
  | false =>
    rw [wants_no p.f0 h, Option.bind_some, if_neg (by decide)]
    simp -implicitDefEqProofs only [complinelaw15_PolicyStays.j0, if_true]
  | true =>
    rw [wants_ok p.f0 h, Option.bind_some, if_pos rfl]
    by_cases h1 : now < 0
    · rw [if_pos h1]; simp -implicitDefEqProofs only [complinelaw15_PolicyStays.j0, if_true]
    by_cases h2 : now > 4
    · rw [if_neg h1, if_pos h2]; simp -implicitDefEqProofs only [complinelaw15_PolicyStays.j0, if_true]
    by_cases h3 : n < 0
    · rw [if_neg h1, if_neg h2, if_pos h3]; simp -implicitDefEqProofs only [complinelaw15_PolicyStays.j0, if_true]
    rw [if_neg h1, if_neg h2, if_neg h3]
    by_cases h4 : n > 50
    · rw [decide_eq_true h4]; simp -implicitDefEqProofs only [complinelaw15_PolicyStays.j0, if_true]
    rw [decide_eq_false h4]
    simp -implicitDefEqProofs only [complinelaw15_PolicyStays.j0, Bool.false_eq_true, if_false]
    obtain ⟨q, rfl⟩ : ∃ q : Nat, n = q := ⟨n.toNat, by omega⟩
    exact stays_l0 p.f0 p.f1 p.f2 p.f3 p.f4 now _ t q (by omega) h rfl (by omega) (by omega) q 399 0 (by omega) (by omega)

end Go.Proofs.Ytkbodakmfllnpaa.Pure
