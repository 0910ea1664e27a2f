/-
  No kind is taken that was not wanted as often in a row as Calm says, since the last one was taken.
  No condition.
-/
import Derived.Test.YtkbodakmfllnpaaGPolicyCalmx4
namespace Go.Proofs.Ytkbodakmfllnpaa.Pure
open Go.RowKit Go.Proofs.Ytkbodakmfllnpaa.GPolicyCalm Go.Proofs.YtkbodakmfllnpaaW.PrintWords Go.Proofs.YtkbodakmfllnpaaW.PrintLast Go.Proofs.YtkbodakmfllnpaaW.PrintMore

structure S23 where
  f0 : Bool
  f1 : Int
  f2 : Int
  f3 : Int
  f4 : Int
def k23 : Kd S23 := Kd.iso (Kd.pair Kd.bool (Kd.pair (Kd.int .i64) (Kd.pair (Kd.int .i64) (Kd.pair (Kd.int .i64) (Kd.int .i64))))) (fun x : S23 => (x.f0, x.f1, x.f2, x.f3, x.f4))
theorem k23_open {w : World} {x : S23} {cs : List Value} (h : k23.K w x cs) : cs = [.bool x.f0, .int .i64 x.f1, .int .i64 x.f2, .int .i64 x.f3, .int .i64 x.f4] := by
  obtain ⟨_, _, rfl, rfl, ⟨_, _, rfl, rfl, ⟨_, _, rfl, rfl, ⟨_, _, rfl, rfl, rfl⟩⟩⟩⟩ := h
  exact rfl
theorem k23_mk (w : World) (x : S23)  : k23.K w x [.bool x.f0, .int .i64 x.f1, .int .i64 x.f2, .int .i64 x.f3, .int .i64 x.f4] := ⟨[.bool x.f0], [.int .i64 x.f1, .int .i64 x.f2, .int .i64 x.f3, .int .i64 x.f4], rfl, rfl, ⟨[.int .i64 x.f1], [.int .i64 x.f2, .int .i64 x.f3, .int .i64 x.f4], rfl, rfl, ⟨[.int .i64 x.f2], [.int .i64 x.f3, .int .i64 x.f4], rfl, rfl, ⟨[.int .i64 x.f3], [.int .i64 x.f4], rfl, rfl, rfl⟩⟩⟩⟩
structure S33 where
  f0 : Int
  f1 : Int
def k33 : Kd S33 := Kd.iso (Kd.pair (Kd.int .i64) (Kd.int .i64)) (fun x : S33 => (x.f0, x.f1))
theorem k33_open {w : World} {x : S33} {cs : List Value} (h : k33.K w x cs) : cs = [.int .i64 x.f0, .int .i64 x.f1] := by
  obtain ⟨_, _, rfl, rfl, rfl⟩ := h
  exact rfl
theorem k33_mk (w : World) (x : S33)  : k33.K w x [.int .i64 x.f0, .int .i64 x.f1] := ⟨[.int .i64 x.f0], [.int .i64 x.f1], rfl, rfl, rfl⟩
def okS23 (x : S23) : Prop := (Lit.int .i64 x.f1).wf = true ∧ (Lit.int .i64 x.f2).wf = true ∧ (Lit.int .i64 x.f3).wf = true ∧ (Lit.int .i64 x.f4).wf = true
def okS25 (x : S25) : Prop := (Lit.int .i64 x.f0).wf = true ∧ (Lit.int .i64 x.f1).wf = true ∧ (Lit.int .i64 x.f2).wf = true ∧ (Lit.int .i64 x.f3).wf = true ∧ (Lit.int .i64 x.f4).wf = true
def okS33 (x : S33) : Prop := (Lit.int .i64 x.f0).wf = true ∧ (Lit.int .i64 x.f1).wf = true
theorem wrap64_in (n : Int) (h0 : -9223372036854775808 ≤ n) (h : n < 9223372036854775808) : wrap64 n = n := by unfold wrap64; omega
/-- Is what there is, or what was wanted, out of its bounds? -/
def nowB (now : Int) : Bool := decide (now < 0) || decide (4 < now)
def moodB (mw mf : Int) : Bool := decide (mw < 0) || decide (4 < mw) || decide (mf < 0) || decide (16 < mf)
/-- Are policy and tally as they should be? -/
def okPT (s l c m i0 i1 i2 i3 i4 : Int) : Bool := !badP s l c m && allT i0 i1 i2 i3 i4
/-- How often in a row, with this one. -/
def inRow (mw mf w : Int) : Int := if mw = w then mf + 1 else 1
/-- One step. -/
def stp (on : Bool) (s l c m mw mf now i0 i1 i2 i3 i4 : Int) : Int × Int × Bool × Int :=
  if okPT s l c m i0 i1 i2 i3 i4 = false then (0, 0, false, 1) else if nowB now = true then (0, 0, false, 7) else if moodB mw mf = true then (0, 0, false, 1) else if on = false then (0, 0, false, 0)
  else if wantK s l c i0 i1 i2 i4 = now then (wantK s l c i0 i1 i2 i4, 0, false, 0)
  else if inRow mw mf (wantK s l c i0 i1 i2 i4) ≥ m then (wantK s l c i0 i1 i2 i4, 0, true, 0) else (wantK s l c i0 i1 i2 i4, inRow mw mf (wantK s l c i0 i1 i2 i4), false, 0)
theorem wants_ok {s l c m i0 i1 i2 i3 i4 : Int} (on : Bool) (h : okPT s l c m i0 i1 i2 i3 i4 = true) : policy_Wants.f on s l c m i0 i1 i2 i3 i4 = some (wantK s l c i0 i1 i2 i4, 0) := by
  unfold okPT at h
  cases hb : badP s l c m with
  | true => rw [hb] at h; cases h
  | false =>
    cases ha : allT i0 i1 i2 i3 i4 with
    | false => rw [hb, ha] at h; cases h
    | true => unfold policy_Wants.f; rw [hb, ha]; rfl
theorem wants_no {s l c m i0 i1 i2 i3 i4 : Int} (on : Bool) (h : okPT s l c m i0 i1 i2 i3 i4 = false) : policy_Wants.f on s l c m i0 i1 i2 i3 i4 = some (0, 1) := by
  unfold okPT at h
  cases hb : badP s l c m with
  | true => unfold policy_Wants.f; rw [hb]; rfl
  | false =>
    cases ha : allT i0 i1 i2 i3 i4 with
    | true => rw [hb, ha] at h; cases h
    | false => unfold policy_Wants.f; rw [hb, ha]; rfl
theorem ok_good {s l c m i0 i1 i2 i3 i4 : Int} (h : okPT s l c m i0 i1 i2 i3 i4 = true) : badP s l c m = false := by
  unfold okPT at h
  cases hb : badP s l c m with
  | true => rw [hb] at h; cases h
  | false => rfl
theorem wantK_range (s l c i0 i1 i2 i4 : Int) : 0 ≤ wantK s l c i0 i1 i2 i4 ∧ wantK s l c i0 i1 i2 i4 ≤ 4 := by
  unfold wantK
  (repeat' split) <;> omega
theorem mood_yes {mw mf : Int} (h : moodB mw mf = false) : 0 ≤ mw ∧ mw ≤ 4 ∧ 0 ≤ mf ∧ mf ≤ 16 := by
  unfold moodB at h; simp at h; omega
theorem mood_no {mw mf : Int} (h : 0 ≤ mw ∧ mw ≤ 4 ∧ 0 ≤ mf ∧ mf ≤ 16) : moodB mw mf = false := by
  unfold moodB; simp; omega
theorem now_no {n : Int} (h : 0 ≤ n ∧ n ≤ 4) : nowB n = false := by
  unfold nowB; simp; omega
theorem now_yes {n : Int} (h : nowB n = false) : 0 ≤ n ∧ n ≤ 4 := by
  unfold nowB at h; simp at h; omega
theorem wrong_f (k : Nat) (mw mf now : Int) (hk : 1 ≤ k) : policy_wrong.f k mw mf now = some (if nowB now = true then 7 else if moodB mw mf = true then 1 else 0) := by
  obtain ⟨k, rfl⟩ : ∃ m, k = m + 1 := ⟨k - 1, by omega⟩
  unfold policy_wrong.f nowB moodB
  by_cases h1 : now < 0
  · rw [if_pos h1]; simp [policy_wrong.j0, h1]
  rw [if_neg h1]
  by_cases h2 : 4 < now
  · simp [policy_wrong.j0, h1, h2]
  by_cases h3 : mw < 0
  · simp [policy_wrong.j0, h1, h2, h3]
  by_cases h4 : 4 < mw
  · simp [policy_wrong.j0, h1, h2, h3, h4]
  by_cases h5 : mf < 0
  · simp [policy_wrong.j0, h1, h2, h3, h4, h5]
  by_cases h6 : 16 < mf
  · simp [policy_wrong.j0, h1, h2, h3, h4, h5, h6]
  simp [policy_wrong.j0, h1, h2, h3, h4, h5, h6]
theorem step_f (k : Nat) (on : Bool) (s l c m mw mf now i0 i1 i2 i3 i4 : Int) (hk : 5 ≤ k) : policy_Step.f k on s l c m mw mf now i0 i1 i2 i3 i4 = some (stp on s l c m mw mf now i0 i1 i2 i3 i4) := by
  obtain ⟨k, rfl⟩ : ∃ q, k = q + 1 + 1 := ⟨k - 2, by omega⟩
  unfold policy_Step.f stp
  cases h : okPT s l c m i0 i1 i2 i3 i4 with
  | false =>
    rw [wants_no on h, Option.bind_some, if_neg (by decide), if_pos rfl]
    simp -implicitDefEqProofs [policy_Step.j0, policy_Step.j1]
  | true =>
    have hg := good_range (ok_good h)
    rw [wants_ok on h, Option.bind_some, if_pos rfl, wrong_f _ _ _ _ (by omega), Option.bind_some]
    generalize wantK s l c i0 i1 i2 i4 = w
    have hm0 : ¬ m ≤ 0 := by omega
    cases h1 : nowB now with
    | true => simp -implicitDefEqProofs [policy_Step.j0, policy_Step.j1]
    | false =>
      cases h2 : moodB mw mf with
      | true => simp -implicitDefEqProofs [policy_Step.j0, policy_Step.j1]
      | false =>
        have hm := mood_yes h2
        cases on with
        | false => simp -implicitDefEqProofs [policy_Step.j0, policy_Step.j1]
        | true =>
          unfold inRow
          by_cases hw : w = now
          · simp -implicitDefEqProofs [policy_Step.j0, policy_Step.j1, hw, hm0]
          · by_cases hmw : mw = w
            · have hwr : wrap64 (1 + mf) = mf + 1 := by rw [wrap64_in _ (by omega) (by omega)]; omega
              by_cases hc : m ≤ mf + 1
              · simp -implicitDefEqProofs [policy_Step.j0, policy_Step.j1, hw, hmw, hwr, hc]
              · simp -implicitDefEqProofs [policy_Step.j0, policy_Step.j1, hw, hmw, hwr, hc]
            · by_cases hc : m ≤ 1
              · simp -implicitDefEqProofs [policy_Step.j0, policy_Step.j1, hw, hmw, hc]
              · simp -implicitDefEqProofs [policy_Step.j0, policy_Step.j1, hw, hmw, hc]
/-- All steps. -/
def rn (on : Bool) (s l c m : Int) : Int → Int → Int → List S25 → List Int → List Int × Int
  | _, _, _, [], out => (out, 0)
  | now, mw, mf, t :: ts, out =>
    if (stp on s l c m mw mf now t.f0 t.f1 t.f2 t.f3 t.f4).2.2.2 = 0 then
      rn on s l c m (if (stp on s l c m mw mf now t.f0 t.f1 t.f2 t.f3 t.f4).2.2.1 = true then (stp on s l c m mw mf now t.f0 t.f1 t.f2 t.f3 t.f4).1 else now) (stp on s l c m mw mf now t.f0 t.f1 t.f2 t.f3 t.f4).1 (stp on s l c m mw mf now t.f0 t.f1 t.f2 t.f3 t.f4).2.1 ts
        (out ++ [if (stp on s l c m mw mf now t.f0 t.f1 t.f2 t.f3 t.f4).2.2.1 = true then (stp on s l c m mw mf now t.f0 t.f1 t.f2 t.f3 t.f4).1 else now])
    else ([], (stp on s l c m mw mf now t.f0 t.f1 t.f2 t.f3 t.f4).2.2.2)
theorem go_f (k : Nat) (on : Bool) (s l c m : Int) (hk : 5 ≤ k) : ∀ (ts : List S25) (now mw mf : Int) (out : List Int), run_go k on s l c m now mw mf ts out = some (rn on s l c m now mw mf ts out)
  | [], _, _, _, _ => rfl
  | t :: ts, now, mw, mf, out => by
    simp -implicitDefEqProofs only [run_go, rn, step_f k _ _ _ _ _ _ _ _ _ _ _ _ _ hk, Option.bind_some]
    rw [go_f k on s l c m hk ts]
    by_cases h : (stp on s l c m mw mf now t.f0 t.f1 t.f2 t.f3 t.f4).2.2.2 = 0
    · rw [if_pos h, if_pos h]
    · rw [if_neg h, if_neg h]
theorem run_f (k : Nat) (on : Bool) (s l c m now : Int) (ts : List S25) (hk : 5 ≤ k) (h : ts.length ≤ 1000) : policy_Run.f k on s l c m now ts = some (rn on s l c m now 0 0 ts []) := by
  unfold policy_Run.f
  rw [if_pos (by omega)]
  exact go_f k on s l c m hk ts now 0 0 []
theorem works_f (k : Nat) (hk : 64 ≤ k) : complinelaw15_works.f k = some true := at_rounds complinelaw15_works.mono hk (by decide +kernel)
theorem gd_app (out : List Int) (x : Int) (j : Nat) (h : j < out.length) : (out ++ [x]).getD j 0 = out.getD j 0 := by
  rw [List.getD_eq_getElem?_getD, List.getD_eq_getElem?_getD, List.getElem?_append_left h]
theorem gd_last (out : List Int) (x : Int) : (out ++ [x]).getD out.length 0 = x := by
  rw [List.getD_eq_getElem?_getD]; simp
/-- What there was ahead of step i. -/
def pv (now : Int) (out : List Int) (i : Nat) : Int := if i = 0 then now else out.getD (i - 1) 0
theorem pv_app (now : Int) (out : List Int) (x : Int) (i : Nat) (h : i ≤ out.length) : pv now (out ++ [x]) i = pv now out i := by
  unfold pv
  by_cases h0 : i = 0
  · rw [if_pos h0, if_pos h0]
  · rw [if_neg h0, if_neg h0, gd_app _ _ _ (by omega)]
def okAt (s l c m : Int) (L : List S25) (j : Nat) : Prop := okPT s l c m (L.getD j z25).f0 (L.getD j z25).f1 (L.getD j z25).f2 (L.getD j z25).f3 (L.getD j z25).f4 = true
def wAt (s l c : Int) (L : List S25) (j : Nat) : Int := wantK s l c (L.getD j z25).f0 (L.getD j z25).f1 (L.getD j z25).f2 (L.getD j z25).f4
/-- Step i is as the law says. -/
def Good (on : Bool) (s l c m now : Int) (L : List S25) (out : List Int) (i : Nat) : Prop :=
  out.getD i 0 = pv now out i ∨ (on = true ∧ (1 ≤ m ∧ m ≤ (i : Int) + 1) ∧ ∀ j : Nat, (i : Int) + 1 - m ≤ j → j ≤ i → okAt s l c m L j ∧ wAt s l c L j = out.getD i 0 ∧ (j < i → out.getD j 0 = pv now out i))
theorem good_app {on : Bool} {s l c m now : Int} {L : List S25} {out : List Int} {i : Nat} (x : Int) (h : i < out.length) (g : Good on s l c m now L out i) : Good on s l c m now L (out ++ [x]) i := by
  unfold Good at g ⊢
  rw [gd_app _ _ _ h, pv_app _ _ _ _ (by omega)]
  rcases g with g | ⟨g1, g2, g3⟩
  · exact Or.inl g
  · refine Or.inr ⟨g1, g2, fun j h1 h2 => ?_⟩
    obtain ⟨a, b, e⟩ := g3 j h1 h2
    exact ⟨a, b, fun hj => by rw [gd_app _ _ _ (by omega)]; exact e hj⟩
theorem calm_rn (on : Bool) (s l c m now : Int) (L : List S25) (d : Nat) : ∀ (i : Nat) (cur mw mf : Int) (out : List Int), i + d = L.length → out.length = i → cur = pv now out i → 0 ≤ mf → mf ≤ i →
    (∀ j : Nat, (i : Int) - mf ≤ j → j < i → okAt s l c m L j ∧ wAt s l c L j = mw ∧ out.getD j 0 = cur) → (∀ j, j < i → Good on s l c m now L out j) →
    ((rn on s l c m cur mw mf (L.drop i) out).2 ≠ 0 ∧ (rn on s l c m cur mw mf (L.drop i) out).1 = []) ∨ ((rn on s l c m cur mw mf (L.drop i) out).2 = 0 ∧ (rn on s l c m cur mw mf (L.drop i) out).1.length = L.length ∧ ∀ j, j < L.length → Good on s l c m now L (rn on s l c m cur mw mf (L.drop i) out).1 j) := by
  induction d with
  | zero =>
    intro i cur mw mf out hi ho _ _ _ _ hg
    rw [List.drop_eq_nil_of_le (by omega)]
    exact Or.inr ⟨rfl, by simp only [rn]; omega, fun j hj => hg j (by omega)⟩
  | succ d ih =>
    intro i cur mw mf out hi ho hcur h0 hmf hinv hg
    have hlt : i < L.length := by omega
    rw [List.drop_eq_getElem_cons hlt]
    have hLi : L.getD i z25 = L[i] := by rw [List.getD_eq_getElem?_getD, List.getElem?_eq_getElem hlt]; rfl
    -- one step that keeps what there is
    have keep : ∀ (mw' mf' : Int), stp on s l c m mw mf cur L[i].f0 L[i].f1 L[i].f2 L[i].f3 L[i].f4 = (mw', mf', false, 0) → 0 ≤ mf' → mf' ≤ (i + 1 : Nat) →
        (∀ j : Nat, ((i + 1 : Nat) : Int) - mf' ≤ j → j < i + 1 → okAt s l c m L j ∧ wAt s l c L j = mw' ∧ (j < i → out.getD j 0 = cur)) →
        ((rn on s l c m cur mw mf (L[i] :: L.drop (i + 1)) out).2 ≠ 0 ∧ (rn on s l c m cur mw mf (L[i] :: L.drop (i + 1)) out).1 = []) ∨ ((rn on s l c m cur mw mf (L[i] :: L.drop (i + 1)) out).2 = 0 ∧ (rn on s l c m cur mw mf (L[i] :: L.drop (i + 1)) out).1.length = L.length ∧ ∀ j, j < L.length → Good on s l c m now L (rn on s l c m cur mw mf (L[i] :: L.drop (i + 1)) out).1 j) := by
      intro mw' mf' hs a0 a1 a2
      simp -implicitDefEqProofs only [rn, hs, if_true, Bool.false_eq_true, if_false]
      refine ih (i + 1) cur mw' mf' (out ++ [cur]) (by omega) (by simp [ho]) ?_ a0 a1 ?_ ?_
      · unfold pv; rw [if_neg (by omega), show i + 1 - 1 = out.length by omega, gd_last]
      · intro j h1 h2
        obtain ⟨b1, b2, b3⟩ := a2 j h1 h2
        refine ⟨b1, b2, ?_⟩
        by_cases hj : j < i
        · rw [gd_app _ _ _ (by omega)]; exact b3 hj
        · rw [show j = out.length by omega, gd_last]
      · intro j hj
        by_cases hji : j < i
        · exact good_app _ (by omega) (hg j hji)
        · refine Or.inl ?_
          rw [show j = out.length by omega, gd_last, pv_app _ _ _ _ (by omega), ho]; exact hcur
    cases hok : okPT s l c m L[i].f0 L[i].f1 L[i].f2 L[i].f3 L[i].f4 with
    | false => refine Or.inl ?_; simp [rn, stp, hok]
    | true =>
    cases hnb : nowB cur with
    | true => refine Or.inl ?_; simp [rn, stp, hok, hnb]
    | false =>
    cases hmd : moodB mw mf with
    | true => refine Or.inl ?_; simp [rn, stp, hok, hnb, hmd]
    | false =>
    cases hon : on with
    | false => rw [← hon]; exact keep 0 0 (by simp [stp, hok, hnb, hmd, hon]) (by omega) (by omega) (fun j h1 h2 => by omega)
    | true =>
    rw [← hon]
    by_cases hwc : wantK s l c L[i].f0 L[i].f1 L[i].f2 L[i].f4 = cur
    · exact keep (wantK s l c L[i].f0 L[i].f1 L[i].f2 L[i].f4) 0 (by simp [stp, hok, hnb, hmd, hon, hwc]) (by omega) (by omega) (fun j h1 h2 => by omega)
    have hwi : wAt s l c L i = wantK s l c L[i].f0 L[i].f1 L[i].f2 L[i].f4 := by unfold wAt; rw [hLi]
    have hoki : okAt s l c m L i := by unfold okAt; rw [hLi]; exact hok
    generalize hwdef : wantK s l c L[i].f0 L[i].f1 L[i].f2 L[i].f4 = w at hwc hwi
    -- in a row
    have hrow : 1 ≤ inRow mw mf w ∧ inRow mw mf w ≤ i + 1 ∧ ∀ j : Nat, (i : Int) + 1 - inRow mw mf w ≤ j → j ≤ i → okAt s l c m L j ∧ wAt s l c L j = w ∧ (j < i → out.getD j 0 = cur) := by
      unfold inRow
      by_cases hmw : mw = w
      · rw [if_pos hmw]
        refine ⟨by omega, by omega, fun j h1 h2 => ?_⟩
        by_cases hj : j < i
        · obtain ⟨b1, b2, b3⟩ := hinv j (by omega) hj
          exact ⟨b1, by rw [b2, hmw], fun _ => b3⟩
        · obtain rfl : j = i := by omega
          exact ⟨hoki, hwi, fun h => absurd h hj⟩
      · rw [if_neg hmw]
        refine ⟨by omega, by omega, fun j h1 h2 => ?_⟩
        obtain rfl : j = i := by omega
        exact ⟨hoki, hwi, fun h => absurd h (by omega)⟩
    obtain ⟨r1, r2, r3⟩ := hrow
    by_cases hge : inRow mw mf w ≥ m
    · have hs : stp on s l c m mw mf cur L[i].f0 L[i].f1 L[i].f2 L[i].f3 L[i].f4 = (w, 0, true, 0) := by
        simp only [stp, hok, hnb, hmd, hon, hwdef, if_neg hwc, if_pos hge, Bool.true_eq_false, Bool.false_eq_true, if_false]
      simp -implicitDefEqProofs only [rn, hs, if_true]
      refine ih (i + 1) w w 0 (out ++ [w]) (by omega) (by simp [ho]) ?_ (by omega) (by omega) (fun j h1 h2 => by omega) ?_
      · unfold pv; rw [if_neg (by omega), show i + 1 - 1 = out.length by omega, gd_last]
      · intro j hj
        by_cases hji : j < i
        · exact good_app _ (by omega) (hg j hji)
        · refine Or.inr ⟨hon, ⟨(good_range (ok_good hok)).2.2.2.2.2.1, by omega⟩, fun q h1 h2 => ?_⟩
          obtain rfl : j = i := by omega
          obtain ⟨b1, b2, b3⟩ := r3 q (by omega) h2
          have e1 : (out ++ [w]).getD j 0 = w := by rw [← ho, gd_last]
          refine ⟨b1, by rw [e1, b2], fun hq => ?_⟩
          rw [gd_app _ _ _ (by omega), pv_app _ _ _ _ (by omega), b3 hq, hcur]
    · refine keep w (inRow mw mf w) ?_ (by omega) (by omega) (fun j h1 h2 => r3 j (by omega) (by omega))
      simp only [stp, hok, hnb, hmd, hon, hwdef, if_neg hwc, if_neg hge, Bool.true_eq_false, Bool.false_eq_true, if_false]
theorem calm_l1 (on : Bool) (s l c m now : Int) (L : List S25) (o : List Int) (i : Nat) (p : Int) (hL : L.length ≤ 100) (ho : o.length = L.length) (hi : i < L.length) (hp : p = pv now o i)
    (hall : ∀ j : Nat, (i : Int) + 1 - m ≤ j → j ≤ i → okAt s l c m L j ∧ wAt s l c L j = o.getD i 0 ∧ (j < i → o.getD j 0 = pv now o i)) (d : Nat) :
    ∀ (k j : Nat), j + d = i + 1 → (i : Int) + 1 - m ≤ j → ∃ k', complinelaw15_PolicyCalm.l1 (k + d + 1) p L true o i j on s l c m = complinelaw15_PolicyCalm.l0 k' (o.getD i 0) L true o ((i + 1 : Nat) : Int) on s l c m ∧ k' = k := by
  have hri : rd o i = o.getD i 0 := by unfold rd; rw [Int.toNat_natCast]
  have hwi : wrap64 ((i : Int) + 1) = ((i + 1 : Nat) : Int) := by rw [wrap64_in _ (by omega) (by omega)]; omega
  induction d with
  | zero =>
    intro k j hj _
    have f1 : ¬ (j : Int) ≤ i := by clear hri hwi hp hall; omega
    have f2 : (0 : Int) ≤ i := by clear hri hwi hp hall; omega
    have f3 : (i : Int) < o.length := by clear hri hwi hp hall; omega
    refine ⟨k, ?_, rfl⟩
    simp -implicitDefEqProofs only [complinelaw15_PolicyCalm.l1]
    rw [if_neg f1, if_pos f2, if_pos f3, hri, hwi]
  | succ d ih =>
    intro k j hj hlo
    have f1 : (j : Int) ≤ i := by clear hri hwi hp hall ih; omega
    have f2 : (0 : Int) ≤ i := by clear hri hwi hp hall ih; omega
    have f3 : (i : Int) < o.length := by clear hri hwi hp hall ih; omega
    have f4 : (0 : Int) ≤ j := by clear hri hwi hp hall ih; omega
    have f5 : (j : Int) < L.length := by clear hri hwi hp hall ih; omega
    have f6 : (j : Int) < o.length := by clear hri hwi hp hall ih; omega
    have f7 : k + (d + 1) + 1 = (k + d + 1) + 1 := by clear hri hwi hp hall ih; omega
    have f8 : j ≤ i := by clear hri hwi hp hall ih; omega
    have f9 : j + 1 + d = i + 1 := by clear hri hwi hp hall ih; omega
    have f10 : (i : Int) + 1 - m ≤ (j + 1 : Nat) := by clear hri hwi hp hall ih; omega
    have hwj : wrap64 ((j : Int) + 1) = ((j + 1 : Nat) : Int) := by clear hri hwi hp hall ih; rw [wrap64_in _ (by omega) (by omega)]; omega
    obtain ⟨k', e, rfl⟩ := ih k (j + 1) f9 f10
    refine ⟨k', ?_, rfl⟩
    obtain ⟨b1, b2, b3⟩ := hall j hlo f8
    have hrt : rd_T25 L j = L.getD j z25 := by unfold rd_T25; rw [Int.toNat_natCast]
    have hrj : rd o j = o.getD j 0 := by unfold rd; rw [Int.toNat_natCast]
    unfold okAt at b1
    have hb := wants_ok on b1
    have hw2 : wantK s l c (L.getD j z25).f0 (L.getD j z25).f1 (L.getD j z25).f2 (L.getD j z25).f4 = o.getD i 0 := b2
    rw [hw2] at hb
    rw [f7]
    simp -implicitDefEqProofs only [complinelaw15_PolicyCalm.l1, hrt, hb, hri, hrj, hwj, Option.bind_some, if_true]
    rw [if_pos f1, if_pos f4, if_pos f5, if_pos f2, if_pos f3]
    by_cases hji : j < i
    · rw [if_pos (Int.ofNat_lt.2 hji), if_pos f6, if_pos (by rw [b3 hji, hp])]; exact e
    · rw [if_neg (fun q => hji (Int.ofNat_lt.1 q))]; exact e
theorem calm_l0 (on : Bool) (s l c m now : Int) (L : List S25) (o : List Int) (hL : L.length ≤ 100) (ho : o.length = L.length) (hg : ∀ j, j < L.length → Good on s l c m now L o j) (d : Nat) : ∀ (k i : Nat) (p : Int), i + d = L.length → p = pv now o i → 20 * d + 2 < k →
    complinelaw15_PolicyCalm.l0 k p L true o i on s l c m = some true := by
  induction d with
  | zero =>
    intro k i p hi hp hk
    obtain ⟨k, rfl⟩ : ∃ q, k = q + 1 := ⟨k - 1, by omega⟩
    simp -implicitDefEqProofs only [complinelaw15_PolicyCalm.l0]
    rw [if_neg (by omega)]
  | succ d ih =>
    intro k i p hi hp hk
    obtain ⟨k, rfl⟩ : ∃ q, k = q + 20 := ⟨k - 20, by omega⟩
    have f1 : (i : Int) < o.length := by clear hp ih; omega
    have f2 : (0 : Int) ≤ i := by clear hp ih; omega
    have f3 : i + 1 + d = L.length := by clear hp ih; omega
    have f4 : i < L.length := by clear hp ih; omega
    have f5 : 20 * d + 2 < k + 19 := by clear hp ih; omega
    have hwi : wrap64 ((i : Int) + 1) = ((i + 1 : Nat) : Int) := by clear hp ih; rw [wrap64_in _ (by omega) (by omega)]; omega
    have hri : rd o i = o.getD i 0 := by unfold rd; rw [Int.toNat_natCast]
    have hpn : o.getD i 0 = pv now o (i + 1) := by unfold pv; rw [if_neg (Nat.succ_ne_zero i)]; rfl
    by_cases he : o.getD i 0 = p
    · have hx := ih (k + 19) (i + 1) p f3 (by rw [← he, hpn]) f5
      rw [show k + 20 = (k + 19) + 1 from rfl]
      simp -implicitDefEqProofs only [complinelaw15_PolicyCalm.l0, hri, hwi]
      rw [if_pos f1, if_pos f2, if_pos he]
      exact hx
    · rcases hg i f4 with h | ⟨h1, ⟨h2, h2'⟩, h3⟩
      · exact absurd (by rw [h, hp]) he
      · obtain ⟨mn, rfl⟩ : ∃ q : Nat, m = q := ⟨m.toNat, by clear hp ih hpn hri hwi hg; omega⟩
        have g0 : (i : Int) + 1 - (mn : Int) ≤ i := by clear hp ih hpn hri hwi hg h3; omega
        obtain ⟨b1, _, _⟩ := h3 i g0 (Nat.le_refl i)
        have hgr := (good_range (ok_good b1)).2.2.2.2.2.2
        clear b1
        have hd : decide (((i + 1 : Nat) : Int) < (mn : Int)) = false := decide_eq_false (by clear hp ih hpn hri hwi hg h3; omega)
        have hst : wrap64 (((i + 1 : Nat) : Int) - (mn : Int)) = ((i + 1 - mn : Nat) : Int) := by clear hp ih hpn hri hwi hg h3; rw [wrap64_in _ (by omega) (by omega)]; omega
        have g1 : (i + 1 - mn) + mn = i + 1 := by clear hp ih hpn hri hwi hg h3 hst hd; omega
        have g2 : (i : Int) + 1 - (mn : Int) ≤ ((i + 1 - mn : Nat) : Int) := by clear hp ih hpn hri hwi hg h3 hst hd; omega
        have g3 : k + 17 - mn + mn + 1 = k + 18 := by clear hp ih hpn hri hwi hg h3 hst hd; omega
        have g4 : 20 * d + 2 < k + 17 - mn := by clear hp ih hpn hri hwi hg h3 hst hd; omega
        obtain ⟨k', e, hk'⟩ := calm_l1 on s l c mn now L o i p hL ho f4 hp h3 mn (k + 17 - mn) (i + 1 - mn) g1 g2
        rw [g3] at e
        have hx := ih k' (i + 1) _ f3 hpn (by rw [hk']; exact g4)
        rw [show k + 20 = (k + 18) + 1 + 1 from rfl]
        subst h1
        simp -implicitDefEqProofs only [complinelaw15_PolicyCalm.l0, complinelaw15_PolicyCalm.j1, hri, hwi, hd, hst, if_true, Bool.false_eq_true, if_false]
        rw [if_pos f1, if_pos f2, if_neg he, e]
        exact hx
theorem PolicyCalm (p : S23) (now : Int) (L : List S25) (_ : okS23 p) (_ : (Lit.int .i64 now).wf = true) (_ : L.length * 40 ≤ 140737488351232) (_ : ∀ x ∈ L, okS25 x) : ∃ k, complinelaw15_PolicyCalm.f k p.f0 p.f1 p.f2 p.f3 p.f4 now L = some true := by
  refine ⟨4000, ?_⟩
  simp -implicitDefEqProofs only [complinelaw15_PolicyCalm.f, works_f 4000 (by omega), Option.bind_some, if_true]
  by_cases hL : (L.length : Int) > 100
  · rw [if_pos hL]
  rw [if_neg hL, run_f 4000 p.f0 p.f1 p.f2 p.f3 p.f4 now L (by omega) (by omega), Option.bind_some]
  have h := calm_rn p.f0 p.f1 p.f2 p.f3 p.f4 now L L.length 0 now 0 0 [] (by omega) rfl rfl (by omega) (by omega) (fun j h1 h2 => by omega) (fun j hj => by omega)
  rw [List.drop_zero] at h
  rcases h with ⟨h1, h2⟩ | ⟨h1, h2, h3⟩
  · rw [if_neg h1, h2]; rfl
  · rw [if_pos h1, if_pos (by rw [h2])]
    exact calm_l0 p.f0 p.f1 p.f2 p.f3 p.f4 now L _ (by omega) h2 h3 L.length 4000 0 now (by omega) rfl (by omega)

end Go.Proofs.Ytkbodakmfllnpaa.Pure
