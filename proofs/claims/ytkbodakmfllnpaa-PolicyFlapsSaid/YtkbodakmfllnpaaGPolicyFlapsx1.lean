-- Walks of the statement and of what it calls; made by a program of this workplace out of the translation.
import Derived.Test.YtkbodakmfllnpaaGPolicyFlapsx0
namespace Go.Proofs.Ytkbodakmfllnpaa.GPolicyFlaps
open Go.RowKit Go.Proofs.YtkbodakmfllnpaaW.PrintWords Go.Proofs.YtkbodakmfllnpaaW.PrintLast Go.Proofs.YtkbodakmfllnpaaW.PrintMore
attribute [local go_sem] max2_int min2_int max_two min_two max_three min_three max_four min_four   -- for this text's walks alone
set_option linter.unusedVariables false
set_option linter.unusedSimpArgs false

/-! ### policy_Check: function 12, by hand -/
/-- Is a number of the policy outside of its bounds? -/
def badP (s l c m : Int) : Bool := decide (l < 0) || decide (1024 < l) || (decide (s < 0) || decide (l < s)) || (decide (c < 0) || decide (100 < c)) || (decide (m < 1) || decide (16 < m))
def policy_Check.f (a0_0 : Bool) (a0_1 : Int) (a0_2 : Int) (a0_3 : Int) (a0_4 : Int) : Option (Int) := some (if badP a0_1 a0_2 a0_3 a0_4 then 1 else 0)
set_option maxHeartbeats 1000000 in
theorem check_bad (b : Bool) (s l c m : Int) (w : World) (h : badP s l c m = true) :
    Calls Try.prog 12 #[.agg #[.bool b, .int .i64 s, .int .i64 l, .int .i64 c, .int .i64 m]] w fun e w' => e = .returned (.int .i64 1) ∧ Below w.heap.size w w' := by
  have hu23 := Try.underlying23
  unfold badP at h
  go_enter Try.func12, Try.ntmps12
  go_wp2
  all_goals (go_ret; exact ⟨rfl, below_alloc (Below.refl _ _) _⟩)
set_option maxHeartbeats 1000000 in
theorem check_good (b : Bool) (s l c m : Int) (w : World) (h : badP s l c m = false) :
    Calls Try.prog 12 #[.agg #[.bool b, .int .i64 s, .int .i64 l, .int .i64 c, .int .i64 m]] w fun e w' => e = .returned (.int .i64 0) ∧ Below w.heap.size w w' := by
  have hu23 := Try.underlying23
  unfold badP at h
  simp only [Bool.or_eq_false_iff] at h
  obtain ⟨⟨⟨⟨h1, h2⟩, h3, h4⟩, h5, h6⟩, h7, h8⟩ := h
  go_enter Try.func12, Try.ntmps12
  go_wp2
  all_goals (go_ret; exact ⟨rfl, below_alloc (Below.refl _ _) _⟩)
theorem policy_Check.calls (a0_0 : Bool) (a0_1 : Int) (a0_2 : Int) (a0_3 : Int) (a0_4 : Int) (r : Int) (w : World) (h : policy_Check.f a0_0 a0_1 a0_2 a0_3 a0_4 = some r) :
    Calls Try.prog 12 #[.agg #[.bool a0_0, .int .i64 a0_1, .int .i64 a0_2, .int .i64 a0_3, .int .i64 a0_4]] w fun e w' => e = .returned (.int .i64 r) ∧ Below w.heap.size w w' := by
  obtain rfl := Option.some.inj h
  cases hb : badP a0_1 a0_2 a0_3 a0_4 with
  | true => exact check_bad _ _ _ _ _ w hb
  | false => exact check_good _ _ _ _ _ w hb

/-! ### policy_tallied: function 19, by hand -/
/-- Is a number one of a tally? -/
def inT (n : Int) : Bool := !(decide (n < 0) || decide (1000000 < n))
theorem inT_yes {n : Int} (h : inT n = true) : decide (n < 0) = false ∧ decide (1000000 < n) = false := by
  unfold inT at h
  cases a : decide (n < 0) <;> cases b : decide (1000000 < n) <;> simp_all
theorem inT_no {n : Int} (h : inT n = false) : decide (n < 0) = true ∨ (decide (n < 0) = false ∧ decide (1000000 < n) = true) := by
  unfold inT at h
  cases a : decide (n < 0) <;> cases b : decide (1000000 < n) <;> simp_all
/-- Are all? -/
def allT (x0 x1 x2 x3 x4 : Int) : Bool := inT x0 && inT x1 && inT x2 && inT x3 && inT x4
def policy_tallied.f (a0_0 : Int) (a0_1 : Int) (a0_2 : Int) (a0_3 : Int) (a0_4 : Int) : Option (Bool) := some (allT a0_0 a0_1 a0_2 a0_3 a0_4)
theorem at5 (x0 x1 x2 x3 x4 : Int) :
    (∀ w : World, (Instr.index 46 (.agg #[.int .i64 x0, .int .i64 x1, .int .i64 x2, .int .i64 x3, .int .i64 x4]) (.int .i64 0)).run Try.prog w = .ok (.int .i64 x0) w) ∧
    (∀ w : World, (Instr.index 46 (.agg #[.int .i64 x0, .int .i64 x1, .int .i64 x2, .int .i64 x3, .int .i64 x4]) (.int .i64 1)).run Try.prog w = .ok (.int .i64 x1) w) ∧
    (∀ w : World, (Instr.index 46 (.agg #[.int .i64 x0, .int .i64 x1, .int .i64 x2, .int .i64 x3, .int .i64 x4]) (.int .i64 2)).run Try.prog w = .ok (.int .i64 x2) w) ∧
    (∀ w : World, (Instr.index 46 (.agg #[.int .i64 x0, .int .i64 x1, .int .i64 x2, .int .i64 x3, .int .i64 x4]) (.int .i64 3)).run Try.prog w = .ok (.int .i64 x3) w) ∧
    (∀ w : World, (Instr.index 46 (.agg #[.int .i64 x0, .int .i64 x1, .int .i64 x2, .int .i64 x3, .int .i64 x4]) (.int .i64 4)).run Try.prog w = .ok (.int .i64 x4) w) :=
  ⟨fun _ => by kernel_rfl, fun _ => by kernel_rfl, fun _ => by kernel_rfl, fun _ => by kernel_rfl, fun _ => by kernel_rfl⟩
/-- What holds at a round's head: how many have been looked at. -/
def tR (x0 x1 x2 x3 x4 : Int) (i : Value) : Prop := i = .int .i64 0 ∨ (i = .int .i64 1 ∧ (inT x0) = true) ∨ (i = .int .i64 2 ∧ (inT x0 && inT x1) = true) ∨ (i = .int .i64 3 ∧ (inT x0 && inT x1 && inT x2) = true) ∨
  (i = .int .i64 4 ∧ (inT x0 && inT x1 && inT x2 && inT x3) = true) ∨ (i = .int .i64 5 ∧ allT x0 x1 x2 x3 x4 = true)
theorem rel_0 {x0 x1 x2 x3 x4 : Int} (c1 : decide (x0 < 0) = false) (c2 : decide (1000000 < x0) = false) : tR x0 x1 x2 x3 x4 (.int .i64 1) := by
  unfold tR allT
  have : inT x0 = true := by unfold inT; rw [c1, c2]; rfl
  simp_all
theorem rel_1 {x0 x1 x2 x3 x4 : Int} (hp : (inT x0) = true) (c1 : decide (x1 < 0) = false) (c2 : decide (1000000 < x1) = false) : tR x0 x1 x2 x3 x4 (.int .i64 2) := by
  unfold tR allT
  have : inT x1 = true := by unfold inT; rw [c1, c2]; rfl
  simp_all
theorem rel_2 {x0 x1 x2 x3 x4 : Int} (hp : (inT x0 && inT x1) = true) (c1 : decide (x2 < 0) = false) (c2 : decide (1000000 < x2) = false) : tR x0 x1 x2 x3 x4 (.int .i64 3) := by
  unfold tR allT
  have : inT x2 = true := by unfold inT; rw [c1, c2]; rfl
  simp_all
theorem rel_3 {x0 x1 x2 x3 x4 : Int} (hp : (inT x0 && inT x1 && inT x2) = true) (c1 : decide (x3 < 0) = false) (c2 : decide (1000000 < x3) = false) : tR x0 x1 x2 x3 x4 (.int .i64 4) := by
  unfold tR allT
  have : inT x3 = true := by unfold inT; rw [c1, c2]; rfl
  simp_all
theorem rel_4 {x0 x1 x2 x3 x4 : Int} (hp : (inT x0 && inT x1 && inT x2 && inT x3) = true) (c1 : decide (x4 < 0) = false) (c2 : decide (1000000 < x4) = false) : tR x0 x1 x2 x3 x4 (.int .i64 5) := by
  unfold tR allT
  have : inT x4 = true := by unfold inT; rw [c1, c2]; rfl
  simp_all
set_option maxHeartbeats 4000000 in
theorem policy_tallied.any (x0 x1 x2 x3 x4 : Int) (w : World) :
    Calls Try.prog 19 #[.agg #[.int .i64 x0, .int .i64 x1, .int .i64 x2, .int .i64 x3, .int .i64 x4]] w fun e w' => e = .returned (.bool (allT x0 x1 x2 x3 x4)) ∧ Below w.heap.size w w' := by
  have hu25 := Try.underlying25
  obtain ⟨i0, i1, i2, i3, i4⟩ := at5 x0 x1 x2 x3 x4
  go_enter Try.func19, Try.ntmps19
  go_wp2
  go_loop [16] (fun i => tR x0 x1 x2 x3 x4 i) (fun i => 5 - (intOf i).toNat)
  case atStart => exact .inl rfl
  case round =>
    rcases hrel with rfl | ⟨rfl, hp⟩ | ⟨rfl, hp⟩ | ⟨rfl, hp⟩ | ⟨rfl, hp⟩ | ⟨rfl, hp⟩
    · cases hx : inT x0 with
      | true =>
        obtain ⟨c1, c2⟩ := inT_yes hx
        clear hx
        go_wp2
        go_round
        case rel => exact rel_0 c1 c2
        case measure => simp [intOf]
      | false =>
        have hr : allT x0 x1 x2 x3 x4 = false := by unfold allT; simp [hx]
        rcases inT_no hx with c1 | ⟨c1, c2⟩
        all_goals
          clear hx
          go_wp2
          go_ret
          exact ⟨by first | rfl | (rw [hr]; rfl), below_alloc (Below.refl _ _) _⟩
    · cases hx : inT x1 with
      | true =>
        obtain ⟨c1, c2⟩ := inT_yes hx
        clear hx
        go_wp2
        go_round
        case rel => exact rel_1 hp c1 c2
        case measure => simp [intOf]
      | false =>
        have hr : allT x0 x1 x2 x3 x4 = false := by unfold allT; simp [hx]
        rcases inT_no hx with c1 | ⟨c1, c2⟩
        all_goals
          clear hx
          go_wp2
          go_ret
          exact ⟨by first | rfl | (rw [hr]; rfl), below_alloc (Below.refl _ _) _⟩
    · cases hx : inT x2 with
      | true =>
        obtain ⟨c1, c2⟩ := inT_yes hx
        clear hx
        go_wp2
        go_round
        case rel => exact rel_2 hp c1 c2
        case measure => simp [intOf]
      | false =>
        have hr : allT x0 x1 x2 x3 x4 = false := by unfold allT; simp [hx]
        rcases inT_no hx with c1 | ⟨c1, c2⟩
        all_goals
          clear hx
          go_wp2
          go_ret
          exact ⟨by first | rfl | (rw [hr]; rfl), below_alloc (Below.refl _ _) _⟩
    · cases hx : inT x3 with
      | true =>
        obtain ⟨c1, c2⟩ := inT_yes hx
        clear hx
        go_wp2
        go_round
        case rel => exact rel_3 hp c1 c2
        case measure => simp [intOf]
      | false =>
        have hr : allT x0 x1 x2 x3 x4 = false := by unfold allT; simp [hx]
        rcases inT_no hx with c1 | ⟨c1, c2⟩
        all_goals
          clear hx
          go_wp2
          go_ret
          exact ⟨by first | rfl | (rw [hr]; rfl), below_alloc (Below.refl _ _) _⟩
    · cases hx : inT x4 with
      | true =>
        obtain ⟨c1, c2⟩ := inT_yes hx
        clear hx
        go_wp2
        go_round
        case rel => exact rel_4 hp c1 c2
        case measure => simp [intOf]
      | false =>
        have hr : allT x0 x1 x2 x3 x4 = false := by unfold allT; simp [hx]
        rcases inT_no hx with c1 | ⟨c1, c2⟩
        all_goals
          clear hx
          go_wp2
          go_ret
          exact ⟨by first | rfl | (rw [hr]; rfl), below_alloc (Below.refl _ _) _⟩
    · go_wp2
      go_ret
      exact ⟨by first | rfl | (rw [hp]; rfl), below_alloc (Below.refl _ _) _⟩
theorem policy_tallied.calls (a0_0 : Int) (a0_1 : Int) (a0_2 : Int) (a0_3 : Int) (a0_4 : Int) (r : Bool) (w : World) (h : policy_tallied.f a0_0 a0_1 a0_2 a0_3 a0_4 = some r) :
    Calls Try.prog 19 #[.agg #[.int .i64 a0_0, .int .i64 a0_1, .int .i64 a0_2, .int .i64 a0_3, .int .i64 a0_4]] w fun e w' => e = .returned (.bool r) ∧ Below w.heap.size w w' := by
  obtain rfl := Option.some.inj h
  exact policy_tallied.any _ _ _ _ _ w

/-! ### policy_Wants: function 10, by hand -/
/-- Does what was cancelled and moved reach its share? -/
def churnB (ins can mov c : Int) : Bool := decide (ins * c ≤ (can + mov) * 100)
/-- The kind that is wanted. -/
def wantK (s l c ins can mov most : Int) : Int := if l < most then (if churnB ins can mov c then 4 else 2) else if s < most then (if churnB ins can mov c then 3 else 1) else 0
def policy_Wants.f (a0_0 : Bool) (a0_1 : Int) (a0_2 : Int) (a0_3 : Int) (a0_4 : Int) (a1_0 : Int) (a1_1 : Int) (a1_2 : Int) (a1_3 : Int) (a1_4 : Int) : Option (Int × Int) :=
  some (if badP a0_1 a0_2 a0_3 a0_4 then (0, 1) else if allT a1_0 a1_1 a1_2 a1_3 a1_4 then (wantK a0_1 a0_2 a0_3 a1_0 a1_1 a1_2 a1_4, 0) else (0, 1))
theorem bcell {W w1 : World} (hb : Below W.heap.size W w1) : (∀ b o, b < W.heap.size → w1.cell? ⟨b, o, none⟩ = W.cell? ⟨b, o, none⟩) ∧ (∀ b o, b < W.heap.size → w1.frozen? ⟨b, o, none⟩ = W.frozen? ⟨b, o, none⟩) :=
  ⟨fun b o h => hb.cell (p := ⟨b, o, none⟩) h, fun b o h => hb.frozen (p := ⟨b, o, none⟩) h⟩
theorem bsz2 {W w1 : World} {o1 o2 : Obj} (hb : Below ((W.alloc o1).alloc o2).heap.size ((W.alloc o1).alloc o2) w1) : W.heap.size < w1.heap.size ∧ W.heap.size + 1 < w1.heap.size := by
  have := hb.size
  simp at this
  omega
theorem at5k :
    (∀ w : World, (Instr.index 46 (.agg #[.int .i64 0, .int .i64 1, .int .i64 2, .int .i64 3, .int .i64 4]) (.int .i64 0)).run Try.prog w = .ok (.int .i64 0) w) ∧
    (∀ w : World, (Instr.index 46 (.agg #[.int .i64 0, .int .i64 1, .int .i64 2, .int .i64 3, .int .i64 4]) (.int .i64 1)).run Try.prog w = .ok (.int .i64 1) w) ∧
    (∀ w : World, (Instr.index 46 (.agg #[.int .i64 0, .int .i64 1, .int .i64 2, .int .i64 3, .int .i64 4]) (.int .i64 2)).run Try.prog w = .ok (.int .i64 2) w) ∧
    (∀ w : World, (Instr.index 46 (.agg #[.int .i64 0, .int .i64 1, .int .i64 2, .int .i64 3, .int .i64 4]) (.int .i64 3)).run Try.prog w = .ok (.int .i64 3) w) ∧
    (∀ w : World, (Instr.index 46 (.agg #[.int .i64 0, .int .i64 1, .int .i64 2, .int .i64 3, .int .i64 4]) (.int .i64 4)).run Try.prog w = .ok (.int .i64 4) w) :=
  ⟨fun _ => by kernel_rfl, fun _ => by kernel_rfl, fun _ => by kernel_rfl, fun _ => by kernel_rfl, fun _ => by kernel_rfl⟩
set_option maxHeartbeats 2000000 in
theorem wants_bad (b : Bool) (s l c m ins can mov fir most : Int) (w : World) (h : badP s l c m = true) :
    Calls Try.prog 10 #[.agg #[.bool b, .int .i64 s, .int .i64 l, .int .i64 c, .int .i64 m], .agg #[.int .i64 ins, .int .i64 can, .int .i64 mov, .int .i64 fir, .int .i64 most]] w fun e w' => e = .returned (.tuple #[.int .i64 0, .int .i64 1]) ∧ Below w.heap.size w w' := by
  have hu23 := Try.underlying23
  have hu25 := Try.underlying25
  have k := fun w => check_bad b s l c m w h
  clear h
  go_enter Try.func10, Try.ntmps10
  go_wp2_with (go_at_call 12; refine (k _).mono ?_; rintro e w1 ⟨rfl, hb⟩; obtain ⟨hc, hf⟩ := bcell hb)
  go_ret2
  exact ⟨rfl, ((below_alloc (below_alloc (Below.refl _ _) _) _).trans (hb.mono (by simp; omega)))⟩
set_option maxHeartbeats 2000000 in
theorem wants_odd (b : Bool) (s l c m ins can mov fir most : Int) (w : World) (h : badP s l c m = false) (h2 : allT ins can mov fir most = false) :
    Calls Try.prog 10 #[.agg #[.bool b, .int .i64 s, .int .i64 l, .int .i64 c, .int .i64 m], .agg #[.int .i64 ins, .int .i64 can, .int .i64 mov, .int .i64 fir, .int .i64 most]] w fun e w' => e = .returned (.tuple #[.int .i64 0, .int .i64 1]) ∧ Below w.heap.size w w' := by
  have hu23 := Try.underlying23
  have hu25 := Try.underlying25
  have k := fun w => check_good b s l c m w h
  have k2 := fun w => policy_tallied.any ins can mov fir most w
  rw [h2] at k2
  clear h h2
  go_enter Try.func10, Try.ntmps10
  go_wp2_with (first | (go_at_call 12; refine (k _).mono ?_; rintro e w1 ⟨rfl, hb⟩; obtain ⟨hc, hf⟩ := bcell hb) | (go_at_call 19; refine (k2 _).mono ?_; rintro e w2 ⟨rfl, hb2⟩; obtain ⟨hc2, hf2⟩ := bcell hb2))
  go_ret2
  exact ⟨rfl, (((below_alloc (below_alloc (Below.refl _ _) _) _).trans (hb.mono (by simp; omega))).trans (hb2.mono (by have := hb.size; simp at this; omega)))⟩
theorem inT_range {n : Int} (h : inT n = true) : 0 ≤ n ∧ n ≤ 1000000 := by
  obtain ⟨h1, h2⟩ := inT_yes h
  have := of_decide_eq_false h1
  have := of_decide_eq_false h2
  omega
theorem good_range {s l c m : Int} (h : badP s l c m = false) : 0 ≤ s ∧ s ≤ l ∧ l ≤ 1024 ∧ 0 ≤ c ∧ c ≤ 100 ∧ 1 ≤ m ∧ m ≤ 16 := by
  unfold badP at h
  simp at h
  omega
theorem prod_range {a b : Int} (h0 : 0 ≤ a) (h1 : a ≤ 1000000) (h2 : 0 ≤ b) (h3 : b ≤ 100) : 0 ≤ a * b ∧ a * b ≤ 100000000 := by
  constructor
  · exact Int.mul_nonneg h0 h2
  · have : a * b ≤ 1000000 * 100 := Int.mul_le_mul h1 h3 h2 (by decide)
    omega
set_option maxHeartbeats 8000000 in
theorem wants_good (b : Bool) (s l c m ins can mov fir most : Int) (w : World) (h : badP s l c m = false) (h2 : allT ins can mov fir most = true) :
    Calls Try.prog 10 #[.agg #[.bool b, .int .i64 s, .int .i64 l, .int .i64 c, .int .i64 m], .agg #[.int .i64 ins, .int .i64 can, .int .i64 mov, .int .i64 fir, .int .i64 most]] w fun e w' => e = .returned (.tuple #[.int .i64 (wantK s l c ins can mov most), .int .i64 0]) ∧ Below w.heap.size w w' := by
  have hu23 := Try.underlying23
  have hu25 := Try.underlying25
  have k := fun w => check_good b s l c m w h
  have k2 := fun w => policy_tallied.any ins can mov fir most w
  rw [h2] at k2
  obtain ⟨g1, g2, g3, g4, g5, g6, g7⟩ := good_range h
  have h3 := h2
  unfold allT at h3
  simp only [Bool.and_eq_true] at h3
  obtain ⟨⟨⟨⟨a1, a2⟩, a3⟩, _⟩, a5⟩ := h3
  obtain ⟨r1, r2⟩ := inT_range a1
  obtain ⟨r3, r4⟩ := inT_range a2
  obtain ⟨r5, r6⟩ := inT_range a3
  obtain ⟨r7, r8⟩ := inT_range a5
  obtain ⟨p1, p2⟩ := prod_range r1 r2 g4 g5
  obtain ⟨i0, i1, i2, i3, i4⟩ := at5k
  clear h h2 a1 a2 a3 a5
  by_cases d1 : l < most
  · have t1 : decide (l < most) = true := decide_eq_true d1
    by_cases d3 : ins * c ≤ (can + mov) * 100
    · have t3 : decide (ins * c ≤ (can + mov) * 100) = true := decide_eq_true d3
      have hr : wantK s l c ins can mov most = 4 := by unfold wantK churnB; rw [if_pos d1, t3]; rfl
      clear d1 d3
      rw [hr]
      clear hr
      go_enter Try.func10, Try.ntmps10
      go_wp2_with (first | (go_at_call 12; refine (k _).mono ?_; rintro e w1 ⟨rfl, hb⟩; obtain ⟨hc, hf⟩ := bcell hb; obtain ⟨hz0, hz⟩ := bsz2 hb) | (go_at_call 19; refine (k2 _).mono ?_; rintro e w2 ⟨rfl, hb2⟩; obtain ⟨hc2, hf2⟩ := bcell hb2))
      go_ret2
      exact ⟨rfl, (((below_alloc (below_alloc (Below.refl _ _) _) _).trans (hb.mono (by simp; omega))).trans (hb2.mono (by have := hb.size; simp at this; omega)))⟩
    · have t3 : decide (ins * c ≤ (can + mov) * 100) = false := decide_eq_false d3
      have hr : wantK s l c ins can mov most = 2 := by unfold wantK churnB; rw [if_pos d1, t3]; rfl
      clear d1 d3
      rw [hr]
      clear hr
      go_enter Try.func10, Try.ntmps10
      go_wp2_with (first | (go_at_call 12; refine (k _).mono ?_; rintro e w1 ⟨rfl, hb⟩; obtain ⟨hc, hf⟩ := bcell hb; obtain ⟨hz0, hz⟩ := bsz2 hb) | (go_at_call 19; refine (k2 _).mono ?_; rintro e w2 ⟨rfl, hb2⟩; obtain ⟨hc2, hf2⟩ := bcell hb2))
      go_ret2
      exact ⟨rfl, (((below_alloc (below_alloc (Below.refl _ _) _) _).trans (hb.mono (by simp; omega))).trans (hb2.mono (by have := hb.size; simp at this; omega)))⟩
  · have t1 : decide (l < most) = false := decide_eq_false d1
    by_cases d2 : s < most
    · have t2 : decide (s < most) = true := decide_eq_true d2
      by_cases d3 : ins * c ≤ (can + mov) * 100
      · have t3 : decide (ins * c ≤ (can + mov) * 100) = true := decide_eq_true d3
        have hr : wantK s l c ins can mov most = 3 := by unfold wantK churnB; rw [if_neg d1, if_pos d2, t3]; rfl
        clear d1 d2 d3
        rw [hr]
        clear hr
        go_enter Try.func10, Try.ntmps10
        go_wp2_with (first | (go_at_call 12; refine (k _).mono ?_; rintro e w1 ⟨rfl, hb⟩; obtain ⟨hc, hf⟩ := bcell hb; obtain ⟨hz0, hz⟩ := bsz2 hb) | (go_at_call 19; refine (k2 _).mono ?_; rintro e w2 ⟨rfl, hb2⟩; obtain ⟨hc2, hf2⟩ := bcell hb2))
        go_ret2
        exact ⟨rfl, (((below_alloc (below_alloc (Below.refl _ _) _) _).trans (hb.mono (by simp; omega))).trans (hb2.mono (by have := hb.size; simp at this; omega)))⟩
      · have t3 : decide (ins * c ≤ (can + mov) * 100) = false := decide_eq_false d3
        have hr : wantK s l c ins can mov most = 1 := by unfold wantK churnB; rw [if_neg d1, if_pos d2, t3]; rfl
        clear d1 d2 d3
        rw [hr]
        clear hr
        go_enter Try.func10, Try.ntmps10
        go_wp2_with (first | (go_at_call 12; refine (k _).mono ?_; rintro e w1 ⟨rfl, hb⟩; obtain ⟨hc, hf⟩ := bcell hb; obtain ⟨hz0, hz⟩ := bsz2 hb) | (go_at_call 19; refine (k2 _).mono ?_; rintro e w2 ⟨rfl, hb2⟩; obtain ⟨hc2, hf2⟩ := bcell hb2))
        go_ret2
        exact ⟨rfl, (((below_alloc (below_alloc (Below.refl _ _) _) _).trans (hb.mono (by simp; omega))).trans (hb2.mono (by have := hb.size; simp at this; omega)))⟩
    · have t2 : decide (s < most) = false := decide_eq_false d2
      by_cases d3 : ins * c ≤ (can + mov) * 100
      · have t3 : decide (ins * c ≤ (can + mov) * 100) = true := decide_eq_true d3
        have hr : wantK s l c ins can mov most = 0 := by unfold wantK churnB; rw [if_neg d1, if_neg d2]
        clear d1 d2 d3
        rw [hr]
        clear hr
        go_enter Try.func10, Try.ntmps10
        go_wp2_with (first | (go_at_call 12; refine (k _).mono ?_; rintro e w1 ⟨rfl, hb⟩; obtain ⟨hc, hf⟩ := bcell hb; obtain ⟨hz0, hz⟩ := bsz2 hb) | (go_at_call 19; refine (k2 _).mono ?_; rintro e w2 ⟨rfl, hb2⟩; obtain ⟨hc2, hf2⟩ := bcell hb2))
        go_ret2
        exact ⟨rfl, (((below_alloc (below_alloc (Below.refl _ _) _) _).trans (hb.mono (by simp; omega))).trans (hb2.mono (by have := hb.size; simp at this; omega)))⟩
      · have t3 : decide (ins * c ≤ (can + mov) * 100) = false := decide_eq_false d3
        have hr : wantK s l c ins can mov most = 0 := by unfold wantK churnB; rw [if_neg d1, if_neg d2]
        clear d1 d2 d3
        rw [hr]
        clear hr
        go_enter Try.func10, Try.ntmps10
        go_wp2_with (first | (go_at_call 12; refine (k _).mono ?_; rintro e w1 ⟨rfl, hb⟩; obtain ⟨hc, hf⟩ := bcell hb; obtain ⟨hz0, hz⟩ := bsz2 hb) | (go_at_call 19; refine (k2 _).mono ?_; rintro e w2 ⟨rfl, hb2⟩; obtain ⟨hc2, hf2⟩ := bcell hb2))
        go_ret2
        exact ⟨rfl, (((below_alloc (below_alloc (Below.refl _ _) _) _).trans (hb.mono (by simp; omega))).trans (hb2.mono (by have := hb.size; simp at this; omega)))⟩
theorem policy_Wants.calls (a0_0 : Bool) (a0_1 : Int) (a0_2 : Int) (a0_3 : Int) (a0_4 : Int) (a1_0 : Int) (a1_1 : Int) (a1_2 : Int) (a1_3 : Int) (a1_4 : Int) (r1 : Int) (r2 : Int) (w : World) (h : policy_Wants.f a0_0 a0_1 a0_2 a0_3 a0_4 a1_0 a1_1 a1_2 a1_3 a1_4 = some (r1, r2)) :
    Calls Try.prog 10 #[.agg #[.bool a0_0, .int .i64 a0_1, .int .i64 a0_2, .int .i64 a0_3, .int .i64 a0_4], .agg #[.int .i64 a1_0, .int .i64 a1_1, .int .i64 a1_2, .int .i64 a1_3, .int .i64 a1_4]] w fun e w' => e = .returned (.tuple #[.int .i64 r1, .int .i64 r2]) ∧ Below w.heap.size w w' := by
  unfold policy_Wants.f at h
  cases hb : badP a0_1 a0_2 a0_3 a0_4 with
  | true =>
    rw [hb, if_pos rfl] at h
    obtain ⟨rfl, rfl⟩ := Prod.mk.inj (Option.some.inj h)
    exact wants_bad _ _ _ _ _ _ _ _ _ _ w hb
  | false =>
    rw [hb, if_neg (by decide)] at h
    cases ha : allT a1_0 a1_1 a1_2 a1_3 a1_4 with
    | true =>
      rw [ha, if_pos rfl] at h
      obtain ⟨rfl, rfl⟩ := Prod.mk.inj (Option.some.inj h)
      exact wants_good _ _ _ _ _ _ _ _ _ _ w hb ha
    | false =>
      rw [ha, if_neg (by decide)] at h
      obtain ⟨rfl, rfl⟩ := Prod.mk.inj (Option.some.inj h)
      exact wants_odd _ _ _ _ _ _ _ _ _ _ w hb ha

/-! ### policy_wrong: function 22 -/
def policy_wrong.j0 : Nat → Bool → Int → Int → Option (Int)
  | 0, _, _, _ => none
  | k + 1, x10, x102000, x102001 => if x10 = true then (some 7) else (if x102000 < 0 then (some 1) else (if x102000 > 4 then (some 1) else (if x102001 < 0 then (some 1) else (if x102001 > 16 then (some 1) else (some 0)))))
def policy_wrong.f (k : Nat) (a0_0 : Int) (a0_1 : Int) (a1 : Int) : Option (Int) := if a1 < 0 then (policy_wrong.j0 k true a0_0 a0_1) else (policy_wrong.j0 k (decide (a1 > 4)) a0_0 a0_1)
theorem policy_wrong.mono_l : ∀ k, (∀ y0 y1 y2, LeO (policy_wrong.j0 k y0 y1 y2) (policy_wrong.j0 (k + 1) y0 y1 y2))
  | 0 => fun _ _ _ r h => by simp [policy_wrong.j0] at h
  | k + 1 => by
    have ih0 := policy_wrong.mono_l k
    · intro y0 y1 y2
      unfold policy_wrong.j0
      repeat' first
      | (with_reducible exact ih0 _ _ _)
      | (with_reducible exact LeO.refl _)
      | (with_reducible exact LeO.none _)
      | (with_reducible refine LeO.ite ?_ ?_)
      | (with_reducible refine LeO.bind ?_ (fun _ => ?_))
      | exact ih0 _ _ _
      | exact LeO.none _
      | refine LeO.ite ?_ ?_
      | refine LeO.bind ?_ (fun _ => ?_)
theorem policy_wrong.mono : ∀ a0 a1 a2 k, LeO (policy_wrong.f k a0 a1 a2) (policy_wrong.f (k + 1) a0 a1 a2) := by
  intro a0 a1 a2 k
  have ih0 := policy_wrong.mono_l k
  unfold policy_wrong.f
  repeat' first
      | (with_reducible exact ih0 _ _ _)
      | (with_reducible exact LeO.refl _)
      | (with_reducible exact LeO.none _)
      | (with_reducible refine LeO.ite ?_ ?_)
      | (with_reducible refine LeO.bind ?_ (fun _ => ?_))
      | exact ih0 _ _ _
      | exact LeO.none _
      | refine LeO.ite ?_ ?_
      | refine LeO.bind ?_ (fun _ => ?_)
set_option maxHeartbeats 8000000 in
set_option maxRecDepth 100000 in
theorem policy_wrong.calls (k : Nat) (a0_0 : Int) (a0_1 : Int) (a1 : Int) (r : Int) (w : World) (h : policy_wrong.f k a0_0 a0_1 a1 = some r) :
    Calls Try.prog 22 #[.agg #[.int .i64 a0_0, .int .i64 a0_1], .int .i64 a1] w fun e w' => e = .returned (.int .i64 r) ∧ Below w.heap.size w w' := by
  have hu33 := Try.underlying33
  have HB := Aside0.mk (Below.refl w.heap.size w)
  have H : (if a1 < 0 then (policy_wrong.j0 k true a0_0 a0_1) else (policy_wrong.j0 k (decide (a1 > 4)) a0_0 a0_1)) = some r := h
  clear h
  have HC3 := Aside0.mk H
  clear H
  go_enter Try.func22, Try.ntmps22
  go_upto_region 1 with (first | ((with_reducible refine gate_dst (N := 2) rfl ?_); refine box_event ?hg (N := 2) ?hd (cs := #[.int .i64 a0_0, .int .i64 a0_1]) (t := 33) ?hr ?_; (case hd => rfl); (case hg => rfl); (case hr => first | (go_simp; done) | (go_simp; rfl)); intro gb101 hg w4 hbox hb; have n0_ := Aside0.mk (below_step (by repeat (first | (with_reducible first | exact HB.out | apply below_alloc | apply pw_below_drewN | apply below_drew1) | exact HB.out)) hb); have n1_ := Aside0.mk (hbox); have n2_ := Aside0.mk ((by rw [hg]; exact (below_size (by repeat (first | (with_reducible first | exact HB.out | apply below_alloc | apply pw_below_drewN | apply below_drew1) | exact HB.out))) : w.heap.size ≤ gb101)); have n3_ := Aside0.mk ((by rw [hg]; exact (below_size (by repeat (first | (with_reducible first | exact HB.out | apply below_alloc | apply pw_below_drewN | apply below_drew1) | exact HB.out))) : w.heap.size ≤ gb101)); clear HB; have HB := n0_; have BK101 := n1_; have GW101 := n2_; have GE101 := n3_; clear n0_ n1_ n2_ n3_; clear hb hbox hg))
  (try simp only [Act.put, List.setIfInBounds_toArray, List.set_cons_zero, List.set_cons_succ])
  go_cut [10] (fun v10 wc => ∃ (kq : Nat) (x10_2 : Bool), v10 = .bool x10_2 ∧ Aside0 (policy_wrong.j0 kq x10_2 a0_0 a0_1 = some r) ∧ Aside0 (kq ≤ k) ∧ Aside0 (wc.heap[gb101]? = some (.cells #[.int .i64 a0_0, .int .i64 a0_1] 33 (0, 0))) ∧ Aside0 (Below w.heap.size w wc))
  case first =>
    have H := HC3.out
    clear HC3
    by_cases c5 : a1 < 0
    · rw [if_pos c5] at H
      have c5b0 : decide (a1 < 0) = true := decide_eq_true c5
      clear c5
      (first | rw [c5b0] | (simp only [i64_w, i32_w]; rw [c5b0]) | skip)
      have H' := Aside0.mk H
      clear H
      go_wp2
      go_meet
      case rel => exact ⟨_, (true), (by first | rfl | (simp; done) | (simp [*]; done)), H', ⟨by first | omega | exact Nat.le_refl _⟩, ⟨by (with_reducible repeat (first | refine blk_drewN ?_ _ | refine blk_drew ?_ | refine blk_alloc ?_ _)); exact BK101.out⟩, ⟨by repeat (first | (with_reducible first | exact HB.out | apply below_alloc | apply pw_below_drewN | apply below_drew1 | refine below_set ?_ GE101.out) | exact HB.out)⟩⟩
    · rw [if_neg c5] at H
      have c5b0 : decide (a1 < 0) = false := decide_eq_false c5
      clear c5
      (first | rw [c5b0] | (simp only [i64_w, i32_w]; rw [c5b0]) | skip)
      have H' := Aside0.mk H
      clear H
      go_wp2
      go_meet
      case rel => exact ⟨_, (decide (a1 > 4)), (by first | rfl | (simp; done) | (simp [*]; done)), H', ⟨by first | omega | exact Nat.le_refl _⟩, ⟨by (with_reducible repeat (first | refine blk_drewN ?_ _ | refine blk_drew ?_ | refine blk_alloc ?_ _)); exact BK101.out⟩, ⟨by repeat (first | (with_reducible first | exact HB.out | apply below_alloc | apply pw_below_drewN | apply below_drew1 | refine below_set ?_ GE101.out) | exact HB.out)⟩⟩
  case rest =>
    clear HC3
    try clear c2
    try clear p2
    try clear c5
    try clear c5b0
    obtain ⟨kq, x10_2, rfl, HA, HJ2, BK101, HB⟩ := hcut
    cases kq with
    | zero => exact absurd HA.out (by simp [policy_wrong.j0])
    | succ kj2 =>
      have H := HA.out
      clear HA
      simp only [policy_wrong.j0] at H
      by_cases c6 : x10_2 = true
      · subst c6
        have H1 : (some 7) = some r := by rw [if_pos rfl] at H; exact H
        clear H
        have H := H1
        clear H1
        obtain rfl := Option.some.inj H
        go_wp2
        go_ret
        exact ⟨by first | rfl | (simp [errW_none, errW_some] <;> rfl) | (simp [*, errW_none, errW_some] <;> rfl), by repeat (first | (with_reducible first | exact HB.out | apply below_alloc | apply pw_below_drewN | apply below_drew1 | refine below_set ?_ GE101.out) | exact HB.out)⟩
      · replace c6 := Bool.eq_false_iff.mpr c6
        subst c6
        have H1 : (if a0_0 < 0 then (some 1) else (if a0_0 > 4 then (some 1) else (if a0_1 < 0 then (some 1) else (if a0_1 > 16 then (some 1) else (some 0))))) = some r := by rw [if_neg (show ¬ (false = true) by decide)] at H; exact H
        clear H
        have H := H1
        clear H1
        by_cases c7 : a0_0 < 0
        · rw [if_pos c7] at H
          have c7b0 : decide (a0_0 < 0) = true := decide_eq_true c7
          clear c7
          obtain rfl := Option.some.inj H
          have hcz8_0 : wc.cell? ⟨gb101, 0, none⟩ = some (.int .i64 a0_0) := (blk_cell BK101.out 0).trans rfl
          have hcz8_1 : wc.cell? ⟨gb101, 1, none⟩ = some (.int .i64 a0_1) := (blk_cell BK101.out 1).trans rfl
          have hfz8_0 := blk_frozen BK101.out 0
          have hfz8_1 := blk_frozen BK101.out 1
          go_wp2
          go_ret
          exact ⟨by first | rfl | (simp [errW_none, errW_some] <;> rfl) | (simp [*, errW_none, errW_some] <;> rfl), by repeat (first | (with_reducible first | exact HB.out | apply below_alloc | apply pw_below_drewN | apply below_drew1 | refine below_set ?_ GE101.out) | exact HB.out)⟩
        · rw [if_neg c7] at H
          have c7b0 : decide (a0_0 < 0) = false := decide_eq_false c7
          clear c7
          by_cases c9 : a0_0 > 4
          · rw [if_pos c9] at H
            have c9b0 : decide (4 < a0_0) = true := decide_eq_true c9
            clear c9
            obtain rfl := Option.some.inj H
            have hcz10_0 : wc.cell? ⟨gb101, 0, none⟩ = some (.int .i64 a0_0) := (blk_cell BK101.out 0).trans rfl
            have hcz10_1 : wc.cell? ⟨gb101, 1, none⟩ = some (.int .i64 a0_1) := (blk_cell BK101.out 1).trans rfl
            have hfz10_0 := blk_frozen BK101.out 0
            have hfz10_1 := blk_frozen BK101.out 1
            go_wp2
            go_ret
            exact ⟨by first | rfl | (simp [errW_none, errW_some] <;> rfl) | (simp [*, errW_none, errW_some] <;> rfl), by repeat (first | (with_reducible first | exact HB.out | apply below_alloc | apply pw_below_drewN | apply below_drew1 | refine below_set ?_ GE101.out) | exact HB.out)⟩
          · rw [if_neg c9] at H
            have c9b0 : decide (4 < a0_0) = false := decide_eq_false c9
            clear c9
            by_cases c11 : a0_1 < 0
            · rw [if_pos c11] at H
              have c11b0 : decide (a0_1 < 0) = true := decide_eq_true c11
              clear c11
              obtain rfl := Option.some.inj H
              have hcz12_0 : wc.cell? ⟨gb101, 0, none⟩ = some (.int .i64 a0_0) := (blk_cell BK101.out 0).trans rfl
              have hcz12_1 : wc.cell? ⟨gb101, 1, none⟩ = some (.int .i64 a0_1) := (blk_cell BK101.out 1).trans rfl
              have hfz12_0 := blk_frozen BK101.out 0
              have hfz12_1 := blk_frozen BK101.out 1
              go_wp2
              go_ret
              exact ⟨by first | rfl | (simp [errW_none, errW_some] <;> rfl) | (simp [*, errW_none, errW_some] <;> rfl), by repeat (first | (with_reducible first | exact HB.out | apply below_alloc | apply pw_below_drewN | apply below_drew1 | refine below_set ?_ GE101.out) | exact HB.out)⟩
            · rw [if_neg c11] at H
              have c11b0 : decide (a0_1 < 0) = false := decide_eq_false c11
              clear c11
              by_cases c13 : a0_1 > 16
              · rw [if_pos c13] at H
                have c13b0 : decide (16 < a0_1) = true := decide_eq_true c13
                clear c13
                obtain rfl := Option.some.inj H
                have hcz14_0 : wc.cell? ⟨gb101, 0, none⟩ = some (.int .i64 a0_0) := (blk_cell BK101.out 0).trans rfl
                have hcz14_1 : wc.cell? ⟨gb101, 1, none⟩ = some (.int .i64 a0_1) := (blk_cell BK101.out 1).trans rfl
                have hfz14_0 := blk_frozen BK101.out 0
                have hfz14_1 := blk_frozen BK101.out 1
                go_wp2
                go_ret
                exact ⟨by first | rfl | (simp [errW_none, errW_some] <;> rfl) | (simp [*, errW_none, errW_some] <;> rfl), by repeat (first | (with_reducible first | exact HB.out | apply below_alloc | apply pw_below_drewN | apply below_drew1 | refine below_set ?_ GE101.out) | exact HB.out)⟩
              · rw [if_neg c13] at H
                have c13b0 : decide (16 < a0_1) = false := decide_eq_false c13
                clear c13
                obtain rfl := Option.some.inj H
                have hcz15_0 : wc.cell? ⟨gb101, 0, none⟩ = some (.int .i64 a0_0) := (blk_cell BK101.out 0).trans rfl
                have hcz15_1 : wc.cell? ⟨gb101, 1, none⟩ = some (.int .i64 a0_1) := (blk_cell BK101.out 1).trans rfl
                have hfz15_0 := blk_frozen BK101.out 0
                have hfz15_1 := blk_frozen BK101.out 1
                go_wp2
                go_ret
                exact ⟨by first | rfl | (simp [errW_none, errW_some] <;> rfl) | (simp [*, errW_none, errW_some] <;> rfl), by repeat (first | (with_reducible first | exact HB.out | apply below_alloc | apply pw_below_drewN | apply below_drew1 | refine below_set ?_ GE101.out) | exact HB.out)⟩

end Go.Proofs.Ytkbodakmfllnpaa.GPolicyFlaps
