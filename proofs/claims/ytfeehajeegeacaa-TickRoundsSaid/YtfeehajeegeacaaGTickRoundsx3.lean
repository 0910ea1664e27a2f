-- Walks of the statement and of what it calls; made by a program of this workplace out of the translation.
import Derived.Test.YtfeehajeegeacaaGTickRoundsx0
import Derived.Test.YtfeehajeegeacaaGTickRoundsx1
import Derived.Test.YtfeehajeegeacaaGTickRoundsx2
namespace Go.Proofs.Ytfeehajeegeacaa.GTickRounds
open Go.RowKit Go.Proofs.YtfeehajeegeacaaW.PrintWords Go.Proofs.YtfeehajeegeacaaW.PrintLast Go.Proofs.YtfeehajeegeacaaW.PrintMore
attribute [local go_sem] max2_int min2_int max_two min_two max_three min_three max_four min_four   -- for this text's walks alone
set_option linter.unusedVariables false
set_option linter.unusedSimpArgs false

/-! ### complinelaw01_TickRounds: function 6 -/
def complinelaw01_TickRounds.j0 : Nat → Int → Int → Bool → Int → Int → Bool → Bool → Option (Bool)
  | 0, _, _, _, _, _, _, _ => none
  | k + 1, x0, x1, x5, x6, x7, x8, x51 => if x51 = true then (some false) else (if x8 = true then (if x5 = true then (if x7 = 18446744073709551615 then (some (x6 != x0)) else (some false)) else (some false)) else (if x6 = x0 then (if x5 = true then (some (x7 == x0)) else (some false)) else (if x5 = true then (if x1 > 0 then (if x1 < 64 then (if 0 ≤ (IntKind.u64.wrap (x1)) then (if (IntKind.u64.wrap (x7 - x6)) = (shl .u64 1 (IntKind.u64.wrap (x1))) then ((tick_Floor.f x7 x1).bind fun t152 => (if t152 = x7 then ((tick_Floor.f (IntKind.u64.wrap (x7 - 1)) x1).bind fun t153 => (some (t153 == x6))) else (some false))) else (some false)) else (none)) else (some false)) else (some false)) else (some false))))
def complinelaw01_TickRounds.f (k : Nat) (a0 : Int) (a1 : Int) : Option (Bool) := (complinelaw01_works.f k).bind fun t145 => (if t145 = true then ((tick_Floor.f a0 a1).bind fun t146 => ((tick_Ceil.f a0 a1).bind fun bt147 => ((tick_Ceil.f t146 a1).bind fun bt149 => (if t146 > a0 then (complinelaw01_TickRounds.j0 k a0 a1 t145 t146 bt147.1 bt147.2 true) else (if bt147.1 < a0 then (complinelaw01_TickRounds.j0 k a0 a1 t145 t146 bt147.1 bt147.2 true) else ((tick_Floor.f t146 a1).bind fun t151 => (if t151 = t146 then (if bt149.1 = t146 then (complinelaw01_TickRounds.j0 k a0 a1 t145 t146 bt147.1 bt147.2 bt149.2) else (complinelaw01_TickRounds.j0 k a0 a1 t145 t146 bt147.1 bt147.2 true)) else (complinelaw01_TickRounds.j0 k a0 a1 t145 t146 bt147.1 bt147.2 true)))))))) else (some false))
theorem complinelaw01_TickRounds.mono_l : ∀ k, (∀ y0 y1 y2 y3 y4 y5 y6, LeO (complinelaw01_TickRounds.j0 k y0 y1 y2 y3 y4 y5 y6) (complinelaw01_TickRounds.j0 (k + 1) y0 y1 y2 y3 y4 y5 y6))
  | 0 => fun _ _ _ _ _ _ _ r h => by simp [complinelaw01_TickRounds.j0] at h
  | k + 1 => by
    have ih0 := complinelaw01_TickRounds.mono_l k
    · intro y0 y1 y2 y3 y4 y5 y6
      unfold complinelaw01_TickRounds.j0
      repeat' first
      | (with_reducible exact ih0 _ _ _ _ _ _ _)
      | (with_reducible exact complinelaw01_works.mono _)
      | (with_reducible exact LeO.refl _)
      | (with_reducible exact LeO.none _)
      | (with_reducible refine LeO.ite ?_ ?_)
      | (with_reducible refine LeO.bind ?_ (fun _ => ?_))
      | exact ih0 _ _ _ _ _ _ _
      | exact complinelaw01_works.mono _
      | exact LeO.none _
      | refine LeO.ite ?_ ?_
      | refine LeO.bind ?_ (fun _ => ?_)
theorem complinelaw01_TickRounds.mono : ∀ a0 a1 k, LeO (complinelaw01_TickRounds.f k a0 a1) (complinelaw01_TickRounds.f (k + 1) a0 a1) := by
  intro a0 a1 k
  have ih0 := complinelaw01_TickRounds.mono_l k
  unfold complinelaw01_TickRounds.f
  repeat' first
      | (with_reducible exact ih0 _ _ _ _ _ _ _)
      | (with_reducible exact complinelaw01_works.mono _)
      | (with_reducible exact LeO.refl _)
      | (with_reducible exact LeO.none _)
      | (with_reducible refine LeO.ite ?_ ?_)
      | (with_reducible refine LeO.bind ?_ (fun _ => ?_))
      | exact ih0 _ _ _ _ _ _ _
      | exact complinelaw01_works.mono _
      | exact LeO.none _
      | refine LeO.ite ?_ ?_
      | refine LeO.bind ?_ (fun _ => ?_)
set_option maxHeartbeats 8000000 in
set_option maxRecDepth 100000 in
theorem complinelaw01_TickRounds.calls (k : Nat) (a0 : Int) (a1 : Int) (r : Bool) (w : World) (h : complinelaw01_TickRounds.f k a0 a1 = some r) :
    Calls Try.prog 6 #[.int .u64 a0, .int .i64 a1] w fun e w' => e = .returned (.bool r) ∧ Below w.heap.size w w' := by
  have HB := Aside0.mk (Below.refl w.heap.size w)
  have H : ((complinelaw01_works.f k).bind fun t145 => (if t145 = true then ((tick_Floor.f a0 a1).bind fun t146 => ((tick_Ceil.f a0 a1).bind fun bt147 => ((tick_Ceil.f t146 a1).bind fun bt149 => (if t146 > a0 then (complinelaw01_TickRounds.j0 k a0 a1 t145 t146 bt147.1 bt147.2 true) else (if bt147.1 < a0 then (complinelaw01_TickRounds.j0 k a0 a1 t145 t146 bt147.1 bt147.2 true) else ((tick_Floor.f t146 a1).bind fun t151 => (if t151 = t146 then (if bt149.1 = t146 then (complinelaw01_TickRounds.j0 k a0 a1 t145 t146 bt147.1 bt147.2 bt149.2) else (complinelaw01_TickRounds.j0 k a0 a1 t145 t146 bt147.1 bt147.2 true)) else (complinelaw01_TickRounds.j0 k a0 a1 t145 t146 bt147.1 bt147.2 true)))))))) else (some false))) = some r := h
  clear h
  replace H := Option.bind_eq_some_iff.mp H
  obtain ⟨t145, A30, H⟩ := H
  replace H : (if t145 = true then ((tick_Floor.f a0 a1).bind fun t146 => ((tick_Ceil.f a0 a1).bind fun bt147 => ((tick_Ceil.f t146 a1).bind fun bt149 => (if t146 > a0 then (complinelaw01_TickRounds.j0 k a0 a1 t145 t146 bt147.1 bt147.2 true) else (if bt147.1 < a0 then (complinelaw01_TickRounds.j0 k a0 a1 t145 t146 bt147.1 bt147.2 true) else ((tick_Floor.f t146 a1).bind fun t151 => (if t151 = t146 then (if bt149.1 = t146 then (complinelaw01_TickRounds.j0 k a0 a1 t145 t146 bt147.1 bt147.2 bt149.2) else (complinelaw01_TickRounds.j0 k a0 a1 t145 t146 bt147.1 bt147.2 true)) else (complinelaw01_TickRounds.j0 k a0 a1 t145 t146 bt147.1 bt147.2 true)))))))) else (some false)) = some r := H
  have A3 := Aside0.mk A30
  clear A30
  by_cases c4 : t145 = true
  · subst c4
    have H1 : ((tick_Floor.f a0 a1).bind fun t146 => ((tick_Ceil.f a0 a1).bind fun bt147 => ((tick_Ceil.f t146 a1).bind fun bt149 => (if t146 > a0 then (complinelaw01_TickRounds.j0 k a0 a1 true t146 bt147.1 bt147.2 true) else (if bt147.1 < a0 then (complinelaw01_TickRounds.j0 k a0 a1 true t146 bt147.1 bt147.2 true) else ((tick_Floor.f t146 a1).bind fun t151 => (if t151 = t146 then (if bt149.1 = t146 then (complinelaw01_TickRounds.j0 k a0 a1 true t146 bt147.1 bt147.2 bt149.2) else (complinelaw01_TickRounds.j0 k a0 a1 true t146 bt147.1 bt147.2 true)) else (complinelaw01_TickRounds.j0 k a0 a1 true t146 bt147.1 bt147.2 true)))))))) = some r := by rw [if_pos rfl] at H; exact H
    clear H
    have H := H1
    clear H1
    replace H := Option.bind_eq_some_iff.mp H
    obtain ⟨t146, A50, H⟩ := H
    replace H : ((tick_Ceil.f a0 a1).bind fun bt147 => ((tick_Ceil.f t146 a1).bind fun bt149 => (if t146 > a0 then (complinelaw01_TickRounds.j0 k a0 a1 true t146 bt147.1 bt147.2 true) else (if bt147.1 < a0 then (complinelaw01_TickRounds.j0 k a0 a1 true t146 bt147.1 bt147.2 true) else ((tick_Floor.f t146 a1).bind fun t151 => (if t151 = t146 then (if bt149.1 = t146 then (complinelaw01_TickRounds.j0 k a0 a1 true t146 bt147.1 bt147.2 bt149.2) else (complinelaw01_TickRounds.j0 k a0 a1 true t146 bt147.1 bt147.2 true)) else (complinelaw01_TickRounds.j0 k a0 a1 true t146 bt147.1 bt147.2 true))))))) = some r := H
    have A5 := Aside0.mk A50
    clear A50
    replace H := Option.bind_eq_some_iff.mp H
    obtain ⟨⟨t147, t148⟩, A60, H⟩ := H
    replace H : ((tick_Ceil.f t146 a1).bind fun bt149 => (if t146 > a0 then (complinelaw01_TickRounds.j0 k a0 a1 true t146 t147 t148 true) else (if t147 < a0 then (complinelaw01_TickRounds.j0 k a0 a1 true t146 t147 t148 true) else ((tick_Floor.f t146 a1).bind fun t151 => (if t151 = t146 then (if bt149.1 = t146 then (complinelaw01_TickRounds.j0 k a0 a1 true t146 t147 t148 bt149.2) else (complinelaw01_TickRounds.j0 k a0 a1 true t146 t147 t148 true)) else (complinelaw01_TickRounds.j0 k a0 a1 true t146 t147 t148 true)))))) = some r := H
    have A6 := Aside0.mk A60
    clear A60
    replace H := Option.bind_eq_some_iff.mp H
    obtain ⟨⟨t149, t150⟩, A70, H⟩ := H
    replace H : (if t146 > a0 then (complinelaw01_TickRounds.j0 k a0 a1 true t146 t147 t148 true) else (if t147 < a0 then (complinelaw01_TickRounds.j0 k a0 a1 true t146 t147 t148 true) else ((tick_Floor.f t146 a1).bind fun t151 => (if t151 = t146 then (if t149 = t146 then (complinelaw01_TickRounds.j0 k a0 a1 true t146 t147 t148 t150) else (complinelaw01_TickRounds.j0 k a0 a1 true t146 t147 t148 true)) else (complinelaw01_TickRounds.j0 k a0 a1 true t146 t147 t148 true))))) = some r := H
    have A7 := Aside0.mk A70
    clear A70
    have HC8 := Aside0.mk H
    clear H
    go_enter Try.func6, Try.ntmps6
    go_upto_region 7 with (first | ((with_reducible refine gate_callee (f := 11) rfl ?_); refine goesL_ (some 11) rfl rfl Try.func11 (by kernel_rfl) rfl #[] rfl (by (try simp only [List.map_toArray, List.map_cons, List.map_nil]); first | done | rfl | (simp only [List.length_drop, List.length_take]; rfl)) ?_; (with_reducible refine (complinelaw01_works.calls k  true _ A3.out).mono ?_); rintro e w9 ⟨rfl, hb⟩; refine ⟨_, rfl, ?_⟩; have n0_ := Aside0.mk (below_step (by repeat (first | (with_reducible first | exact HB.out | apply below_alloc | apply pw_below_drewN | apply below_drew1) | exact HB.out)) hb); clear HB; have HB := n0_; clear n0_; (try clear hb); (try clear hb2); (try clear hk); (try clear hi)) | ((with_reducible refine gate_callee (f := 18) rfl ?_); refine goesL_ (some 16) rfl rfl Try.func18 (by kernel_rfl) rfl #[.int .u64 a0, .int .i64 a1] rfl (by (try simp only [List.map_toArray, List.map_cons, List.map_nil]); first | done | rfl | (simp only [List.length_drop, List.length_take]; rfl)) ?_; (with_reducible refine (tick_Floor.calls a0 a1 t146 _ A5.out).mono ?_); rintro e w10 ⟨rfl, hb⟩; refine ⟨_, rfl, ?_⟩; have n0_ := Aside0.mk (below_step (by repeat (first | (with_reducible first | exact HB.out | apply below_alloc | apply pw_below_drewN | apply below_drew1) | exact HB.out)) hb); clear HB; have HB := n0_; clear n0_; (try clear hb); (try clear hb2); (try clear hk); (try clear hi)) | ((with_reducible refine gate_callee (f := 16) rfl ?_); refine goesL_ (some 20) rfl rfl Try.func16 (by kernel_rfl) rfl #[.int .u64 a0, .int .i64 a1] rfl (by (try simp only [List.map_toArray, List.map_cons, List.map_nil]); first | done | rfl | (simp only [List.length_drop, List.length_take]; rfl)) ?_; (with_reducible refine (tick_Ceil.calls a0 a1 t147 t148 _ A6.out).mono ?_); rintro e w11 ⟨rfl, hb⟩; refine ⟨_, rfl, ?_⟩; have n0_ := Aside0.mk (below_step (by repeat (first | (with_reducible first | exact HB.out | apply below_alloc | apply pw_below_drewN | apply below_drew1) | exact HB.out)) hb); clear HB; have HB := n0_; clear n0_; (try clear hb); (try clear hb2); (try clear hk); (try clear hi)) | ((with_reducible refine gate_callee (f := 16) rfl ?_); refine goesL_ (some 26) rfl rfl Try.func16 (by kernel_rfl) rfl #[.int .u64 t146, .int .i64 a1] rfl (by (try simp only [List.map_toArray, List.map_cons, List.map_nil]); first | done | rfl | (simp only [List.length_drop, List.length_take]; rfl)) ?_; (with_reducible refine (tick_Ceil.calls t146 a1 t149 t150 _ A7.out).mono ?_); rintro e w12 ⟨rfl, hb⟩; refine ⟨_, rfl, ?_⟩; have n0_ := Aside0.mk (below_step (by repeat (first | (with_reducible first | exact HB.out | apply below_alloc | apply pw_below_drewN | apply below_drew1) | exact HB.out)) hb); clear HB; have HB := n0_; clear n0_; (try clear hb); (try clear hb2); (try clear hk); (try clear hi)))
    (try simp only [Act.put, List.setIfInBounds_toArray, List.set_cons_zero, List.set_cons_succ])
    go_cut [51] (fun v51 wc => ∃ (kq : Nat) (x51_7 : Bool), v51 = .bool x51_7 ∧ Aside0 (complinelaw01_TickRounds.j0 kq a0 a1 true t146 t147 t148 x51_7 = some r) ∧ Aside0 (kq ≤ k) ∧ Aside0 (Below w.heap.size w wc))
    case first =>
      have H := HC8.out
      clear HC8
      by_cases c13 : t146 > a0
      · rw [if_pos c13] at H
        have c13b0 : decide (a0 < t146) = true := decide_eq_true c13
        clear c13
        (first | rw [c13b0] | (simp only [i64_w, i32_w]; rw [c13b0]) | skip)
        have H' := Aside0.mk H
        clear H
        go_wp2
        go_meet
        case rel => exact ⟨_, (true), (by first | rfl | (simp; done) | (simp [*]; done)), H', ⟨by first | omega | exact Nat.le_refl _⟩, ⟨by repeat (first | (with_reducible first | exact HB.out | apply below_alloc | apply pw_below_drewN | apply below_drew1) | exact HB.out)⟩⟩
      · rw [if_neg c13] at H
        have c13b0 : decide (a0 < t146) = false := decide_eq_false c13
        clear c13
        (first | rw [c13b0] | (simp only [i64_w, i32_w]; rw [c13b0]) | skip)
        by_cases c14 : t147 < a0
        · rw [if_pos c14] at H
          have c14b0 : decide (t147 < a0) = true := decide_eq_true c14
          clear c14
          have H' := Aside0.mk H
          clear H
          go_wp2
          go_meet
          case rel => exact ⟨_, (true), (by first | rfl | (simp; done) | (simp [*]; done)), H', ⟨by first | omega | exact Nat.le_refl _⟩, ⟨by repeat (first | (with_reducible first | exact HB.out | apply below_alloc | apply pw_below_drewN | apply below_drew1) | exact HB.out)⟩⟩
        · rw [if_neg c14] at H
          have c14b0 : decide (t147 < a0) = false := decide_eq_false c14
          clear c14
          replace H := Option.bind_eq_some_iff.mp H
          obtain ⟨t151, A150, H⟩ := H
          replace H : (if t151 = t146 then (if t149 = t146 then (complinelaw01_TickRounds.j0 k a0 a1 true t146 t147 t148 t150) else (complinelaw01_TickRounds.j0 k a0 a1 true t146 t147 t148 true)) else (complinelaw01_TickRounds.j0 k a0 a1 true t146 t147 t148 true)) = some r := H
          have A15 := Aside0.mk A150
          clear A150
          by_cases c16 : t151 = t146
          · rw [if_pos c16] at H
            have c16b0 : (t151 == t146) = true := beq_iff_eq.mpr c16
            have c16b1 : (t151 != t146) = false := bne_eq_false_iff_eq.mpr c16
            clear c16
            by_cases c17 : t149 = t146
            · rw [if_pos c17] at H
              have c17b0 : (t149 == t146) = true := beq_iff_eq.mpr c17
              have c17b1 : (t149 != t146) = false := bne_eq_false_iff_eq.mpr c17
              clear c17
              have H' := Aside0.mk H
              clear H
              go_wp2_with (first | (go_at_call 18; (with_reducible refine (tick_Floor.calls t146 a1 t151 _ A15.out).mono ?_); rintro e w18 ⟨rfl, hb⟩; have n0_ := Aside0.mk (below_step (by repeat (first | (with_reducible first | exact HB.out | apply below_alloc | apply pw_below_drewN | apply below_drew1) | exact HB.out)) hb); clear HB; have HB := n0_; clear n0_; (try clear hb); (try clear hb2); (try clear hk); (try clear hi)))
              go_meet
              case rel => exact ⟨_, (t150), (by first | rfl | (simp; done) | (simp [*]; done)), H', ⟨by first | omega | exact Nat.le_refl _⟩, ⟨by repeat (first | (with_reducible first | exact HB.out | apply below_alloc | apply pw_below_drewN | apply below_drew1) | exact HB.out)⟩⟩
            · rw [if_neg c17] at H
              have c17b0 : (t149 == t146) = false := beq_eq_false_iff_ne.mpr c17
              have c17b1 : (t149 != t146) = true := bne_iff_ne.mpr c17
              have H' := Aside0.mk H
              clear H
              go_wp2_with (first | (go_at_call 18; (with_reducible refine (tick_Floor.calls t146 a1 t151 _ A15.out).mono ?_); rintro e w19 ⟨rfl, hb⟩; have n0_ := Aside0.mk (below_step (by repeat (first | (with_reducible first | exact HB.out | apply below_alloc | apply pw_below_drewN | apply below_drew1) | exact HB.out)) hb); clear HB; have HB := n0_; clear n0_; (try clear hb); (try clear hb2); (try clear hk); (try clear hi)))
              go_meet
              case rel => exact ⟨_, (true), (by first | rfl | (simp; done) | (simp [*]; done)), H', ⟨by first | omega | exact Nat.le_refl _⟩, ⟨by repeat (first | (with_reducible first | exact HB.out | apply below_alloc | apply pw_below_drewN | apply below_drew1) | exact HB.out)⟩⟩
          · rw [if_neg c16] at H
            have c16b0 : (t151 == t146) = false := beq_eq_false_iff_ne.mpr c16
            have c16b1 : (t151 != t146) = true := bne_iff_ne.mpr c16
            have H' := Aside0.mk H
            clear H
            go_wp2_with (first | (go_at_call 18; (with_reducible refine (tick_Floor.calls t146 a1 t151 _ A15.out).mono ?_); rintro e w20 ⟨rfl, hb⟩; have n0_ := Aside0.mk (below_step (by repeat (first | (with_reducible first | exact HB.out | apply below_alloc | apply pw_below_drewN | apply below_drew1) | exact HB.out)) hb); clear HB; have HB := n0_; clear n0_; (try clear hb); (try clear hb2); (try clear hk); (try clear hi)))
            go_meet
            case rel => exact ⟨_, (true), (by first | rfl | (simp; done) | (simp [*]; done)), H', ⟨by first | omega | exact Nat.le_refl _⟩, ⟨by repeat (first | (with_reducible first | exact HB.out | apply below_alloc | apply pw_below_drewN | apply below_drew1) | exact HB.out)⟩⟩
    case rest =>
      clear HC8
      try clear c1
      try clear p2
      try clear c4
      try clear c6
      try clear c11
      try clear c13
      try clear c13b0
      try clear c14
      try clear c14b0
      try clear c16
      try clear c16b0
      try clear c16b1
      try clear c17
      try clear c17b0
      try clear c17b1
      try clear c18
      obtain ⟨kq, x51_7, rfl, HA, HJ7, HB⟩ := hcut
      cases kq with
      | zero => exact absurd HA.out (by simp [complinelaw01_TickRounds.j0])
      | succ kj7 =>
        have H := HA.out
        clear HA
        simp only [complinelaw01_TickRounds.j0] at H
        by_cases c21 : x51_7 = true
        · subst c21
          have H1 : (some false) = some r := by rw [if_pos rfl] at H; exact H
          clear H
          have H := H1
          clear H1
          obtain rfl := Option.some.inj H
          go_wp2
          go_ret
          exact ⟨by first | rfl | (simp [errW_none, errW_some] <;> rfl) | (simp [*, errW_none, errW_some] <;> rfl), by repeat (first | (with_reducible first | exact HB.out | apply below_alloc | apply pw_below_drewN | apply below_drew1) | exact HB.out)⟩
        · replace c21 := Bool.eq_false_iff.mpr c21
          subst c21
          have H1 : (if t148 = true then (if true = true then (if t147 = 18446744073709551615 then (some (t146 != a0)) else (some false)) else (some false)) else (if t146 = a0 then (if true = true then (some (t147 == a0)) else (some false)) else (if true = true then (if a1 > 0 then (if a1 < 64 then (if 0 ≤ (IntKind.u64.wrap (a1)) then (if (IntKind.u64.wrap (t147 - t146)) = (shl .u64 1 (IntKind.u64.wrap (a1))) then ((tick_Floor.f t147 a1).bind fun t152 => (if t152 = t147 then ((tick_Floor.f (IntKind.u64.wrap (t147 - 1)) a1).bind fun t153 => (some (t153 == t146))) else (some false))) else (some false)) else (none)) else (some false)) else (some false)) else (some false)))) = some r := by rw [if_neg (show ¬ (false = true) by decide)] at H; exact H
          clear H
          have H := H1
          clear H1
          by_cases c22 : t148 = true
          · subst c22
            have H1 : (if true = true then (if t147 = 18446744073709551615 then (some (t146 != a0)) else (some false)) else (some false)) = some r := by rw [if_pos rfl] at H; exact H
            clear H
            have H := H1
            clear H1
            have c23 : true = true := rfl
            · clear c23
              have H1 : (if t147 = 18446744073709551615 then (some (t146 != a0)) else (some false)) = some r := by (first | rw [if_pos rfl] at H | rw [if_pos trivial] at H); exact H
              clear H
              have H := H1
              clear H1
              by_cases c24 : t147 = 18446744073709551615
              · rw [if_pos c24] at H
                have c24b0 : (t147 == 18446744073709551615) = true := beq_iff_eq.mpr c24
                have c24b1 : (t147 != 18446744073709551615) = false := bne_eq_false_iff_eq.mpr c24
                clear c24
                obtain rfl := Option.some.inj H
                go_wp2
                go_ret
                exact ⟨by first | rfl | (simp [errW_none, errW_some] <;> rfl) | (simp [*, errW_none, errW_some] <;> rfl), by repeat (first | (with_reducible first | exact HB.out | apply below_alloc | apply pw_below_drewN | apply below_drew1) | exact HB.out)⟩
              · rw [if_neg c24] at H
                have c24b0 : (t147 == 18446744073709551615) = false := beq_eq_false_iff_ne.mpr c24
                have c24b1 : (t147 != 18446744073709551615) = true := bne_iff_ne.mpr c24
                obtain rfl := Option.some.inj H
                go_wp2
                go_ret
                exact ⟨by first | rfl | (simp [errW_none, errW_some] <;> rfl) | (simp [*, errW_none, errW_some] <;> rfl), by repeat (first | (with_reducible first | exact HB.out | apply below_alloc | apply pw_below_drewN | apply below_drew1) | exact HB.out)⟩
          · replace c22 := Bool.eq_false_iff.mpr c22
            subst c22
            have H1 : (if t146 = a0 then (if true = true then (some (t147 == a0)) else (some false)) else (if true = true then (if a1 > 0 then (if a1 < 64 then (if 0 ≤ (IntKind.u64.wrap (a1)) then (if (IntKind.u64.wrap (t147 - t146)) = (shl .u64 1 (IntKind.u64.wrap (a1))) then ((tick_Floor.f t147 a1).bind fun t152 => (if t152 = t147 then ((tick_Floor.f (IntKind.u64.wrap (t147 - 1)) a1).bind fun t153 => (some (t153 == t146))) else (some false))) else (some false)) else (none)) else (some false)) else (some false)) else (some false))) = some r := by rw [if_neg (show ¬ (false = true) by decide)] at H; exact H
            clear H
            have H := H1
            clear H1
            by_cases c25 : t146 = a0
            · rw [if_pos c25] at H
              have c25b0 : (t146 == a0) = true := beq_iff_eq.mpr c25
              have c25b1 : (t146 != a0) = false := bne_eq_false_iff_eq.mpr c25
              clear c25
              have c26 : true = true := rfl
              · clear c26
                have H1 : (some (t147 == a0)) = some r := by (first | rw [if_pos rfl] at H | rw [if_pos trivial] at H); exact H
                clear H
                have H := H1
                clear H1
                obtain rfl := Option.some.inj H
                go_wp2
                go_ret
                exact ⟨by first | rfl | (simp [errW_none, errW_some] <;> rfl) | (simp [*, errW_none, errW_some] <;> rfl), by repeat (first | (with_reducible first | exact HB.out | apply below_alloc | apply pw_below_drewN | apply below_drew1) | exact HB.out)⟩
            · rw [if_neg c25] at H
              have c25b0 : (t146 == a0) = false := beq_eq_false_iff_ne.mpr c25
              have c25b1 : (t146 != a0) = true := bne_iff_ne.mpr c25
              have c27 : true = true := rfl
              · clear c27
                have H1 : (if a1 > 0 then (if a1 < 64 then (if 0 ≤ (IntKind.u64.wrap (a1)) then (if (IntKind.u64.wrap (t147 - t146)) = (shl .u64 1 (IntKind.u64.wrap (a1))) then ((tick_Floor.f t147 a1).bind fun t152 => (if t152 = t147 then ((tick_Floor.f (IntKind.u64.wrap (t147 - 1)) a1).bind fun t153 => (some (t153 == t146))) else (some false))) else (some false)) else (none)) else (some false)) else (some false)) = some r := by (first | rw [if_pos rfl] at H | rw [if_pos trivial] at H); exact H
                clear H
                have H := H1
                clear H1
                by_cases c28 : a1 > 0
                · rw [if_pos c28] at H
                  have c28b0 : decide (0 < a1) = true := decide_eq_true c28
                  clear c28
                  by_cases c29 : a1 < 64
                  · rw [if_pos c29] at H
                    have c29b0 : decide (a1 < 64) = true := decide_eq_true c29
                    clear c29
                    obtain ⟨ji30, hji30⟩ : ∃ j_ : Int, (IntKind.u64.wrap (a1)) = j_ := ⟨_, rfl⟩
                    replace H : (if 0 ≤ (ji30) then (if (IntKind.u64.wrap (t147 - t146)) = (shl .u64 1 (ji30)) then ((tick_Floor.f t147 a1).bind fun t152 => (if t152 = t147 then ((tick_Floor.f (IntKind.u64.wrap (t147 - 1)) a1).bind fun t153 => (some (t153 == t146))) else (some false))) else (some false)) else (none)) = some r := by first | (rw [hji30] at H; exact H) | (simp only [hji30] at H ⊢; exact H)
                    by_cases c31 : 0 ≤ (ji30)
                    · rw [if_pos c31] at H
                      have c31b0 := eq_true c31
                      have c31b1 : decide (0 ≤ (ji30)) = true := decide_eq_true c31
                      clear c31
                      obtain ⟨ji32, hji32⟩ : ∃ j_ : Int, (shl .u64 1 (ji30)) = j_ := ⟨_, rfl⟩
                      replace H : (if (IntKind.u64.wrap (t147 - t146)) = (ji32) then ((tick_Floor.f t147 a1).bind fun t152 => (if t152 = t147 then ((tick_Floor.f (IntKind.u64.wrap (t147 - 1)) a1).bind fun t153 => (some (t153 == t146))) else (some false))) else (some false)) = some r := by first | (rw [hji32] at H; exact H) | (simp only [hji32] at H ⊢; exact H)
                      have hji32_ : (IntKind.u64.wrap (1 * 2 ^ min (ji30).toNat 64)) = ji32 := hji32
                      have hji32z : (ji30) ≤ 64 → (IntKind.u64.wrap (1 * 2 ^ (ji30).toNat)) = ji32 := shl_small hji32
                      have hji32u : (IntKind.u64.wrap (2 ^ min (ji30).toNat 64)) = ji32 := by have h_ := hji32_; rw [Int.one_mul] at h_; exact h_
                      have hji32v : (ji30) ≤ 64 → (IntKind.u64.wrap (2 ^ (ji30).toNat)) = ji32 := fun hle_ => by have h_ := hji32z hle_; rw [Int.one_mul] at h_; exact h_
                      by_cases c33 : (IntKind.u64.wrap (t147 - t146)) = (ji32)
                      · rw [if_pos c33] at H
                        have c33b0 : ((IntKind.u64.wrap (t147 - t146)) == (ji32)) = true := beq_iff_eq.mpr c33
                        have c33b1 : ((IntKind.u64.wrap (t147 - t146)) != (ji32)) = false := bne_eq_false_iff_eq.mpr c33
                        clear c33
                        replace H := Option.bind_eq_some_iff.mp H
                        obtain ⟨t152, A340, H⟩ := H
                        replace H : (if t152 = t147 then ((tick_Floor.f (IntKind.u64.wrap (t147 - 1)) a1).bind fun t153 => (some (t153 == t146))) else (some false)) = some r := H
                        have A34 := Aside0.mk A340
                        clear A340
                        by_cases c35 : t152 = t147
                        · rw [if_pos c35] at H
                          have c35b0 : (t152 == t147) = true := beq_iff_eq.mpr c35
                          have c35b1 : (t152 != t147) = false := bne_eq_false_iff_eq.mpr c35
                          clear c35
                          replace H := Option.bind_eq_some_iff.mp H
                          obtain ⟨t153, A360, H⟩ := H
                          replace H : (some (t153 == t146)) = some r := H
                          have A36 := Aside0.mk A360
                          clear A360
                          obtain rfl := Option.some.inj H
                          go_wp2_with (first | (go_at_call 18; (with_reducible refine (tick_Floor.calls t147 a1 t152 _ A34.out).mono ?_); rintro e w37 ⟨rfl, hb⟩; have n0_ := Aside0.mk (below_step (by repeat (first | (with_reducible first | exact HB.out | apply below_alloc | apply pw_below_drewN | apply below_drew1) | exact HB.out)) hb); clear HB; have HB := n0_; clear n0_; (try clear hb); (try clear hb2); (try clear hk); (try clear hi)) | (go_at_call 18; (with_reducible refine (tick_Floor.calls (IntKind.u64.wrap (t147 - 1)) a1 t153 _ A36.out).mono ?_); rintro e w38 ⟨rfl, hb⟩; have n0_ := Aside0.mk (below_step (by repeat (first | (with_reducible first | exact HB.out | apply below_alloc | apply pw_below_drewN | apply below_drew1) | exact HB.out)) hb); clear HB; have HB := n0_; clear n0_; (try clear hb); (try clear hb2); (try clear hk); (try clear hi)))
                          go_ret
                          exact ⟨by first | rfl | (simp [errW_none, errW_some] <;> rfl) | (simp only [← hji30, ← hji32]; first | rfl | (simp [errW_none, errW_some] <;> rfl)) | (simp [*, errW_none, errW_some] <;> rfl), by repeat (first | (with_reducible first | exact HB.out | apply below_alloc | apply pw_below_drewN | apply below_drew1) | exact HB.out)⟩
                        · rw [if_neg c35] at H
                          have c35b0 : (t152 == t147) = false := beq_eq_false_iff_ne.mpr c35
                          have c35b1 : (t152 != t147) = true := bne_iff_ne.mpr c35
                          obtain rfl := Option.some.inj H
                          go_wp2_with (first | (go_at_call 18; (with_reducible refine (tick_Floor.calls t147 a1 t152 _ A34.out).mono ?_); rintro e w39 ⟨rfl, hb⟩; have n0_ := Aside0.mk (below_step (by repeat (first | (with_reducible first | exact HB.out | apply below_alloc | apply pw_below_drewN | apply below_drew1) | exact HB.out)) hb); clear HB; have HB := n0_; clear n0_; (try clear hb); (try clear hb2); (try clear hk); (try clear hi)))
                          go_ret
                          exact ⟨by first | rfl | (simp [errW_none, errW_some] <;> rfl) | (simp only [← hji30, ← hji32]; first | rfl | (simp [errW_none, errW_some] <;> rfl)) | (simp [*, errW_none, errW_some] <;> rfl), by repeat (first | (with_reducible first | exact HB.out | apply below_alloc | apply pw_below_drewN | apply below_drew1) | exact HB.out)⟩
                      · rw [if_neg c33] at H
                        have c33b0 : ((IntKind.u64.wrap (t147 - t146)) == (ji32)) = false := beq_eq_false_iff_ne.mpr c33
                        have c33b1 : ((IntKind.u64.wrap (t147 - t146)) != (ji32)) = true := bne_iff_ne.mpr c33
                        obtain rfl := Option.some.inj H
                        go_wp2
                        go_ret
                        exact ⟨by first | rfl | (simp [errW_none, errW_some] <;> rfl) | (simp only [← hji30, ← hji32]; first | rfl | (simp [errW_none, errW_some] <;> rfl)) | (simp [*, errW_none, errW_some] <;> rfl), by repeat (first | (with_reducible first | exact HB.out | apply below_alloc | apply pw_below_drewN | apply below_drew1) | exact HB.out)⟩
                    · rw [if_neg c31] at H
                      exact absurd H (by simp)
                  · rw [if_neg c29] at H
                    have c29b0 : decide (a1 < 64) = false := decide_eq_false c29
                    clear c29
                    obtain rfl := Option.some.inj H
                    go_wp2
                    go_ret
                    exact ⟨by first | rfl | (simp [errW_none, errW_some] <;> rfl) | (simp [*, errW_none, errW_some] <;> rfl), by repeat (first | (with_reducible first | exact HB.out | apply below_alloc | apply pw_below_drewN | apply below_drew1) | exact HB.out)⟩
                · rw [if_neg c28] at H
                  have c28b0 : decide (0 < a1) = false := decide_eq_false c28
                  clear c28
                  obtain rfl := Option.some.inj H
                  go_wp2
                  go_ret
                  exact ⟨by first | rfl | (simp [errW_none, errW_some] <;> rfl) | (simp [*, errW_none, errW_some] <;> rfl), by repeat (first | (with_reducible first | exact HB.out | apply below_alloc | apply pw_below_drewN | apply below_drew1) | exact HB.out)⟩
  · replace c4 := Bool.eq_false_iff.mpr c4
    subst c4
    have H1 : (some false) = some r := by rw [if_neg (show ¬ (false = true) by decide)] at H; exact H
    clear H
    have H := H1
    clear H1
    obtain rfl := Option.some.inj H
    go_enter Try.func6, Try.ntmps6
    go_wp2_with (first | ((with_reducible refine gate_callee (f := 11) rfl ?_); refine goesL_ (some 11) rfl rfl Try.func11 (by kernel_rfl) rfl #[] rfl (by (try simp only [List.map_toArray, List.map_cons, List.map_nil]); first | done | rfl | (simp only [List.length_drop, List.length_take]; rfl)) ?_; (with_reducible refine (complinelaw01_works.calls k  false _ A3.out).mono ?_); rintro e w40 ⟨rfl, hb⟩; refine ⟨_, rfl, ?_⟩; have n0_ := Aside0.mk (below_step (by repeat (first | (with_reducible first | exact HB.out | apply below_alloc | apply pw_below_drewN | apply below_drew1) | exact HB.out)) hb); clear HB; have HB := n0_; clear n0_; (try clear hb); (try clear hb2); (try clear hk); (try clear hi)))
    go_ret
    exact ⟨by first | rfl | (simp [errW_none, errW_some] <;> rfl) | (simp [*, errW_none, errW_some] <;> rfl), by repeat (first | (with_reducible first | exact HB.out | apply below_alloc | apply pw_below_drewN | apply below_drew1) | exact HB.out)⟩

/-- THE ONE PURE STATEMENT of complinelaw01_TickRounds: yours. -/
def complinelaw01_TickRounds.Pure : Prop := ∀ (a0 : Int) (a1 : Int), (Lit.int .u64 a0).wf = true → (Lit.int .i64 a1).wf = true → ∃ k, complinelaw01_TickRounds.f k a0 a1 = some true
theorem complinelaw01_TickRounds.walk (P : complinelaw01_TickRounds.Pure) (a0 : Int) (a1 : Int) (w : World) (w0 : (Lit.int .u64 a0).wf = true) (w1 : (Lit.int .i64 a1).wf = true) :
    Calls Try.prog 6 #[.int .u64 a0, .int .i64 a1] w fun e w' => e = .returned (.bool true) ∧ Below w.heap.size w w' := by
  obtain ⟨k, h⟩ := P a0 a1 w0 w1
  refine (complinelaw01_TickRounds.calls k a0 a1 true w h).mono ?_
  rintro e w' ⟨rfl, hd⟩
  exact ⟨rfl, hd⟩

end Go.Proofs.Ytfeehajeegeacaa.GTickRounds
