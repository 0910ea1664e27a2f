-- Walks of the statement and of what it calls; made by a program of this workplace out of the translation.
import Derived.Test.YtfeehajeegeacaaGTickBackx0
import Derived.Test.YtfeehajeegeacaaGTickBackx1
import Derived.Test.YtfeehajeegeacaaGTickBackx2
namespace Go.Proofs.Ytfeehajeegeacaa.GTickBack
open Go.RowKit Go.Proofs.YtfeehajeegeacaaW.PrintWords Go.Proofs.YtfeehajeegeacaaW.PrintLast Go.Proofs.YtfeehajeegeacaaW.PrintMore
attribute [local go_sem] max2_int min2_int max_two min_two max_three min_three max_four min_four   -- for this text's walks alone
set_option linter.unusedVariables false
set_option linter.unusedSimpArgs false

/-! ### complinelaw01_TickBack: function 4 -/
def complinelaw01_TickBack.j0 : Nat → Int → Int → Bool → Int → Bool → Bool → Option (Bool)
  | 0, _, _, _, _, _, _ => none
  | k + 1, x0, x1, x5, x6, x7, x32 => if x32 = true then (some false) else (if x7 = true then (if x5 = true then (if x6 = 18446744073709551615 then ((tick_Sub.f 18446744073709551615 x0).bind fun t150 => (some (decide (t150 < x1)))) else (some false)) else (some false)) else (if x5 = true then (if x6 ≥ x0 then ((tick_Sub.f x6 x0).bind fun t151 => (if t151 = x1 then ((tick_Sub.f x6 x1).bind fun t152 => (if t152 = x0 then ((tick_Sub.f x0 x6).bind fun t153 => (some (t153 == 0))) else (some false))) else (some false))) else (some false)) else (some false)))
def complinelaw01_TickBack.f (k : Nat) (a0 : Int) (a1 : Int) : Option (Bool) := (complinelaw01_works.f k).bind fun t145 => (if t145 = true then ((tick_Add.f a0 a1).bind fun bt146 => ((tick_Add.f a1 a0).bind fun bt148 => (if bt146.1 = bt148.1 then (complinelaw01_TickBack.j0 k a0 a1 t145 bt146.1 bt146.2 (bt146.2 != bt148.2)) else (complinelaw01_TickBack.j0 k a0 a1 t145 bt146.1 bt146.2 true)))) else (some false))
theorem complinelaw01_TickBack.mono_l : ∀ k, (∀ y0 y1 y2 y3 y4 y5, LeO (complinelaw01_TickBack.j0 k y0 y1 y2 y3 y4 y5) (complinelaw01_TickBack.j0 (k + 1) y0 y1 y2 y3 y4 y5))
  | 0 => fun _ _ _ _ _ _ r h => by simp [complinelaw01_TickBack.j0] at h
  | k + 1 => by
    have ih0 := complinelaw01_TickBack.mono_l k
    · intro y0 y1 y2 y3 y4 y5
      unfold complinelaw01_TickBack.j0
      repeat' first
      | (with_reducible exact ih0 _ _ _ _ _ _)
      | (with_reducible exact complinelaw01_works.mono _)
      | (with_reducible exact LeO.refl _)
      | (with_reducible exact LeO.none _)
      | (with_reducible refine LeO.ite ?_ ?_)
      | (with_reducible refine LeO.bind ?_ (fun _ => ?_))
      | exact ih0 _ _ _ _ _ _
      | exact complinelaw01_works.mono _
      | exact LeO.none _
      | refine LeO.ite ?_ ?_
      | refine LeO.bind ?_ (fun _ => ?_)
theorem complinelaw01_TickBack.mono : ∀ a0 a1 k, LeO (complinelaw01_TickBack.f k a0 a1) (complinelaw01_TickBack.f (k + 1) a0 a1) := by
  intro a0 a1 k
  have ih0 := complinelaw01_TickBack.mono_l k
  unfold complinelaw01_TickBack.f
  repeat' first
      | (with_reducible exact ih0 _ _ _ _ _ _)
      | (with_reducible exact complinelaw01_works.mono _)
      | (with_reducible exact LeO.refl _)
      | (with_reducible exact LeO.none _)
      | (with_reducible refine LeO.ite ?_ ?_)
      | (with_reducible refine LeO.bind ?_ (fun _ => ?_))
      | exact ih0 _ _ _ _ _ _
      | exact complinelaw01_works.mono _
      | exact LeO.none _
      | refine LeO.ite ?_ ?_
      | refine LeO.bind ?_ (fun _ => ?_)
set_option maxHeartbeats 8000000 in
set_option maxRecDepth 100000 in
theorem complinelaw01_TickBack.calls (k : Nat) (a0 : Int) (a1 : Int) (r : Bool) (w : World) (h : complinelaw01_TickBack.f k a0 a1 = some r) :
    Calls Try.prog 4 #[.int .u64 a0, .int .u64 a1] w fun e w' => e = .returned (.bool r) ∧ Below w.heap.size w w' := by
  have HB := Aside0.mk (Below.refl w.heap.size w)
  have H : ((complinelaw01_works.f k).bind fun t145 => (if t145 = true then ((tick_Add.f a0 a1).bind fun bt146 => ((tick_Add.f a1 a0).bind fun bt148 => (if bt146.1 = bt148.1 then (complinelaw01_TickBack.j0 k a0 a1 t145 bt146.1 bt146.2 (bt146.2 != bt148.2)) else (complinelaw01_TickBack.j0 k a0 a1 t145 bt146.1 bt146.2 true)))) else (some false))) = some r := h
  clear h
  replace H := Option.bind_eq_some_iff.mp H
  obtain ⟨t145, A30, H⟩ := H
  replace H : (if t145 = true then ((tick_Add.f a0 a1).bind fun bt146 => ((tick_Add.f a1 a0).bind fun bt148 => (if bt146.1 = bt148.1 then (complinelaw01_TickBack.j0 k a0 a1 t145 bt146.1 bt146.2 (bt146.2 != bt148.2)) else (complinelaw01_TickBack.j0 k a0 a1 t145 bt146.1 bt146.2 true)))) else (some false)) = some r := H
  have A3 := Aside0.mk A30
  clear A30
  by_cases c4 : t145 = true
  · subst c4
    have H1 : ((tick_Add.f a0 a1).bind fun bt146 => ((tick_Add.f a1 a0).bind fun bt148 => (if bt146.1 = bt148.1 then (complinelaw01_TickBack.j0 k a0 a1 true bt146.1 bt146.2 (bt146.2 != bt148.2)) else (complinelaw01_TickBack.j0 k a0 a1 true bt146.1 bt146.2 true)))) = some r := by rw [if_pos rfl] at H; exact H
    clear H
    have H := H1
    clear H1
    replace H := Option.bind_eq_some_iff.mp H
    obtain ⟨⟨t146, t147⟩, A50, H⟩ := H
    replace H : ((tick_Add.f a1 a0).bind fun bt148 => (if t146 = bt148.1 then (complinelaw01_TickBack.j0 k a0 a1 true t146 t147 (t147 != bt148.2)) else (complinelaw01_TickBack.j0 k a0 a1 true t146 t147 true))) = some r := H
    have A5 := Aside0.mk A50
    clear A50
    replace H := Option.bind_eq_some_iff.mp H
    obtain ⟨⟨t148, t149⟩, A60, H⟩ := H
    replace H : (if t146 = t148 then (complinelaw01_TickBack.j0 k a0 a1 true t146 t147 (t147 != t149)) else (complinelaw01_TickBack.j0 k a0 a1 true t146 t147 true)) = some r := H
    have A6 := Aside0.mk A60
    clear A60
    have HC7 := Aside0.mk H
    clear H
    go_enter Try.func4, Try.ntmps4
    go_upto_region 6 with (first | ((with_reducible refine gate_callee (f := 11) rfl ?_); refine goesL_ (some 10) rfl rfl Try.func11 (by kernel_rfl) rfl #[] rfl (by (try simp only [List.map_toArray, List.map_cons, List.map_nil]); first | done | rfl | (simp only [List.length_drop, List.length_take]; rfl)) ?_; (with_reducible refine (complinelaw01_works.calls k  true _ A3.out).mono ?_); rintro e w8 ⟨rfl, hb⟩; refine ⟨_, rfl, ?_⟩; have n0_ := Aside0.mk (below_step (by repeat (first | (with_reducible first | exact HB.out | apply below_alloc | apply pw_below_drewN | apply below_drew1) | exact HB.out)) hb); clear HB; have HB := n0_; clear n0_; (try clear hb); (try clear hb2); (try clear hk); (try clear hi)) | ((with_reducible refine gate_callee (f := 12) rfl ?_); refine goesL_ (some 16) rfl rfl Try.func12 (by kernel_rfl) rfl #[.int .u64 a0, .int .u64 a1] rfl (by (try simp only [List.map_toArray, List.map_cons, List.map_nil]); first | done | rfl | (simp only [List.length_drop, List.length_take]; rfl)) ?_; (with_reducible refine (tick_Add.calls a0 a1 t146 t147 _ A5.out).mono ?_); rintro e w' ⟨rfl, ⟨nd, rfl⟩⟩; refine ⟨_, rfl, ?_⟩) | ((with_reducible refine gate_callee (f := 12) rfl ?_); refine goesL_ (some 22) rfl rfl Try.func12 (by kernel_rfl) rfl #[.int .u64 a1, .int .u64 a0] rfl (by (try simp only [List.map_toArray, List.map_cons, List.map_nil]); first | done | rfl | (simp only [List.length_drop, List.length_take]; rfl)) ?_; (with_reducible refine (tick_Add.calls a1 a0 t148 t149 _ A6.out).mono ?_); rintro e w' ⟨rfl, ⟨nd, rfl⟩⟩; refine ⟨_, rfl, ?_⟩))
    (try simp only [Act.put, List.setIfInBounds_toArray, List.set_cons_zero, List.set_cons_succ])
    go_cut [32] (fun v32 wc => ∃ (kq : Nat) (x32_6 : Bool), v32 = .bool x32_6 ∧ Aside0 (complinelaw01_TickBack.j0 kq a0 a1 true t146 t147 x32_6 = some r) ∧ Aside0 (kq ≤ k) ∧ Aside0 (Below w.heap.size w wc))
    case first =>
      have H := HC7.out
      clear HC7
      by_cases c9 : t146 = t148
      · rw [if_pos c9] at H
        have c9b0 : (t146 == t148) = true := beq_iff_eq.mpr c9
        have c9b1 : (t146 != t148) = false := bne_eq_false_iff_eq.mpr c9
        clear c9
        (first | rw [c9b0] | (simp only [i64_w, i32_w]; rw [c9b0]) | skip)
        have H' := Aside0.mk H
        clear H
        go_wp2
        go_meet
        case rel => exact ⟨_, ((t147 != t149)), (by first | rfl | (simp; done) | (simp [*]; done)), H', ⟨by first | omega | exact Nat.le_refl _⟩, ⟨by repeat (first | (with_reducible first | exact HB.out | apply below_alloc | apply pw_below_drewN | apply below_drew1) | exact HB.out)⟩⟩
      · rw [if_neg c9] at H
        have c9b0 : (t146 == t148) = false := beq_eq_false_iff_ne.mpr c9
        have c9b1 : (t146 != t148) = true := bne_iff_ne.mpr c9
        (first | rw [c9b0] | (simp only [i64_w, i32_w]; rw [c9b0]) | skip)
        have H' := Aside0.mk H
        clear H
        go_wp2
        go_meet
        case rel => exact ⟨_, (true), (by first | rfl | (simp; done) | (simp [*]; done)), H', ⟨by first | omega | exact Nat.le_refl _⟩, ⟨by repeat (first | (with_reducible first | exact HB.out | apply below_alloc | apply pw_below_drewN | apply below_drew1) | exact HB.out)⟩⟩
    case rest =>
      clear HC7
      try clear c1
      try clear p2
      try clear c4
      try clear c9
      try clear c9b0
      try clear c9b1
      obtain ⟨kq, x32_6, rfl, HA, HJ6, HB⟩ := hcut
      cases kq with
      | zero => exact absurd HA.out (by simp [complinelaw01_TickBack.j0])
      | succ kj6 =>
        have H := HA.out
        clear HA
        simp only [complinelaw01_TickBack.j0] at H
        by_cases c10 : x32_6 = true
        · subst c10
          have H1 : (some false) = some r := by rw [if_pos rfl] at H; exact H
          clear H
          have H := H1
          clear H1
          obtain rfl := Option.some.inj H
          go_wp2
          go_ret
          exact ⟨by first | rfl | (simp [errW_none, errW_some] <;> rfl) | (simp [*, errW_none, errW_some] <;> rfl), by repeat (first | (with_reducible first | exact HB.out | apply below_alloc | apply pw_below_drewN | apply below_drew1) | exact HB.out)⟩
        · replace c10 := Bool.eq_false_iff.mpr c10
          subst c10
          have H1 : (if t147 = true then (if true = true then (if t146 = 18446744073709551615 then ((tick_Sub.f 18446744073709551615 a0).bind fun t150 => (some (decide (t150 < a1)))) else (some false)) else (some false)) else (if true = true then (if t146 ≥ a0 then ((tick_Sub.f t146 a0).bind fun t151 => (if t151 = a1 then ((tick_Sub.f t146 a1).bind fun t152 => (if t152 = a0 then ((tick_Sub.f a0 t146).bind fun t153 => (some (t153 == 0))) else (some false))) else (some false))) else (some false)) else (some false))) = some r := by rw [if_neg (show ¬ (false = true) by decide)] at H; exact H
          clear H
          have H := H1
          clear H1
          by_cases c11 : t147 = true
          · subst c11
            have H1 : (if true = true then (if t146 = 18446744073709551615 then ((tick_Sub.f 18446744073709551615 a0).bind fun t150 => (some (decide (t150 < a1)))) else (some false)) else (some false)) = some r := by rw [if_pos rfl] at H; exact H
            clear H
            have H := H1
            clear H1
            have c12 : true = true := rfl
            · clear c12
              have H1 : (if t146 = 18446744073709551615 then ((tick_Sub.f 18446744073709551615 a0).bind fun t150 => (some (decide (t150 < a1)))) else (some false)) = some r := by (first | rw [if_pos rfl] at H | rw [if_pos trivial] at H); exact H
              clear H
              have H := H1
              clear H1
              by_cases c13 : t146 = 18446744073709551615
              · rw [if_pos c13] at H
                have c13b0 : (t146 == 18446744073709551615) = true := beq_iff_eq.mpr c13
                have c13b1 : (t146 != 18446744073709551615) = false := bne_eq_false_iff_eq.mpr c13
                clear c13
                replace H := Option.bind_eq_some_iff.mp H
                obtain ⟨t150, A140, H⟩ := H
                replace H : (some (decide (t150 < a1))) = some r := H
                have A14 := Aside0.mk A140
                clear A140
                obtain rfl := Option.some.inj H
                go_wp2_with (first | (go_at_call 14; (with_reducible refine (tick_Sub.calls 18446744073709551615 a0 t150 _ A14.out).mono ?_); rintro e w' ⟨rfl, ⟨nd, rfl⟩⟩))
                go_ret
                exact ⟨by first | rfl | (simp [errW_none, errW_some] <;> rfl) | (simp [*, errW_none, errW_some] <;> rfl), by repeat (first | (with_reducible first | exact HB.out | apply below_alloc | apply pw_below_drewN | apply below_drew1) | exact HB.out)⟩
              · rw [if_neg c13] at H
                have c13b0 : (t146 == 18446744073709551615) = false := beq_eq_false_iff_ne.mpr c13
                have c13b1 : (t146 != 18446744073709551615) = true := bne_iff_ne.mpr c13
                obtain rfl := Option.some.inj H
                go_wp2
                go_ret
                exact ⟨by first | rfl | (simp [errW_none, errW_some] <;> rfl) | (simp [*, errW_none, errW_some] <;> rfl), by repeat (first | (with_reducible first | exact HB.out | apply below_alloc | apply pw_below_drewN | apply below_drew1) | exact HB.out)⟩
          · replace c11 := Bool.eq_false_iff.mpr c11
            subst c11
            have H1 : (if true = true then (if t146 ≥ a0 then ((tick_Sub.f t146 a0).bind fun t151 => (if t151 = a1 then ((tick_Sub.f t146 a1).bind fun t152 => (if t152 = a0 then ((tick_Sub.f a0 t146).bind fun t153 => (some (t153 == 0))) else (some false))) else (some false))) else (some false)) else (some false)) = some r := by rw [if_neg (show ¬ (false = true) by decide)] at H; exact H
            clear H
            have H := H1
            clear H1
            have c15 : true = true := rfl
            · clear c15
              have H1 : (if t146 ≥ a0 then ((tick_Sub.f t146 a0).bind fun t151 => (if t151 = a1 then ((tick_Sub.f t146 a1).bind fun t152 => (if t152 = a0 then ((tick_Sub.f a0 t146).bind fun t153 => (some (t153 == 0))) else (some false))) else (some false))) else (some false)) = some r := by (first | rw [if_pos rfl] at H | rw [if_pos trivial] at H); exact H
              clear H
              have H := H1
              clear H1
              by_cases c16 : t146 ≥ a0
              · rw [if_pos c16] at H
                have c16b0 : decide (a0 ≤ t146) = true := decide_eq_true c16
                clear c16
                replace H := Option.bind_eq_some_iff.mp H
                obtain ⟨t151, A170, H⟩ := H
                replace H : (if t151 = a1 then ((tick_Sub.f t146 a1).bind fun t152 => (if t152 = a0 then ((tick_Sub.f a0 t146).bind fun t153 => (some (t153 == 0))) else (some false))) else (some false)) = some r := H
                have A17 := Aside0.mk A170
                clear A170
                by_cases c18 : t151 = a1
                · rw [if_pos c18] at H
                  have c18b0 : (t151 == a1) = true := beq_iff_eq.mpr c18
                  have c18b1 : (t151 != a1) = false := bne_eq_false_iff_eq.mpr c18
                  clear c18
                  replace H := Option.bind_eq_some_iff.mp H
                  obtain ⟨t152, A190, H⟩ := H
                  replace H : (if t152 = a0 then ((tick_Sub.f a0 t146).bind fun t153 => (some (t153 == 0))) else (some false)) = some r := H
                  have A19 := Aside0.mk A190
                  clear A190
                  by_cases c20 : t152 = a0
                  · rw [if_pos c20] at H
                    have c20b0 : (t152 == a0) = true := beq_iff_eq.mpr c20
                    have c20b1 : (t152 != a0) = false := bne_eq_false_iff_eq.mpr c20
                    clear c20
                    replace H := Option.bind_eq_some_iff.mp H
                    obtain ⟨t153, A210, H⟩ := H
                    replace H : (some (t153 == 0)) = some r := H
                    have A21 := Aside0.mk A210
                    clear A210
                    obtain rfl := Option.some.inj H
                    go_wp2_with (first | (go_at_call 14; (with_reducible refine (tick_Sub.calls t146 a0 t151 _ A17.out).mono ?_); rintro e w' ⟨rfl, ⟨nd, rfl⟩⟩) | (go_at_call 14; (with_reducible refine (tick_Sub.calls t146 a1 t152 _ A19.out).mono ?_); rintro e w' ⟨rfl, ⟨nd, rfl⟩⟩) | (go_at_call 14; (with_reducible refine (tick_Sub.calls a0 t146 t153 _ A21.out).mono ?_); rintro e w' ⟨rfl, ⟨nd, rfl⟩⟩))
                    go_ret
                    exact ⟨by first | rfl | (simp [errW_none, errW_some] <;> rfl) | (simp [*, errW_none, errW_some] <;> rfl), by repeat (first | (with_reducible first | exact HB.out | apply below_alloc | apply pw_below_drewN | apply below_drew1) | exact HB.out)⟩
                  · rw [if_neg c20] at H
                    have c20b0 : (t152 == a0) = false := beq_eq_false_iff_ne.mpr c20
                    have c20b1 : (t152 != a0) = true := bne_iff_ne.mpr c20
                    obtain rfl := Option.some.inj H
                    go_wp2_with (first | (go_at_call 14; (with_reducible refine (tick_Sub.calls t146 a0 t151 _ A17.out).mono ?_); rintro e w' ⟨rfl, ⟨nd, rfl⟩⟩) | (go_at_call 14; (with_reducible refine (tick_Sub.calls t146 a1 t152 _ A19.out).mono ?_); rintro e w' ⟨rfl, ⟨nd, rfl⟩⟩))
                    go_ret
                    exact ⟨by first | rfl | (simp [errW_none, errW_some] <;> rfl) | (simp [*, errW_none, errW_some] <;> rfl), by repeat (first | (with_reducible first | exact HB.out | apply below_alloc | apply pw_below_drewN | apply below_drew1) | exact HB.out)⟩
                · rw [if_neg c18] at H
                  have c18b0 : (t151 == a1) = false := beq_eq_false_iff_ne.mpr c18
                  have c18b1 : (t151 != a1) = true := bne_iff_ne.mpr c18
                  obtain rfl := Option.some.inj H
                  go_wp2_with (first | (go_at_call 14; (with_reducible refine (tick_Sub.calls t146 a0 t151 _ A17.out).mono ?_); rintro e w' ⟨rfl, ⟨nd, rfl⟩⟩))
                  go_ret
                  exact ⟨by first | rfl | (simp [errW_none, errW_some] <;> rfl) | (simp [*, errW_none, errW_some] <;> rfl), by repeat (first | (with_reducible first | exact HB.out | apply below_alloc | apply pw_below_drewN | apply below_drew1) | exact HB.out)⟩
              · rw [if_neg c16] at H
                have c16b0 : decide (a0 ≤ t146) = false := decide_eq_false c16
                clear c16
                obtain rfl := Option.some.inj H
                go_wp2
                go_ret
                exact ⟨by first | rfl | (simp [errW_none, errW_some] <;> rfl) | (simp [*, errW_none, errW_some] <;> rfl), by repeat (first | (with_reducible first | exact HB.out | apply below_alloc | apply pw_below_drewN | apply below_drew1) | exact HB.out)⟩
  · replace c4 := Bool.eq_false_iff.mpr c4
    subst c4
    have H1 : (some false) = some r := by rw [if_neg (show ¬ (false = true) by decide)] at H; exact H
    clear H
    have H := H1
    clear H1
    obtain rfl := Option.some.inj H
    go_enter Try.func4, Try.ntmps4
    go_wp2_with (first | ((with_reducible refine gate_callee (f := 11) rfl ?_); refine goesL_ (some 10) rfl rfl Try.func11 (by kernel_rfl) rfl #[] rfl (by (try simp only [List.map_toArray, List.map_cons, List.map_nil]); first | done | rfl | (simp only [List.length_drop, List.length_take]; rfl)) ?_; (with_reducible refine (complinelaw01_works.calls k  false _ A3.out).mono ?_); rintro e w22 ⟨rfl, hb⟩; refine ⟨_, rfl, ?_⟩; have n0_ := Aside0.mk (below_step (by repeat (first | (with_reducible first | exact HB.out | apply below_alloc | apply pw_below_drewN | apply below_drew1) | exact HB.out)) hb); clear HB; have HB := n0_; clear n0_; (try clear hb); (try clear hb2); (try clear hk); (try clear hi)))
    go_ret
    exact ⟨by first | rfl | (simp [errW_none, errW_some] <;> rfl) | (simp [*, errW_none, errW_some] <;> rfl), by repeat (first | (with_reducible first | exact HB.out | apply below_alloc | apply pw_below_drewN | apply below_drew1) | exact HB.out)⟩

/-- THE ONE PURE STATEMENT of complinelaw01_TickBack: yours. -/
def complinelaw01_TickBack.Pure : Prop := ∀ (a0 : Int) (a1 : Int), (Lit.int .u64 a0).wf = true → (Lit.int .u64 a1).wf = true → ∃ k, complinelaw01_TickBack.f k a0 a1 = some true
theorem complinelaw01_TickBack.walk (P : complinelaw01_TickBack.Pure) (a0 : Int) (a1 : Int) (w : World) (w0 : (Lit.int .u64 a0).wf = true) (w1 : (Lit.int .u64 a1).wf = true) :
    Calls Try.prog 4 #[.int .u64 a0, .int .u64 a1] w fun e w' => e = .returned (.bool true) ∧ Below w.heap.size w w' := by
  obtain ⟨k, h⟩ := P a0 a1 w0 w1
  refine (complinelaw01_TickBack.calls k a0 a1 true w h).mono ?_
  rintro e w' ⟨rfl, hd⟩
  exact ⟨rfl, hd⟩

end Go.Proofs.Ytfeehajeegeacaa.GTickBack
