-- Walks of the statement and of what it calls; made by a program of this workplace out of the translation.
import Derived.Test.YtkbodakmfllnpaaGPolicyStepsx0
import Derived.Test.YtkbodakmfllnpaaGPolicyStepsx2
namespace Go.Proofs.Ytkbodakmfllnpaa.GPolicySteps
open Go.RowKit Go.Proofs.YtkbodakmfllnpaaW.PrintWords Go.Proofs.YtkbodakmfllnpaaW.PrintLast Go.Proofs.YtkbodakmfllnpaaW.PrintMore
attribute [local go_sem] max2_int min2_int max_two min_two max_three min_three max_four min_four   -- for this text's walks alone
set_option linter.unusedVariables false
set_option linter.unusedSimpArgs false

/-! ### complineref15_Check: function 13 -/
def complineref15_Check.f (a0_0 : Bool) (a0_1 : Int) (a0_2 : Int) (a0_3 : Int) (a0_4 : Int) : Option (Int) := if a0_1 < 0 then (some 1) else (if a0_1 > a0_2 then (some 1) else (if a0_2 < 0 then (some 1) else (if a0_2 > 1024 then (some 1) else (if a0_3 < 0 then (some 1) else (if a0_3 > 100 then (some 1) else (if a0_4 < 1 then (some 1) else (if a0_4 > 16 then (some 1) else (some 0))))))))
set_option maxHeartbeats 8000000 in
set_option maxRecDepth 100000 in
theorem complineref15_Check.calls (a0_0 : Bool) (a0_1 : Int) (a0_2 : Int) (a0_3 : Int) (a0_4 : Int) (r : Int) (w : World) (h : complineref15_Check.f a0_0 a0_1 a0_2 a0_3 a0_4 = some r) :
    Calls Try.prog 13 #[.agg #[.bool a0_0, .int .i64 a0_1, .int .i64 a0_2, .int .i64 a0_3, .int .i64 a0_4]] w fun e w' => e = .returned (.int .i64 r) ∧ Below w.heap.size w w' := by
  have hu23 := Try.underlying23
  have HB := Aside0.mk (Below.refl w.heap.size w)
  have H : (if a0_1 < 0 then (some 1) else (if a0_1 > a0_2 then (some 1) else (if a0_2 < 0 then (some 1) else (if a0_2 > 1024 then (some 1) else (if a0_3 < 0 then (some 1) else (if a0_3 > 100 then (some 1) else (if a0_4 < 1 then (some 1) else (if a0_4 > 16 then (some 1) else (some 0))))))))) = some r := h
  clear h
  by_cases c2 : a0_1 < 0
  · rw [if_pos c2] at H
    have c2b0 : decide (a0_1 < 0) = true := decide_eq_true c2
    clear c2
    obtain rfl := Option.some.inj H
    go_enter Try.func13, Try.ntmps13
    go_wp2_with (first | ((with_reducible refine gate_dst (N := 1) rfl ?_); refine box_event ?hg (N := 1) ?hd (cs := #[.bool a0_0, .int .i64 a0_1, .int .i64 a0_2, .int .i64 a0_3, .int .i64 a0_4]) (t := 23) ?hr ?_; (case hd => rfl); (case hg => rfl); (case hr => first | (go_simp; done) | (go_simp; rfl)); intro gb111 hg w3 hbox hb; have n0_ := Aside0.mk (below_step (by repeat (first | (with_reducible first | exact HB.out | apply below_alloc | apply pw_below_drewN | apply below_drew1) | exact HB.out)) hb); have n1_ := Aside0.mk (hbox); have n2_ := Aside0.mk ((by rw [hg]; exact (below_size (by repeat (first | (with_reducible first | exact HB.out | apply below_alloc | apply pw_below_drewN | apply below_drew1) | exact HB.out))) : w.heap.size ≤ gb111)); have n3_ := Aside0.mk ((by rw [hg]; exact (below_size (by repeat (first | (with_reducible first | exact HB.out | apply below_alloc | apply pw_below_drewN | apply below_drew1) | exact HB.out))) : w.heap.size ≤ gb111)); clear HB; have HB := n0_; have BK111 := n1_; have GW111 := n2_; have GE111 := n3_; clear n0_ n1_ n2_ n3_; clear hb hbox hg; have hcz4_0 : w3.cell? ⟨gb111, 0, none⟩ = some (.bool a0_0) := (blk_cell BK111.out 0).trans rfl; have hcz4_1 : w3.cell? ⟨gb111, 1, none⟩ = some (.int .i64 a0_1) := (blk_cell BK111.out 1).trans rfl; have hcz4_2 : w3.cell? ⟨gb111, 2, none⟩ = some (.int .i64 a0_2) := (blk_cell BK111.out 2).trans rfl; have hcz4_3 : w3.cell? ⟨gb111, 3, none⟩ = some (.int .i64 a0_3) := (blk_cell BK111.out 3).trans rfl; have hcz4_4 : w3.cell? ⟨gb111, 4, none⟩ = some (.int .i64 a0_4) := (blk_cell BK111.out 4).trans rfl; have hfz4_0 := blk_frozen BK111.out 0; have hfz4_1 := blk_frozen BK111.out 1; have hfz4_2 := blk_frozen BK111.out 2; have hfz4_3 := blk_frozen BK111.out 3; have hfz4_4 := blk_frozen BK111.out 4))
    go_ret
    exact ⟨by first | rfl | (simp [errW_none, errW_some] <;> rfl) | (simp [*, errW_none, errW_some] <;> rfl), by repeat (first | (with_reducible first | exact HB.out | apply below_alloc | apply pw_below_drewN | apply below_drew1 | refine below_set ?_ GE111.out) | exact HB.out)⟩
  · rw [if_neg c2] at H
    have c2b0 : decide (a0_1 < 0) = false := decide_eq_false c2
    clear c2
    by_cases c5 : a0_1 > a0_2
    · rw [if_pos c5] at H
      have c5b0 : decide (a0_2 < a0_1) = true := decide_eq_true c5
      clear c5
      obtain rfl := Option.some.inj H
      go_enter Try.func13, Try.ntmps13
      go_wp2_with (first | ((with_reducible refine gate_dst (N := 1) rfl ?_); refine box_event ?hg (N := 1) ?hd (cs := #[.bool a0_0, .int .i64 a0_1, .int .i64 a0_2, .int .i64 a0_3, .int .i64 a0_4]) (t := 23) ?hr ?_; (case hd => rfl); (case hg => rfl); (case hr => first | (go_simp; done) | (go_simp; rfl)); intro gb111 hg w6 hbox hb; have n0_ := Aside0.mk (below_step (by repeat (first | (with_reducible first | exact HB.out | apply below_alloc | apply pw_below_drewN | apply below_drew1) | exact HB.out)) hb); have n1_ := Aside0.mk (hbox); have n2_ := Aside0.mk ((by rw [hg]; exact (below_size (by repeat (first | (with_reducible first | exact HB.out | apply below_alloc | apply pw_below_drewN | apply below_drew1) | exact HB.out))) : w.heap.size ≤ gb111)); have n3_ := Aside0.mk ((by rw [hg]; exact (below_size (by repeat (first | (with_reducible first | exact HB.out | apply below_alloc | apply pw_below_drewN | apply below_drew1) | exact HB.out))) : w.heap.size ≤ gb111)); clear HB; have HB := n0_; have BK111 := n1_; have GW111 := n2_; have GE111 := n3_; clear n0_ n1_ n2_ n3_; clear hb hbox hg; have hcz7_0 : w6.cell? ⟨gb111, 0, none⟩ = some (.bool a0_0) := (blk_cell BK111.out 0).trans rfl; have hcz7_1 : w6.cell? ⟨gb111, 1, none⟩ = some (.int .i64 a0_1) := (blk_cell BK111.out 1).trans rfl; have hcz7_2 : w6.cell? ⟨gb111, 2, none⟩ = some (.int .i64 a0_2) := (blk_cell BK111.out 2).trans rfl; have hcz7_3 : w6.cell? ⟨gb111, 3, none⟩ = some (.int .i64 a0_3) := (blk_cell BK111.out 3).trans rfl; have hcz7_4 : w6.cell? ⟨gb111, 4, none⟩ = some (.int .i64 a0_4) := (blk_cell BK111.out 4).trans rfl; have hfz7_0 := blk_frozen BK111.out 0; have hfz7_1 := blk_frozen BK111.out 1; have hfz7_2 := blk_frozen BK111.out 2; have hfz7_3 := blk_frozen BK111.out 3; have hfz7_4 := blk_frozen BK111.out 4))
      go_ret
      exact ⟨by first | rfl | (simp [errW_none, errW_some] <;> rfl) | (simp [*, errW_none, errW_some] <;> rfl), by repeat (first | (with_reducible first | exact HB.out | apply below_alloc | apply pw_below_drewN | apply below_drew1 | refine below_set ?_ GE111.out) | exact HB.out)⟩
    · rw [if_neg c5] at H
      have c5b0 : decide (a0_2 < a0_1) = false := decide_eq_false c5
      clear c5
      by_cases c8 : a0_2 < 0
      · rw [if_pos c8] at H
        have c8b0 : decide (a0_2 < 0) = true := decide_eq_true c8
        clear c8
        obtain rfl := Option.some.inj H
        go_enter Try.func13, Try.ntmps13
        go_wp2_with (first | ((with_reducible refine gate_dst (N := 1) rfl ?_); refine box_event ?hg (N := 1) ?hd (cs := #[.bool a0_0, .int .i64 a0_1, .int .i64 a0_2, .int .i64 a0_3, .int .i64 a0_4]) (t := 23) ?hr ?_; (case hd => rfl); (case hg => rfl); (case hr => first | (go_simp; done) | (go_simp; rfl)); intro gb111 hg w9 hbox hb; have n0_ := Aside0.mk (below_step (by repeat (first | (with_reducible first | exact HB.out | apply below_alloc | apply pw_below_drewN | apply below_drew1) | exact HB.out)) hb); have n1_ := Aside0.mk (hbox); have n2_ := Aside0.mk ((by rw [hg]; exact (below_size (by repeat (first | (with_reducible first | exact HB.out | apply below_alloc | apply pw_below_drewN | apply below_drew1) | exact HB.out))) : w.heap.size ≤ gb111)); have n3_ := Aside0.mk ((by rw [hg]; exact (below_size (by repeat (first | (with_reducible first | exact HB.out | apply below_alloc | apply pw_below_drewN | apply below_drew1) | exact HB.out))) : w.heap.size ≤ gb111)); clear HB; have HB := n0_; have BK111 := n1_; have GW111 := n2_; have GE111 := n3_; clear n0_ n1_ n2_ n3_; clear hb hbox hg; have hcz10_0 : w9.cell? ⟨gb111, 0, none⟩ = some (.bool a0_0) := (blk_cell BK111.out 0).trans rfl; have hcz10_1 : w9.cell? ⟨gb111, 1, none⟩ = some (.int .i64 a0_1) := (blk_cell BK111.out 1).trans rfl; have hcz10_2 : w9.cell? ⟨gb111, 2, none⟩ = some (.int .i64 a0_2) := (blk_cell BK111.out 2).trans rfl; have hcz10_3 : w9.cell? ⟨gb111, 3, none⟩ = some (.int .i64 a0_3) := (blk_cell BK111.out 3).trans rfl; have hcz10_4 : w9.cell? ⟨gb111, 4, none⟩ = some (.int .i64 a0_4) := (blk_cell BK111.out 4).trans rfl; have hfz10_0 := blk_frozen BK111.out 0; have hfz10_1 := blk_frozen BK111.out 1; have hfz10_2 := blk_frozen BK111.out 2; have hfz10_3 := blk_frozen BK111.out 3; have hfz10_4 := blk_frozen BK111.out 4))
        go_ret
        exact ⟨by first | rfl | (simp [errW_none, errW_some] <;> rfl) | (simp [*, errW_none, errW_some] <;> rfl), by repeat (first | (with_reducible first | exact HB.out | apply below_alloc | apply pw_below_drewN | apply below_drew1 | refine below_set ?_ GE111.out) | exact HB.out)⟩
      · rw [if_neg c8] at H
        have c8b0 : decide (a0_2 < 0) = false := decide_eq_false c8
        clear c8
        by_cases c11 : a0_2 > 1024
        · rw [if_pos c11] at H
          have c11b0 : decide (1024 < a0_2) = true := decide_eq_true c11
          clear c11
          obtain rfl := Option.some.inj H
          go_enter Try.func13, Try.ntmps13
          go_wp2_with (first | ((with_reducible refine gate_dst (N := 1) rfl ?_); refine box_event ?hg (N := 1) ?hd (cs := #[.bool a0_0, .int .i64 a0_1, .int .i64 a0_2, .int .i64 a0_3, .int .i64 a0_4]) (t := 23) ?hr ?_; (case hd => rfl); (case hg => rfl); (case hr => first | (go_simp; done) | (go_simp; rfl)); intro gb111 hg w12 hbox hb; have n0_ := Aside0.mk (below_step (by repeat (first | (with_reducible first | exact HB.out | apply below_alloc | apply pw_below_drewN | apply below_drew1) | exact HB.out)) hb); have n1_ := Aside0.mk (hbox); have n2_ := Aside0.mk ((by rw [hg]; exact (below_size (by repeat (first | (with_reducible first | exact HB.out | apply below_alloc | apply pw_below_drewN | apply below_drew1) | exact HB.out))) : w.heap.size ≤ gb111)); have n3_ := Aside0.mk ((by rw [hg]; exact (below_size (by repeat (first | (with_reducible first | exact HB.out | apply below_alloc | apply pw_below_drewN | apply below_drew1) | exact HB.out))) : w.heap.size ≤ gb111)); clear HB; have HB := n0_; have BK111 := n1_; have GW111 := n2_; have GE111 := n3_; clear n0_ n1_ n2_ n3_; clear hb hbox hg; have hcz13_0 : w12.cell? ⟨gb111, 0, none⟩ = some (.bool a0_0) := (blk_cell BK111.out 0).trans rfl; have hcz13_1 : w12.cell? ⟨gb111, 1, none⟩ = some (.int .i64 a0_1) := (blk_cell BK111.out 1).trans rfl; have hcz13_2 : w12.cell? ⟨gb111, 2, none⟩ = some (.int .i64 a0_2) := (blk_cell BK111.out 2).trans rfl; have hcz13_3 : w12.cell? ⟨gb111, 3, none⟩ = some (.int .i64 a0_3) := (blk_cell BK111.out 3).trans rfl; have hcz13_4 : w12.cell? ⟨gb111, 4, none⟩ = some (.int .i64 a0_4) := (blk_cell BK111.out 4).trans rfl; have hfz13_0 := blk_frozen BK111.out 0; have hfz13_1 := blk_frozen BK111.out 1; have hfz13_2 := blk_frozen BK111.out 2; have hfz13_3 := blk_frozen BK111.out 3; have hfz13_4 := blk_frozen BK111.out 4))
          go_ret
          exact ⟨by first | rfl | (simp [errW_none, errW_some] <;> rfl) | (simp [*, errW_none, errW_some] <;> rfl), by repeat (first | (with_reducible first | exact HB.out | apply below_alloc | apply pw_below_drewN | apply below_drew1 | refine below_set ?_ GE111.out) | exact HB.out)⟩
        · rw [if_neg c11] at H
          have c11b0 : decide (1024 < a0_2) = false := decide_eq_false c11
          clear c11
          by_cases c14 : a0_3 < 0
          · rw [if_pos c14] at H
            have c14b0 : decide (a0_3 < 0) = true := decide_eq_true c14
            clear c14
            obtain rfl := Option.some.inj H
            go_enter Try.func13, Try.ntmps13
            go_wp2_with (first | ((with_reducible refine gate_dst (N := 1) rfl ?_); refine box_event ?hg (N := 1) ?hd (cs := #[.bool a0_0, .int .i64 a0_1, .int .i64 a0_2, .int .i64 a0_3, .int .i64 a0_4]) (t := 23) ?hr ?_; (case hd => rfl); (case hg => rfl); (case hr => first | (go_simp; done) | (go_simp; rfl)); intro gb111 hg w15 hbox hb; have n0_ := Aside0.mk (below_step (by repeat (first | (with_reducible first | exact HB.out | apply below_alloc | apply pw_below_drewN | apply below_drew1) | exact HB.out)) hb); have n1_ := Aside0.mk (hbox); have n2_ := Aside0.mk ((by rw [hg]; exact (below_size (by repeat (first | (with_reducible first | exact HB.out | apply below_alloc | apply pw_below_drewN | apply below_drew1) | exact HB.out))) : w.heap.size ≤ gb111)); have n3_ := Aside0.mk ((by rw [hg]; exact (below_size (by repeat (first | (with_reducible first | exact HB.out | apply below_alloc | apply pw_below_drewN | apply below_drew1) | exact HB.out))) : w.heap.size ≤ gb111)); clear HB; have HB := n0_; have BK111 := n1_; have GW111 := n2_; have GE111 := n3_; clear n0_ n1_ n2_ n3_; clear hb hbox hg; have hcz16_0 : w15.cell? ⟨gb111, 0, none⟩ = some (.bool a0_0) := (blk_cell BK111.out 0).trans rfl; have hcz16_1 : w15.cell? ⟨gb111, 1, none⟩ = some (.int .i64 a0_1) := (blk_cell BK111.out 1).trans rfl; have hcz16_2 : w15.cell? ⟨gb111, 2, none⟩ = some (.int .i64 a0_2) := (blk_cell BK111.out 2).trans rfl; have hcz16_3 : w15.cell? ⟨gb111, 3, none⟩ = some (.int .i64 a0_3) := (blk_cell BK111.out 3).trans rfl; have hcz16_4 : w15.cell? ⟨gb111, 4, none⟩ = some (.int .i64 a0_4) := (blk_cell BK111.out 4).trans rfl; have hfz16_0 := blk_frozen BK111.out 0; have hfz16_1 := blk_frozen BK111.out 1; have hfz16_2 := blk_frozen BK111.out 2; have hfz16_3 := blk_frozen BK111.out 3; have hfz16_4 := blk_frozen BK111.out 4))
            go_ret
            exact ⟨by first | rfl | (simp [errW_none, errW_some] <;> rfl) | (simp [*, errW_none, errW_some] <;> rfl), by repeat (first | (with_reducible first | exact HB.out | apply below_alloc | apply pw_below_drewN | apply below_drew1 | refine below_set ?_ GE111.out) | exact HB.out)⟩
          · rw [if_neg c14] at H
            have c14b0 : decide (a0_3 < 0) = false := decide_eq_false c14
            clear c14
            by_cases c17 : a0_3 > 100
            · rw [if_pos c17] at H
              have c17b0 : decide (100 < a0_3) = true := decide_eq_true c17
              clear c17
              obtain rfl := Option.some.inj H
              go_enter Try.func13, Try.ntmps13
              go_wp2_with (first | ((with_reducible refine gate_dst (N := 1) rfl ?_); refine box_event ?hg (N := 1) ?hd (cs := #[.bool a0_0, .int .i64 a0_1, .int .i64 a0_2, .int .i64 a0_3, .int .i64 a0_4]) (t := 23) ?hr ?_; (case hd => rfl); (case hg => rfl); (case hr => first | (go_simp; done) | (go_simp; rfl)); intro gb111 hg w18 hbox hb; have n0_ := Aside0.mk (below_step (by repeat (first | (with_reducible first | exact HB.out | apply below_alloc | apply pw_below_drewN | apply below_drew1) | exact HB.out)) hb); have n1_ := Aside0.mk (hbox); have n2_ := Aside0.mk ((by rw [hg]; exact (below_size (by repeat (first | (with_reducible first | exact HB.out | apply below_alloc | apply pw_below_drewN | apply below_drew1) | exact HB.out))) : w.heap.size ≤ gb111)); have n3_ := Aside0.mk ((by rw [hg]; exact (below_size (by repeat (first | (with_reducible first | exact HB.out | apply below_alloc | apply pw_below_drewN | apply below_drew1) | exact HB.out))) : w.heap.size ≤ gb111)); clear HB; have HB := n0_; have BK111 := n1_; have GW111 := n2_; have GE111 := n3_; clear n0_ n1_ n2_ n3_; clear hb hbox hg; have hcz19_0 : w18.cell? ⟨gb111, 0, none⟩ = some (.bool a0_0) := (blk_cell BK111.out 0).trans rfl; have hcz19_1 : w18.cell? ⟨gb111, 1, none⟩ = some (.int .i64 a0_1) := (blk_cell BK111.out 1).trans rfl; have hcz19_2 : w18.cell? ⟨gb111, 2, none⟩ = some (.int .i64 a0_2) := (blk_cell BK111.out 2).trans rfl; have hcz19_3 : w18.cell? ⟨gb111, 3, none⟩ = some (.int .i64 a0_3) := (blk_cell BK111.out 3).trans rfl; have hcz19_4 : w18.cell? ⟨gb111, 4, none⟩ = some (.int .i64 a0_4) := (blk_cell BK111.out 4).trans rfl; have hfz19_0 := blk_frozen BK111.out 0; have hfz19_1 := blk_frozen BK111.out 1; have hfz19_2 := blk_frozen BK111.out 2; have hfz19_3 := blk_frozen BK111.out 3; have hfz19_4 := blk_frozen BK111.out 4))
              go_ret
              exact ⟨by first | rfl | (simp [errW_none, errW_some] <;> rfl) | (simp [*, errW_none, errW_some] <;> rfl), by repeat (first | (with_reducible first | exact HB.out | apply below_alloc | apply pw_below_drewN | apply below_drew1 | refine below_set ?_ GE111.out) | exact HB.out)⟩
            · rw [if_neg c17] at H
              have c17b0 : decide (100 < a0_3) = false := decide_eq_false c17
              clear c17
              by_cases c20 : a0_4 < 1
              · rw [if_pos c20] at H
                have c20b0 : decide (a0_4 < 1) = true := decide_eq_true c20
                clear c20
                obtain rfl := Option.some.inj H
                go_enter Try.func13, Try.ntmps13
                go_wp2_with (first | ((with_reducible refine gate_dst (N := 1) rfl ?_); refine box_event ?hg (N := 1) ?hd (cs := #[.bool a0_0, .int .i64 a0_1, .int .i64 a0_2, .int .i64 a0_3, .int .i64 a0_4]) (t := 23) ?hr ?_; (case hd => rfl); (case hg => rfl); (case hr => first | (go_simp; done) | (go_simp; rfl)); intro gb111 hg w21 hbox hb; have n0_ := Aside0.mk (below_step (by repeat (first | (with_reducible first | exact HB.out | apply below_alloc | apply pw_below_drewN | apply below_drew1) | exact HB.out)) hb); have n1_ := Aside0.mk (hbox); have n2_ := Aside0.mk ((by rw [hg]; exact (below_size (by repeat (first | (with_reducible first | exact HB.out | apply below_alloc | apply pw_below_drewN | apply below_drew1) | exact HB.out))) : w.heap.size ≤ gb111)); have n3_ := Aside0.mk ((by rw [hg]; exact (below_size (by repeat (first | (with_reducible first | exact HB.out | apply below_alloc | apply pw_below_drewN | apply below_drew1) | exact HB.out))) : w.heap.size ≤ gb111)); clear HB; have HB := n0_; have BK111 := n1_; have GW111 := n2_; have GE111 := n3_; clear n0_ n1_ n2_ n3_; clear hb hbox hg; have hcz22_0 : w21.cell? ⟨gb111, 0, none⟩ = some (.bool a0_0) := (blk_cell BK111.out 0).trans rfl; have hcz22_1 : w21.cell? ⟨gb111, 1, none⟩ = some (.int .i64 a0_1) := (blk_cell BK111.out 1).trans rfl; have hcz22_2 : w21.cell? ⟨gb111, 2, none⟩ = some (.int .i64 a0_2) := (blk_cell BK111.out 2).trans rfl; have hcz22_3 : w21.cell? ⟨gb111, 3, none⟩ = some (.int .i64 a0_3) := (blk_cell BK111.out 3).trans rfl; have hcz22_4 : w21.cell? ⟨gb111, 4, none⟩ = some (.int .i64 a0_4) := (blk_cell BK111.out 4).trans rfl; have hfz22_0 := blk_frozen BK111.out 0; have hfz22_1 := blk_frozen BK111.out 1; have hfz22_2 := blk_frozen BK111.out 2; have hfz22_3 := blk_frozen BK111.out 3; have hfz22_4 := blk_frozen BK111.out 4))
                go_ret
                exact ⟨by first | rfl | (simp [errW_none, errW_some] <;> rfl) | (simp [*, errW_none, errW_some] <;> rfl), by repeat (first | (with_reducible first | exact HB.out | apply below_alloc | apply pw_below_drewN | apply below_drew1 | refine below_set ?_ GE111.out) | exact HB.out)⟩
              · rw [if_neg c20] at H
                have c20b0 : decide (a0_4 < 1) = false := decide_eq_false c20
                clear c20
                by_cases c23 : a0_4 > 16
                · rw [if_pos c23] at H
                  have c23b0 : decide (16 < a0_4) = true := decide_eq_true c23
                  clear c23
                  obtain rfl := Option.some.inj H
                  go_enter Try.func13, Try.ntmps13
                  go_wp2_with (first | ((with_reducible refine gate_dst (N := 1) rfl ?_); refine box_event ?hg (N := 1) ?hd (cs := #[.bool a0_0, .int .i64 a0_1, .int .i64 a0_2, .int .i64 a0_3, .int .i64 a0_4]) (t := 23) ?hr ?_; (case hd => rfl); (case hg => rfl); (case hr => first | (go_simp; done) | (go_simp; rfl)); intro gb111 hg w24 hbox hb; have n0_ := Aside0.mk (below_step (by repeat (first | (with_reducible first | exact HB.out | apply below_alloc | apply pw_below_drewN | apply below_drew1) | exact HB.out)) hb); have n1_ := Aside0.mk (hbox); have n2_ := Aside0.mk ((by rw [hg]; exact (below_size (by repeat (first | (with_reducible first | exact HB.out | apply below_alloc | apply pw_below_drewN | apply below_drew1) | exact HB.out))) : w.heap.size ≤ gb111)); have n3_ := Aside0.mk ((by rw [hg]; exact (below_size (by repeat (first | (with_reducible first | exact HB.out | apply below_alloc | apply pw_below_drewN | apply below_drew1) | exact HB.out))) : w.heap.size ≤ gb111)); clear HB; have HB := n0_; have BK111 := n1_; have GW111 := n2_; have GE111 := n3_; clear n0_ n1_ n2_ n3_; clear hb hbox hg; have hcz25_0 : w24.cell? ⟨gb111, 0, none⟩ = some (.bool a0_0) := (blk_cell BK111.out 0).trans rfl; have hcz25_1 : w24.cell? ⟨gb111, 1, none⟩ = some (.int .i64 a0_1) := (blk_cell BK111.out 1).trans rfl; have hcz25_2 : w24.cell? ⟨gb111, 2, none⟩ = some (.int .i64 a0_2) := (blk_cell BK111.out 2).trans rfl; have hcz25_3 : w24.cell? ⟨gb111, 3, none⟩ = some (.int .i64 a0_3) := (blk_cell BK111.out 3).trans rfl; have hcz25_4 : w24.cell? ⟨gb111, 4, none⟩ = some (.int .i64 a0_4) := (blk_cell BK111.out 4).trans rfl; have hfz25_0 := blk_frozen BK111.out 0; have hfz25_1 := blk_frozen BK111.out 1; have hfz25_2 := blk_frozen BK111.out 2; have hfz25_3 := blk_frozen BK111.out 3; have hfz25_4 := blk_frozen BK111.out 4))
                  go_ret
                  exact ⟨by first | rfl | (simp [errW_none, errW_some] <;> rfl) | (simp [*, errW_none, errW_some] <;> rfl), by repeat (first | (with_reducible first | exact HB.out | apply below_alloc | apply pw_below_drewN | apply below_drew1 | refine below_set ?_ GE111.out) | exact HB.out)⟩
                · rw [if_neg c23] at H
                  have c23b0 : decide (16 < a0_4) = false := decide_eq_false c23
                  clear c23
                  obtain rfl := Option.some.inj H
                  go_enter Try.func13, Try.ntmps13
                  go_wp2_with (first | ((with_reducible refine gate_dst (N := 1) rfl ?_); refine box_event ?hg (N := 1) ?hd (cs := #[.bool a0_0, .int .i64 a0_1, .int .i64 a0_2, .int .i64 a0_3, .int .i64 a0_4]) (t := 23) ?hr ?_; (case hd => rfl); (case hg => rfl); (case hr => first | (go_simp; done) | (go_simp; rfl)); intro gb111 hg w26 hbox hb; have n0_ := Aside0.mk (below_step (by repeat (first | (with_reducible first | exact HB.out | apply below_alloc | apply pw_below_drewN | apply below_drew1) | exact HB.out)) hb); have n1_ := Aside0.mk (hbox); have n2_ := Aside0.mk ((by rw [hg]; exact (below_size (by repeat (first | (with_reducible first | exact HB.out | apply below_alloc | apply pw_below_drewN | apply below_drew1) | exact HB.out))) : w.heap.size ≤ gb111)); have n3_ := Aside0.mk ((by rw [hg]; exact (below_size (by repeat (first | (with_reducible first | exact HB.out | apply below_alloc | apply pw_below_drewN | apply below_drew1) | exact HB.out))) : w.heap.size ≤ gb111)); clear HB; have HB := n0_; have BK111 := n1_; have GW111 := n2_; have GE111 := n3_; clear n0_ n1_ n2_ n3_; clear hb hbox hg; have hcz27_0 : w26.cell? ⟨gb111, 0, none⟩ = some (.bool a0_0) := (blk_cell BK111.out 0).trans rfl; have hcz27_1 : w26.cell? ⟨gb111, 1, none⟩ = some (.int .i64 a0_1) := (blk_cell BK111.out 1).trans rfl; have hcz27_2 : w26.cell? ⟨gb111, 2, none⟩ = some (.int .i64 a0_2) := (blk_cell BK111.out 2).trans rfl; have hcz27_3 : w26.cell? ⟨gb111, 3, none⟩ = some (.int .i64 a0_3) := (blk_cell BK111.out 3).trans rfl; have hcz27_4 : w26.cell? ⟨gb111, 4, none⟩ = some (.int .i64 a0_4) := (blk_cell BK111.out 4).trans rfl; have hfz27_0 := blk_frozen BK111.out 0; have hfz27_1 := blk_frozen BK111.out 1; have hfz27_2 := blk_frozen BK111.out 2; have hfz27_3 := blk_frozen BK111.out 3; have hfz27_4 := blk_frozen BK111.out 4))
                  go_ret
                  exact ⟨by first | rfl | (simp [errW_none, errW_some] <;> rfl) | (simp [*, errW_none, errW_some] <;> rfl), by repeat (first | (with_reducible first | exact HB.out | apply below_alloc | apply pw_below_drewN | apply below_drew1 | refine below_set ?_ GE111.out) | exact HB.out)⟩

/-! ### complineref15_odd: function 20 -/
def complineref15_odd.f (a0 : Int) : Option (Bool) := if a0 < 0 then (some true) else (some (decide (a0 > 1000000)))
set_option maxHeartbeats 8000000 in
set_option maxRecDepth 100000 in
theorem complineref15_odd.calls (a0 : Int) (r : Bool) (w : World) (h : complineref15_odd.f a0 = some r) :
    Calls Try.prog 20 #[.int .i64 a0] w fun e w' => e = .returned (.bool r) ∧ Drawn0 w w' := by
  have H : (if a0 < 0 then (some true) else (some (decide (a0 > 1000000)))) = some r := h
  clear h
  by_cases c2 : a0 < 0
  · rw [if_pos c2] at H
    have c2b0 : decide (a0 < 0) = true := decide_eq_true c2
    clear c2
    obtain rfl := Option.some.inj H
    go_enter Try.func20, Try.ntmps20
    go_wp2
    go_ret
    exact ⟨by first | rfl | (simp; done) | (simp [*]; done), by repeat (first | exact Drawn0.refl _ | apply Drawn0.step)⟩
  · rw [if_neg c2] at H
    have c2b0 : decide (a0 < 0) = false := decide_eq_false c2
    clear c2
    obtain rfl := Option.some.inj H
    go_enter Try.func20, Try.ntmps20
    go_wp2
    go_ret
    exact ⟨by first | rfl | (simp; done) | (simp [*]; done), by repeat (first | exact Drawn0.refl _ | apply Drawn0.step)⟩

/-! ### complineref15_Wants: function 11, by hand -/
def complineref15_Wants.f (a0_0 : Bool) (a0_1 : Int) (a0_2 : Int) (a0_3 : Int) (a0_4 : Int) (a1_0 : Int) (a1_1 : Int) (a1_2 : Int) (a1_3 : Int) (a1_4 : Int) : Option (Int × Int) :=
  some (if badP a0_1 a0_2 a0_3 a0_4 then (0, 1) else if allT a1_0 a1_1 a1_2 a1_3 a1_4 then (wantK a0_1 a0_2 a0_3 a1_0 a1_1 a1_2 a1_4, 0) else (0, 1))
theorem rcheck_f (b : Bool) (s l c m : Int) : complineref15_Check.f b s l c m = some (if badP s l c m then 1 else 0) := by
  unfold complineref15_Check.f badP
  by_cases h1 : s < 0
  · simp [h1]
  by_cases h2 : l < s
  · simp [h1, h2]
  by_cases h3 : l < 0
  · simp [h1, h2, h3]
  by_cases h4 : 1024 < l
  · simp [h1, h2, h3, h4]
  by_cases h5 : c < 0
  · simp [h1, h2, h3, h4, h5]
  by_cases h6 : 100 < c
  · simp [h1, h2, h3, h4, h5, h6]
  by_cases h7 : m < 1
  · simp [h1, h2, h3, h4, h5, h6, h7]
  by_cases h8 : 16 < m
  · simp [h1, h2, h3, h4, h5, h6, h7, h8]
  simp [h1, h2, h3, h4, h5, h6, h7, h8]
theorem rodd_any (n : Int) (w : World) : Calls Try.prog 20 #[.int .i64 n] w fun e w' => e = .returned (.bool (!inT n)) ∧ w = w' := by
  cases h : inT n with
  | true =>
    obtain ⟨h1, h2⟩ := inT_yes h
    clear h
    go_enter Try.func20, Try.ntmps20
    go_wp2
    go_ret
    exact ⟨rfl, rfl⟩
  | false =>
    rcases inT_no h with h1 | ⟨h1, h2⟩
    all_goals
      clear h
      go_enter Try.func20, Try.ntmps20
      go_wp2
      go_ret
      exact ⟨rfl, rfl⟩
theorem rodd_no {n : Int} (h : inT n = true) (w : World) : Calls Try.prog 20 #[.int .i64 n] w fun e w' => e = .returned (.bool false) ∧ w = w' := by
  have := rodd_any n w
  rw [h] at this; exact this
theorem rodd_yes {n : Int} (h : inT n = false) (w : World) : Calls Try.prog 20 #[.int .i64 n] w fun e w' => e = .returned (.bool true) ∧ w = w' := by
  have := rodd_any n w
  rw [h] at this; exact this
set_option maxHeartbeats 2000000 in
theorem rwants_bad (b : Bool) (s l c m ins can mov fir most : Int) (w : World) (h : badP s l c m = true) :
    Calls Try.prog 11 #[.agg #[.bool b, .int .i64 s, .int .i64 l, .int .i64 c, .int .i64 m], .agg #[.int .i64 ins, .int .i64 can, .int .i64 mov, .int .i64 fir, .int .i64 most]] w fun e w' => e = .returned (.tuple #[.int .i64 0, .int .i64 1]) ∧ Below w.heap.size w w' := by
  have hu23 := Try.underlying23
  have hu25 := Try.underlying25
  have k := fun w => complineref15_Check.calls b s l c m 1 w (by rw [rcheck_f, h]; rfl)
  clear h
  go_enter Try.func11, Try.ntmps11
  go_wp2_with (go_at_call 13; refine (k _).mono ?_; rintro e w1 ⟨rfl, hb⟩; obtain ⟨hc, hf⟩ := bcell hb; obtain ⟨hz0, hz⟩ := bsz2 hb)
  go_ret2
  exact ⟨rfl, (below_alloc (below_alloc (Below.refl _ _) _) _).trans (hb.mono (by simp; omega))⟩
set_option maxHeartbeats 8000000 in
theorem rwants_odd (b : Bool) (s l c m ins can mov fir most : Int) (w : World) (h : badP s l c m = false) (h2 : allT ins can mov fir most = false) :
    Calls Try.prog 11 #[.agg #[.bool b, .int .i64 s, .int .i64 l, .int .i64 c, .int .i64 m], .agg #[.int .i64 ins, .int .i64 can, .int .i64 mov, .int .i64 fir, .int .i64 most]] w fun e w' => e = .returned (.tuple #[.int .i64 0, .int .i64 1]) ∧ Below w.heap.size w w' := by
  have hu23 := Try.underlying23
  have hu25 := Try.underlying25
  have k := fun w => complineref15_Check.calls b s l c m 0 w (by rw [rcheck_f, h]; rfl)
  unfold allT at h2
  clear h
  cases x0 : inT ins with
  | false =>
    have o0 := fun w => rodd_yes x0 w
    clear h2 x0
    go_enter Try.func11, Try.ntmps11
    go_wp2_with (first | (go_at_call 13; refine (k _).mono ?_; rintro e w1 ⟨rfl, hb⟩; obtain ⟨hc, hf⟩ := bcell hb; obtain ⟨hz0, hz⟩ := bsz2 hb) | (go_at_call 20; (first | (with_reducible refine (o0 _).mono ?_)); rintro e w2 ⟨rfl, rfl⟩))
    go_ret2
    exact ⟨rfl, (below_alloc (below_alloc (Below.refl _ _) _) _).trans (hb.mono (by simp; omega))⟩
  | true =>
    have o0 := fun w => rodd_no x0 w
    cases x1 : inT can with
    | false =>
      have o1 := fun w => rodd_yes x1 w
      clear h2 x0 x1
      go_enter Try.func11, Try.ntmps11
      go_wp2_with (first | (go_at_call 13; refine (k _).mono ?_; rintro e w1 ⟨rfl, hb⟩; obtain ⟨hc, hf⟩ := bcell hb; obtain ⟨hz0, hz⟩ := bsz2 hb) | (go_at_call 20; (first | (with_reducible refine (o0 _).mono ?_) | (with_reducible refine (o1 _).mono ?_)); rintro e w2 ⟨rfl, rfl⟩))
      go_ret2
      exact ⟨rfl, (below_alloc (below_alloc (Below.refl _ _) _) _).trans (hb.mono (by simp; omega))⟩
    | true =>
      have o1 := fun w => rodd_no x1 w
      cases x2 : inT mov with
      | false =>
        have o2 := fun w => rodd_yes x2 w
        clear h2 x0 x1 x2
        go_enter Try.func11, Try.ntmps11
        go_wp2_with (first | (go_at_call 13; refine (k _).mono ?_; rintro e w1 ⟨rfl, hb⟩; obtain ⟨hc, hf⟩ := bcell hb; obtain ⟨hz0, hz⟩ := bsz2 hb) | (go_at_call 20; (first | (with_reducible refine (o0 _).mono ?_) | (with_reducible refine (o1 _).mono ?_) | (with_reducible refine (o2 _).mono ?_)); rintro e w2 ⟨rfl, rfl⟩))
        go_ret2
        exact ⟨rfl, (below_alloc (below_alloc (Below.refl _ _) _) _).trans (hb.mono (by simp; omega))⟩
      | true =>
        have o2 := fun w => rodd_no x2 w
        cases x3 : inT fir with
        | false =>
          have o3 := fun w => rodd_yes x3 w
          clear h2 x0 x1 x2 x3
          go_enter Try.func11, Try.ntmps11
          go_wp2_with (first | (go_at_call 13; refine (k _).mono ?_; rintro e w1 ⟨rfl, hb⟩; obtain ⟨hc, hf⟩ := bcell hb; obtain ⟨hz0, hz⟩ := bsz2 hb) | (go_at_call 20; (first | (with_reducible refine (o0 _).mono ?_) | (with_reducible refine (o1 _).mono ?_) | (with_reducible refine (o2 _).mono ?_) | (with_reducible refine (o3 _).mono ?_)); rintro e w2 ⟨rfl, rfl⟩))
          go_ret2
          exact ⟨rfl, (below_alloc (below_alloc (Below.refl _ _) _) _).trans (hb.mono (by simp; omega))⟩
        | true =>
          have o3 := fun w => rodd_no x3 w
          cases x4 : inT most with
          | false =>
            have o4 := fun w => rodd_yes x4 w
            clear h2 x0 x1 x2 x3 x4
            go_enter Try.func11, Try.ntmps11
            go_wp2_with (first | (go_at_call 13; refine (k _).mono ?_; rintro e w1 ⟨rfl, hb⟩; obtain ⟨hc, hf⟩ := bcell hb; obtain ⟨hz0, hz⟩ := bsz2 hb) | (go_at_call 20; (first | (with_reducible refine (o0 _).mono ?_) | (with_reducible refine (o1 _).mono ?_) | (with_reducible refine (o2 _).mono ?_) | (with_reducible refine (o3 _).mono ?_) | (with_reducible refine (o4 _).mono ?_)); rintro e w2 ⟨rfl, rfl⟩))
            go_ret2
            exact ⟨rfl, (below_alloc (below_alloc (Below.refl _ _) _) _).trans (hb.mono (by simp; omega))⟩
          | true =>
            have o4 := fun w => rodd_no x4 w
            rw [x0, x1, x2, x3, x4] at h2
            cases h2
set_option maxHeartbeats 8000000 in
theorem rwants_good (b : Bool) (s l c m ins can mov fir most : Int) (w : World) (h : badP s l c m = false) (h2 : allT ins can mov fir most = true) :
    Calls Try.prog 11 #[.agg #[.bool b, .int .i64 s, .int .i64 l, .int .i64 c, .int .i64 m], .agg #[.int .i64 ins, .int .i64 can, .int .i64 mov, .int .i64 fir, .int .i64 most]] w fun e w' => e = .returned (.tuple #[.int .i64 (wantK s l c ins can mov most), .int .i64 0]) ∧ Below w.heap.size w w' := by
  have hu23 := Try.underlying23
  have hu25 := Try.underlying25
  have k := fun w => complineref15_Check.calls b s l c m 0 w (by rw [rcheck_f, h]; rfl)
  obtain ⟨g1, g2, g3, g4, g5, g6, g7⟩ := good_range h
  have h3 := h2
  unfold allT at h3
  simp only [Bool.and_eq_true] at h3
  obtain ⟨⟨⟨⟨a1, a2⟩, a3⟩, a4⟩, a5⟩ := h3
  obtain ⟨r1, r2⟩ := inT_range a1
  obtain ⟨r3, r4⟩ := inT_range a2
  obtain ⟨r5, r6⟩ := inT_range a3
  obtain ⟨r7, r8⟩ := inT_range a5
  have o0 := fun w => rodd_no a1 w
  have o1 := fun w => rodd_no a2 w
  have o2 := fun w => rodd_no a3 w
  have o3 := fun w => rodd_no a4 w
  have o4 := fun w => rodd_no a5 w
  obtain ⟨p1, p2⟩ := prod_range r1 r2 g4 g5
  rw [Int.mul_comm] at p1 p2
  have hcm : ins * c = c * ins := Int.mul_comm _ _
  have hcm' := Lib.hid hcm
  clear hcm h h2 a1 a2 a3 a4 a5
  by_cases d1 : l < most
  · have t1 : decide (l < most) = true := decide_eq_true d1
    have t2 : decide (most ≤ s) = false := decide_eq_false (by omega)
    by_cases d3 : c * ins ≤ 100 * can + 100 * mov
    · have t3 : decide (c * ins ≤ 100 * can + 100 * mov) = true := decide_eq_true d3
      have t4 : decide (c * ins ≤ (can + mov) * 100) = true := decide_eq_true (by omega)
      have hr : wantK s l c ins can mov most = 4 := by unfold wantK churnB; rw [hcm'.out]; rw [if_pos d1, t4]; rfl
      clear d1 d3 t4
      rw [hr]
      clear hr
      go_enter Try.func11, Try.ntmps11
      go_wp2_with (first | (go_at_call 13; refine (k _).mono ?_; rintro e w1 ⟨rfl, hb⟩; obtain ⟨hc, hf⟩ := bcell hb; obtain ⟨hz0, hz⟩ := bsz2 hb) | (go_at_call 20; (first | (with_reducible refine (o0 _).mono ?_) | (with_reducible refine (o1 _).mono ?_) | (with_reducible refine (o2 _).mono ?_) | (with_reducible refine (o3 _).mono ?_) | (with_reducible refine (o4 _).mono ?_)); rintro e w2 ⟨rfl, rfl⟩))
      go_ret2
      exact ⟨rfl, (below_alloc (below_alloc (Below.refl _ _) _) _).trans (hb.mono (by simp; omega))⟩
    · have t3 : decide (c * ins ≤ 100 * can + 100 * mov) = false := decide_eq_false d3
      have t4 : decide (c * ins ≤ (can + mov) * 100) = false := decide_eq_false (by omega)
      have hr : wantK s l c ins can mov most = 2 := by unfold wantK churnB; rw [hcm'.out]; rw [if_pos d1, t4]; rfl
      clear d1 d3 t4
      rw [hr]
      clear hr
      go_enter Try.func11, Try.ntmps11
      go_wp2_with (first | (go_at_call 13; refine (k _).mono ?_; rintro e w1 ⟨rfl, hb⟩; obtain ⟨hc, hf⟩ := bcell hb; obtain ⟨hz0, hz⟩ := bsz2 hb) | (go_at_call 20; (first | (with_reducible refine (o0 _).mono ?_) | (with_reducible refine (o1 _).mono ?_) | (with_reducible refine (o2 _).mono ?_) | (with_reducible refine (o3 _).mono ?_) | (with_reducible refine (o4 _).mono ?_)); rintro e w2 ⟨rfl, rfl⟩))
      go_ret2
      exact ⟨rfl, (below_alloc (below_alloc (Below.refl _ _) _) _).trans (hb.mono (by simp; omega))⟩
  · have t1 : decide (l < most) = false := decide_eq_false d1
    by_cases d2 : s < most
    · have t2 : decide (most ≤ s) = false := decide_eq_false (by omega)
      by_cases d3 : c * ins ≤ 100 * can + 100 * mov
      · have t3 : decide (c * ins ≤ 100 * can + 100 * mov) = true := decide_eq_true d3
        have t4 : decide (c * ins ≤ (can + mov) * 100) = true := decide_eq_true (by omega)
        have hr : wantK s l c ins can mov most = 3 := by unfold wantK churnB; rw [hcm'.out]; rw [if_neg d1, if_pos d2, t4]; rfl
        clear d1 d2 d3 t4
        rw [hr]
        clear hr
        go_enter Try.func11, Try.ntmps11
        go_wp2_with (first | (go_at_call 13; refine (k _).mono ?_; rintro e w1 ⟨rfl, hb⟩; obtain ⟨hc, hf⟩ := bcell hb; obtain ⟨hz0, hz⟩ := bsz2 hb) | (go_at_call 20; (first | (with_reducible refine (o0 _).mono ?_) | (with_reducible refine (o1 _).mono ?_) | (with_reducible refine (o2 _).mono ?_) | (with_reducible refine (o3 _).mono ?_) | (with_reducible refine (o4 _).mono ?_)); rintro e w2 ⟨rfl, rfl⟩))
        go_ret2
        exact ⟨rfl, (below_alloc (below_alloc (Below.refl _ _) _) _).trans (hb.mono (by simp; omega))⟩
      · have t3 : decide (c * ins ≤ 100 * can + 100 * mov) = false := decide_eq_false d3
        have t4 : decide (c * ins ≤ (can + mov) * 100) = false := decide_eq_false (by omega)
        have hr : wantK s l c ins can mov most = 1 := by unfold wantK churnB; rw [hcm'.out]; rw [if_neg d1, if_pos d2, t4]; rfl
        clear d1 d2 d3 t4
        rw [hr]
        clear hr
        go_enter Try.func11, Try.ntmps11
        go_wp2_with (first | (go_at_call 13; refine (k _).mono ?_; rintro e w1 ⟨rfl, hb⟩; obtain ⟨hc, hf⟩ := bcell hb; obtain ⟨hz0, hz⟩ := bsz2 hb) | (go_at_call 20; (first | (with_reducible refine (o0 _).mono ?_) | (with_reducible refine (o1 _).mono ?_) | (with_reducible refine (o2 _).mono ?_) | (with_reducible refine (o3 _).mono ?_) | (with_reducible refine (o4 _).mono ?_)); rintro e w2 ⟨rfl, rfl⟩))
        go_ret2
        exact ⟨rfl, (below_alloc (below_alloc (Below.refl _ _) _) _).trans (hb.mono (by simp; omega))⟩
    · have t2 : decide (most ≤ s) = true := decide_eq_true (by omega)
      have hr : wantK s l c ins can mov most = 0 := by unfold wantK churnB; rw [hcm'.out]; rw [if_neg d1, if_neg d2]
      clear d1 d2
      rw [hr]
      clear hr
      go_enter Try.func11, Try.ntmps11
      go_wp2_with (first | (go_at_call 13; refine (k _).mono ?_; rintro e w1 ⟨rfl, hb⟩; obtain ⟨hc, hf⟩ := bcell hb; obtain ⟨hz0, hz⟩ := bsz2 hb) | (go_at_call 20; (first | (with_reducible refine (o0 _).mono ?_) | (with_reducible refine (o1 _).mono ?_) | (with_reducible refine (o2 _).mono ?_) | (with_reducible refine (o3 _).mono ?_) | (with_reducible refine (o4 _).mono ?_)); rintro e w2 ⟨rfl, rfl⟩))
      go_ret2
      exact ⟨rfl, (below_alloc (below_alloc (Below.refl _ _) _) _).trans (hb.mono (by simp; omega))⟩
theorem complineref15_Wants.calls (a0_0 : Bool) (a0_1 : Int) (a0_2 : Int) (a0_3 : Int) (a0_4 : Int) (a1_0 : Int) (a1_1 : Int) (a1_2 : Int) (a1_3 : Int) (a1_4 : Int) (r1 : Int) (r2 : Int) (w : World) (h : complineref15_Wants.f a0_0 a0_1 a0_2 a0_3 a0_4 a1_0 a1_1 a1_2 a1_3 a1_4 = some (r1, r2)) :
    Calls Try.prog 11 #[.agg #[.bool a0_0, .int .i64 a0_1, .int .i64 a0_2, .int .i64 a0_3, .int .i64 a0_4], .agg #[.int .i64 a1_0, .int .i64 a1_1, .int .i64 a1_2, .int .i64 a1_3, .int .i64 a1_4]] w fun e w' => e = .returned (.tuple #[.int .i64 r1, .int .i64 r2]) ∧ Below w.heap.size w w' := by
  unfold complineref15_Wants.f at h
  cases hb : badP a0_1 a0_2 a0_3 a0_4 with
  | true =>
    rw [hb, if_pos rfl] at h
    obtain ⟨rfl, rfl⟩ := Prod.mk.inj (Option.some.inj h)
    exact rwants_bad _ _ _ _ _ _ _ _ _ _ w hb
  | false =>
    rw [hb, if_neg (by decide)] at h
    cases ha : allT a1_0 a1_1 a1_2 a1_3 a1_4 with
    | true =>
      rw [ha, if_pos rfl] at h
      obtain ⟨rfl, rfl⟩ := Prod.mk.inj (Option.some.inj h)
      exact rwants_good _ _ _ _ _ _ _ _ _ _ w hb ha
    | false =>
      rw [ha, if_neg (by decide)] at h
      obtain ⟨rfl, rfl⟩ := Prod.mk.inj (Option.some.inj h)
      exact rwants_odd _ _ _ _ _ _ _ _ _ _ w hb ha

end Go.Proofs.Ytkbodakmfllnpaa.GPolicySteps
