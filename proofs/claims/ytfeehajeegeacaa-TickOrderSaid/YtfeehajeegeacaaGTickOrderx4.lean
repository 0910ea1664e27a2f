-- Walks of the statement and of what it calls; made by a program of this workplace out of the translation.
import Derived.Test.YtfeehajeegeacaaGTickOrderx0
import Derived.Test.YtfeehajeegeacaaGTickOrderx1
import Derived.Test.YtfeehajeegeacaaGTickOrderx2
import Derived.Test.YtfeehajeegeacaaGTickOrderx3
namespace Go.Proofs.Ytfeehajeegeacaa.GTickOrder
open Go.RowKit Go.Proofs.YtfeehajeegeacaaW.PrintWords Go.Proofs.YtfeehajeegeacaaW.PrintLast Go.Proofs.YtfeehajeegeacaaW.PrintMore
attribute [local go_sem] max2_int min2_int max_two min_two max_three min_three max_four min_four   -- for this text's walks alone
set_option linter.unusedVariables false
set_option linter.unusedSimpArgs false

attribute [local go_sem high] eqA33
/-! ### complinelaw01_TickOrder: function 7 -/
def complinelaw01_TickOrder.j0 : Nat → Bool → Int → Int → Int → Bool → Int → Int → Int → Int → Int → Int → Option (Bool)
  | 0, _, _, _, _, _, _, _, _, _, _, _ => none
  | k + 1, x7, x8, x9, x10, x41, x152000, x152001, x152002, x153000, x153001, x153002 => if x41 = true then (some false) else (if ((x8 == 0) != (x152000 == x153000 && (x152001 == x153001 && (x152002 == x153002)))) = true then (some false) else ((tick_Compare.f k x153000 x153001 x153002 x152000 x152001 x152002).bind fun t161 => (if t161 = (wrap64 (-x8)) then (if x7 = true then (if x8 = (-1) then (if x9 = 1 then (if x8 = 1 then (if x9 = (-1) then (if x8 = 0 then (some (x9 == x10)) else (some true)) else (if x10 = 1 then (if x8 = 0 then (some (x9 == x10)) else (some true)) else (some false))) else (if x8 = 0 then (some (x9 == x10)) else (some true))) else (if x10 = (-1) then (if x8 = 1 then (if x9 = (-1) then (if x8 = 0 then (some (x9 == x10)) else (some true)) else (if x10 = 1 then (if x8 = 0 then (some (x9 == x10)) else (some true)) else (some false))) else (if x8 = 0 then (some (x9 == x10)) else (some true))) else (some false))) else (if x8 = 1 then (if x9 = (-1) then (if x8 = 0 then (some (x9 == x10)) else (some true)) else (if x10 = 1 then (if x8 = 0 then (some (x9 == x10)) else (some true)) else (some false))) else (if x8 = 0 then (some (x9 == x10)) else (some true)))) else (some false)) else (some false))))
def complinelaw01_TickOrder.f (k : Nat) (a0_0 : Int) (a0_1 : Int) (a0_2 : Int) (a1_0 : Int) (a1_1 : Int) (a1_2 : Int) (a2_0 : Int) (a2_1 : Int) (a2_2 : Int) : Option (Bool) := (complinelaw01_works.f k).bind fun t154 => (if t154 = true then ((tick_Compare.f k a0_0 a0_1 a0_2 a1_0 a1_1 a1_2).bind fun t155 => ((tick_Compare.f k a1_0 a1_1 a1_2 a2_0 a2_1 a2_2).bind fun t156 => ((tick_Compare.f k a0_0 a0_1 a0_2 a2_0 a2_1 a2_2).bind fun t157 => ((complineref01_Compare.f a0_0 a0_1 a0_2 a1_0 a1_1 a1_2).bind fun t158 => (if t155 = t158 then ((complineref01_Compare.f a1_0 a1_1 a1_2 a2_0 a2_1 a2_2).bind fun t159 => (if t156 = t159 then ((complineref01_Compare.f a0_0 a0_1 a0_2 a2_0 a2_1 a2_2).bind fun t160 => (complinelaw01_TickOrder.j0 k t154 t155 t156 t157 (t157 != t160) a0_0 a0_1 a0_2 a1_0 a1_1 a1_2)) else (complinelaw01_TickOrder.j0 k t154 t155 t156 t157 true a0_0 a0_1 a0_2 a1_0 a1_1 a1_2))) else (complinelaw01_TickOrder.j0 k t154 t155 t156 t157 true a0_0 a0_1 a0_2 a1_0 a1_1 a1_2)))))) else (some false))
theorem complinelaw01_TickOrder.mono_l : ∀ k, (∀ y0 y1 y2 y3 y4 y5 y6 y7 y8 y9 y10, LeO (complinelaw01_TickOrder.j0 k y0 y1 y2 y3 y4 y5 y6 y7 y8 y9 y10) (complinelaw01_TickOrder.j0 (k + 1) y0 y1 y2 y3 y4 y5 y6 y7 y8 y9 y10))
  | 0 => fun _ _ _ _ _ _ _ _ _ _ _ r h => by simp [complinelaw01_TickOrder.j0] at h
  | k + 1 => by
    have ih0 := complinelaw01_TickOrder.mono_l k
    · intro y0 y1 y2 y3 y4 y5 y6 y7 y8 y9 y10
      unfold complinelaw01_TickOrder.j0
      repeat' first
      | (with_reducible exact ih0 _ _ _ _ _ _ _ _ _ _ _)
      | (with_reducible exact complinelaw01_works.mono _)
      | (with_reducible exact tick_Compare.mono _ _ _ _ _ _ _)
      | (with_reducible exact LeO.refl _)
      | (with_reducible exact LeO.none _)
      | (with_reducible refine LeO.ite ?_ ?_)
      | (with_reducible refine LeO.bind ?_ (fun _ => ?_))
      | exact ih0 _ _ _ _ _ _ _ _ _ _ _
      | exact complinelaw01_works.mono _
      | exact tick_Compare.mono _ _ _ _ _ _ _
      | exact LeO.none _
      | refine LeO.ite ?_ ?_
      | refine LeO.bind ?_ (fun _ => ?_)
theorem complinelaw01_TickOrder.mono : ∀ a0 a1 a2 a3 a4 a5 a6 a7 a8 k, LeO (complinelaw01_TickOrder.f k a0 a1 a2 a3 a4 a5 a6 a7 a8) (complinelaw01_TickOrder.f (k + 1) a0 a1 a2 a3 a4 a5 a6 a7 a8) := by
  intro a0 a1 a2 a3 a4 a5 a6 a7 a8 k
  have ih0 := complinelaw01_TickOrder.mono_l k
  unfold complinelaw01_TickOrder.f
  repeat' first
      | (with_reducible exact ih0 _ _ _ _ _ _ _ _ _ _ _)
      | (with_reducible exact complinelaw01_works.mono _)
      | (with_reducible exact tick_Compare.mono _ _ _ _ _ _ _)
      | (with_reducible exact LeO.refl _)
      | (with_reducible exact LeO.none _)
      | (with_reducible refine LeO.ite ?_ ?_)
      | (with_reducible refine LeO.bind ?_ (fun _ => ?_))
      | exact ih0 _ _ _ _ _ _ _ _ _ _ _
      | exact complinelaw01_works.mono _
      | exact tick_Compare.mono _ _ _ _ _ _ _
      | exact LeO.none _
      | refine LeO.ite ?_ ?_
      | refine LeO.bind ?_ (fun _ => ?_)
def complinelaw01_TickOrder.T4 : Bool × List (List Nat × List Nat) := (true, [([], []), ([], []), ([0, 1], [0, 1]), ([], []), ([], []), ([3, 4, 2], [3, 4]), ([], []), ([], []), ([6, 7, 5], [6, 7]), ([2, 8, 0, 1, 2], [2]), ([5, 9, 0, 1, 2, 3, 4, 5, 9], [5]), ([8, 10, 0, 1, 2, 3, 4, 5, 6, 7, 8, 9, 10], [8])])
def complinelaw01_TickOrder.B4 : List Nat := [0, 0, 3, 0, 0, 31, 0, 0, 255, 511, 1023, 2047]
theorem complinelaw01_TickOrder.tab4 : rtab .any (opsOf Try.f7 4) = complinelaw01_TickOrder.T4 := by kernel_rfl
theorem complinelaw01_TickOrder.bits4 : waitsOk complinelaw01_TickOrder.T4.2 complinelaw01_TickOrder.B4 = true := by kernel_rfl
set_option maxHeartbeats 8000000 in
set_option maxRecDepth 100000 in
theorem complinelaw01_TickOrder.calls (k : Nat) (a0_0 : Int) (a0_1 : Int) (a0_2 : Int) (a1_0 : Int) (a1_1 : Int) (a1_2 : Int) (a2_0 : Int) (a2_1 : Int) (a2_2 : Int) (r : Bool) (w : World) (h : complinelaw01_TickOrder.f k a0_0 a0_1 a0_2 a1_0 a1_1 a1_2 a2_0 a2_1 a2_2 = some r) :
    Calls Try.prog 7 #[.agg #[.int .u64 a0_0, .int .u64 a0_1, .int .i64 a0_2], .agg #[.int .u64 a1_0, .int .u64 a1_1, .int .i64 a1_2], .agg #[.int .u64 a2_0, .int .u64 a2_1, .int .i64 a2_2]] w fun e w' => e = .returned (.bool r) ∧ Below w.heap.size w w' := by
  have hu33 := Try.underlying33
  have HB := Aside0.mk (Below.refl w.heap.size w)
  have H : ((complinelaw01_works.f k).bind fun t154 => (if t154 = true then ((tick_Compare.f k a0_0 a0_1 a0_2 a1_0 a1_1 a1_2).bind fun t155 => ((tick_Compare.f k a1_0 a1_1 a1_2 a2_0 a2_1 a2_2).bind fun t156 => ((tick_Compare.f k a0_0 a0_1 a0_2 a2_0 a2_1 a2_2).bind fun t157 => ((complineref01_Compare.f a0_0 a0_1 a0_2 a1_0 a1_1 a1_2).bind fun t158 => (if t155 = t158 then ((complineref01_Compare.f a1_0 a1_1 a1_2 a2_0 a2_1 a2_2).bind fun t159 => (if t156 = t159 then ((complineref01_Compare.f a0_0 a0_1 a0_2 a2_0 a2_1 a2_2).bind fun t160 => (complinelaw01_TickOrder.j0 k t154 t155 t156 t157 (t157 != t160) a0_0 a0_1 a0_2 a1_0 a1_1 a1_2)) else (complinelaw01_TickOrder.j0 k t154 t155 t156 t157 true a0_0 a0_1 a0_2 a1_0 a1_1 a1_2))) else (complinelaw01_TickOrder.j0 k t154 t155 t156 t157 true a0_0 a0_1 a0_2 a1_0 a1_1 a1_2)))))) else (some false))) = some r := h
  clear h
  replace H := Option.bind_eq_some_iff.mp H
  obtain ⟨t154, A40, H⟩ := H
  replace H : (if t154 = true then ((tick_Compare.f k a0_0 a0_1 a0_2 a1_0 a1_1 a1_2).bind fun t155 => ((tick_Compare.f k a1_0 a1_1 a1_2 a2_0 a2_1 a2_2).bind fun t156 => ((tick_Compare.f k a0_0 a0_1 a0_2 a2_0 a2_1 a2_2).bind fun t157 => ((complineref01_Compare.f a0_0 a0_1 a0_2 a1_0 a1_1 a1_2).bind fun t158 => (if t155 = t158 then ((complineref01_Compare.f a1_0 a1_1 a1_2 a2_0 a2_1 a2_2).bind fun t159 => (if t156 = t159 then ((complineref01_Compare.f a0_0 a0_1 a0_2 a2_0 a2_1 a2_2).bind fun t160 => (complinelaw01_TickOrder.j0 k t154 t155 t156 t157 (t157 != t160) a0_0 a0_1 a0_2 a1_0 a1_1 a1_2)) else (complinelaw01_TickOrder.j0 k t154 t155 t156 t157 true a0_0 a0_1 a0_2 a1_0 a1_1 a1_2))) else (complinelaw01_TickOrder.j0 k t154 t155 t156 t157 true a0_0 a0_1 a0_2 a1_0 a1_1 a1_2)))))) else (some false)) = some r := H
  have A4 := Aside0.mk A40
  clear A40
  by_cases c5 : t154 = true
  · subst c5
    have H1 : ((tick_Compare.f k a0_0 a0_1 a0_2 a1_0 a1_1 a1_2).bind fun t155 => ((tick_Compare.f k a1_0 a1_1 a1_2 a2_0 a2_1 a2_2).bind fun t156 => ((tick_Compare.f k a0_0 a0_1 a0_2 a2_0 a2_1 a2_2).bind fun t157 => ((complineref01_Compare.f a0_0 a0_1 a0_2 a1_0 a1_1 a1_2).bind fun t158 => (if t155 = t158 then ((complineref01_Compare.f a1_0 a1_1 a1_2 a2_0 a2_1 a2_2).bind fun t159 => (if t156 = t159 then ((complineref01_Compare.f a0_0 a0_1 a0_2 a2_0 a2_1 a2_2).bind fun t160 => (complinelaw01_TickOrder.j0 k true t155 t156 t157 (t157 != t160) a0_0 a0_1 a0_2 a1_0 a1_1 a1_2)) else (complinelaw01_TickOrder.j0 k true t155 t156 t157 true a0_0 a0_1 a0_2 a1_0 a1_1 a1_2))) else (complinelaw01_TickOrder.j0 k true t155 t156 t157 true a0_0 a0_1 a0_2 a1_0 a1_1 a1_2)))))) = some r := by rw [if_pos rfl] at H; exact H
    clear H
    have H := H1
    clear H1
    replace H := Option.bind_eq_some_iff.mp H
    obtain ⟨t155, A60, H⟩ := H
    replace H : ((tick_Compare.f k a1_0 a1_1 a1_2 a2_0 a2_1 a2_2).bind fun t156 => ((tick_Compare.f k a0_0 a0_1 a0_2 a2_0 a2_1 a2_2).bind fun t157 => ((complineref01_Compare.f a0_0 a0_1 a0_2 a1_0 a1_1 a1_2).bind fun t158 => (if t155 = t158 then ((complineref01_Compare.f a1_0 a1_1 a1_2 a2_0 a2_1 a2_2).bind fun t159 => (if t156 = t159 then ((complineref01_Compare.f a0_0 a0_1 a0_2 a2_0 a2_1 a2_2).bind fun t160 => (complinelaw01_TickOrder.j0 k true t155 t156 t157 (t157 != t160) a0_0 a0_1 a0_2 a1_0 a1_1 a1_2)) else (complinelaw01_TickOrder.j0 k true t155 t156 t157 true a0_0 a0_1 a0_2 a1_0 a1_1 a1_2))) else (complinelaw01_TickOrder.j0 k true t155 t156 t157 true a0_0 a0_1 a0_2 a1_0 a1_1 a1_2))))) = some r := H
    have A6 := Aside0.mk A60
    clear A60
    replace H := Option.bind_eq_some_iff.mp H
    obtain ⟨t156, A70, H⟩ := H
    replace H : ((tick_Compare.f k a0_0 a0_1 a0_2 a2_0 a2_1 a2_2).bind fun t157 => ((complineref01_Compare.f a0_0 a0_1 a0_2 a1_0 a1_1 a1_2).bind fun t158 => (if t155 = t158 then ((complineref01_Compare.f a1_0 a1_1 a1_2 a2_0 a2_1 a2_2).bind fun t159 => (if t156 = t159 then ((complineref01_Compare.f a0_0 a0_1 a0_2 a2_0 a2_1 a2_2).bind fun t160 => (complinelaw01_TickOrder.j0 k true t155 t156 t157 (t157 != t160) a0_0 a0_1 a0_2 a1_0 a1_1 a1_2)) else (complinelaw01_TickOrder.j0 k true t155 t156 t157 true a0_0 a0_1 a0_2 a1_0 a1_1 a1_2))) else (complinelaw01_TickOrder.j0 k true t155 t156 t157 true a0_0 a0_1 a0_2 a1_0 a1_1 a1_2)))) = some r := H
    have A7 := Aside0.mk A70
    clear A70
    replace H := Option.bind_eq_some_iff.mp H
    obtain ⟨t157, A80, H⟩ := H
    replace H : ((complineref01_Compare.f a0_0 a0_1 a0_2 a1_0 a1_1 a1_2).bind fun t158 => (if t155 = t158 then ((complineref01_Compare.f a1_0 a1_1 a1_2 a2_0 a2_1 a2_2).bind fun t159 => (if t156 = t159 then ((complineref01_Compare.f a0_0 a0_1 a0_2 a2_0 a2_1 a2_2).bind fun t160 => (complinelaw01_TickOrder.j0 k true t155 t156 t157 (t157 != t160) a0_0 a0_1 a0_2 a1_0 a1_1 a1_2)) else (complinelaw01_TickOrder.j0 k true t155 t156 t157 true a0_0 a0_1 a0_2 a1_0 a1_1 a1_2))) else (complinelaw01_TickOrder.j0 k true t155 t156 t157 true a0_0 a0_1 a0_2 a1_0 a1_1 a1_2))) = some r := H
    have A8 := Aside0.mk A80
    clear A80
    have HC9 := Aside0.mk H
    clear H
    go_enter Try.func7, Try.ntmps7
    try go_wp2_with (first | ((with_reducible refine gate_dst (N := 3) rfl ?_); refine box_event ?hg (N := 3) ?hd (cs := #[.int .u64 a0_0, .int .u64 a0_1, .int .i64 a0_2]) (t := 33) ?hr ?_; (case hd => rfl); (case hg => rfl); (case hr => first | (go_simp; done) | (go_simp; rfl)); intro gb151 hg w10 hbox hb; have n0_ := Aside0.mk (below_step (by repeat (first | (with_reducible first | exact HB.out | apply below_alloc | apply pw_below_drewN | apply below_drew1) | exact HB.out)) hb); have n1_ := Aside0.mk (hbox); have n2_ := Aside0.mk ((by rw [hg]; exact (below_size (by repeat (first | (with_reducible first | exact HB.out | apply below_alloc | apply pw_below_drewN | apply below_drew1) | exact HB.out))) : w.heap.size ≤ gb151)); have n3_ := Aside0.mk ((by rw [hg]; exact (below_size (by repeat (first | (with_reducible first | exact HB.out | apply below_alloc | apply pw_below_drewN | apply below_drew1) | exact HB.out))) : w.heap.size ≤ gb151)); clear HB; have HB := n0_; have BK151 := n1_; have GW151 := n2_; have GE151 := n3_; clear n0_ n1_ n2_ n3_; clear hb hbox hg) | ((with_reducible refine gate_dst (N := 4) rfl ?_); refine box_event ?hg (N := 4) ?hd (cs := #[.int .u64 a1_0, .int .u64 a1_1, .int .i64 a1_2]) (t := 33) ?hr ?_; (case hd => rfl); (case hg => rfl); (case hr => first | (go_simp; done) | (go_simp; rfl)); intro gb152 hg w11 hbox hb; have n0_ := Aside0.mk (blk_below (g := gb151) (o := .cells #[.int .u64 a0_0, .int .u64 a0_1, .int .i64 a0_2] 33 (0, 0)) (by (with_reducible repeat (first | refine blk_drewN ?_ _ | refine blk_drew ?_ | refine blk_alloc ?_ _)); exact BK151.out) hb); have n1_ := Aside0.mk (below_step (by repeat (first | (with_reducible first | exact HB.out | apply below_alloc | apply pw_below_drewN | apply below_drew1 | refine below_set ?_ GE151.out) | exact HB.out)) hb); have n2_ := Aside0.mk (hbox); have n3_ := Aside0.mk ((by rw [hg]; exact (below_size (by repeat (first | (with_reducible first | exact HB.out | apply below_alloc | apply pw_below_drewN | apply below_drew1 | refine below_set ?_ GE151.out) | exact HB.out))) : w.heap.size ≤ gb152)); have n4_ := Aside0.mk ((by rw [hg]; exact (below_size (by repeat (first | (with_reducible first | exact HB.out | apply below_alloc | apply pw_below_drewN | apply below_drew1 | refine below_set ?_ GE151.out) | exact HB.out))) : w.heap.size ≤ gb152)); have n5_ := Aside0.mk ((by rw [hg]; exact Nat.ne_of_lt (blk_lt (g := gb151) (o := .cells #[.int .u64 a0_0, .int .u64 a0_1, .int .i64 a0_2] 33 (0, 0)) (by (with_reducible repeat (first | refine blk_drewN ?_ _ | refine blk_drew ?_ | refine blk_alloc ?_ _)); exact BK151.out)) : gb151 ≠ gb152)); have n6_ := Aside0.mk ((by rw [hg]; exact Nat.ne_of_gt (blk_lt (g := gb151) (o := .cells #[.int .u64 a0_0, .int .u64 a0_1, .int .i64 a0_2] 33 (0, 0)) (by (with_reducible repeat (first | refine blk_drewN ?_ _ | refine blk_drew ?_ | refine blk_alloc ?_ _)); exact BK151.out)) : gb152 ≠ gb151)); clear BK151; clear HB; have BK151 := n0_; have HB := n1_; have BK152 := n2_; have GW152 := n3_; have GE152 := n4_; have NB151_152 := n5_; have NB152_151 := n6_; clear n0_ n1_ n2_ n3_ n4_ n5_ n6_; clear hb hbox hg) | ((with_reducible refine gate_dst (N := 5) rfl ?_); refine box_event ?hg (N := 5) ?hd (cs := #[.int .u64 a2_0, .int .u64 a2_1, .int .i64 a2_2]) (t := 33) ?hr ?_; (case hd => rfl); (case hg => rfl); (case hr => first | (go_simp; done) | (go_simp; rfl)); intro gb153 hg w12 hbox hb; have n0_ := Aside0.mk (blk_below (g := gb151) (o := .cells #[.int .u64 a0_0, .int .u64 a0_1, .int .i64 a0_2] 33 (0, 0)) (by (with_reducible repeat (first | refine blk_drewN ?_ _ | refine blk_drew ?_ | refine blk_alloc ?_ _)); exact BK151.out) hb); have n1_ := Aside0.mk (blk_below (g := gb152) (o := .cells #[.int .u64 a1_0, .int .u64 a1_1, .int .i64 a1_2] 33 (0, 0)) (by (with_reducible repeat (first | refine blk_drewN ?_ _ | refine blk_drew ?_ | refine blk_alloc ?_ _)); exact BK152.out) hb); have n2_ := Aside0.mk (below_step (by repeat (first | (with_reducible first | exact HB.out | apply below_alloc | apply pw_below_drewN | apply below_drew1 | refine below_set ?_ GE151.out | refine below_set ?_ GE152.out) | exact HB.out)) hb); have n3_ := Aside0.mk (hbox); have n4_ := Aside0.mk ((by rw [hg]; exact (below_size (by repeat (first | (with_reducible first | exact HB.out | apply below_alloc | apply pw_below_drewN | apply below_drew1 | refine below_set ?_ GE151.out | refine below_set ?_ GE152.out) | exact HB.out))) : w.heap.size ≤ gb153)); have n5_ := Aside0.mk ((by rw [hg]; exact (below_size (by repeat (first | (with_reducible first | exact HB.out | apply below_alloc | apply pw_below_drewN | apply below_drew1 | refine below_set ?_ GE151.out | refine below_set ?_ GE152.out) | exact HB.out))) : w.heap.size ≤ gb153)); have n6_ := Aside0.mk ((by rw [hg]; exact Nat.ne_of_lt (blk_lt (g := gb151) (o := .cells #[.int .u64 a0_0, .int .u64 a0_1, .int .i64 a0_2] 33 (0, 0)) (by (with_reducible repeat (first | refine blk_drewN ?_ _ | refine blk_drew ?_ | refine blk_alloc ?_ _)); exact BK151.out)) : gb151 ≠ gb153)); have n7_ := Aside0.mk ((by rw [hg]; exact Nat.ne_of_gt (blk_lt (g := gb151) (o := .cells #[.int .u64 a0_0, .int .u64 a0_1, .int .i64 a0_2] 33 (0, 0)) (by (with_reducible repeat (first | refine blk_drewN ?_ _ | refine blk_drew ?_ | refine blk_alloc ?_ _)); exact BK151.out)) : gb153 ≠ gb151)); have n8_ := Aside0.mk ((by rw [hg]; exact Nat.ne_of_lt (blk_lt (g := gb152) (o := .cells #[.int .u64 a1_0, .int .u64 a1_1, .int .i64 a1_2] 33 (0, 0)) (by (with_reducible repeat (first | refine blk_drewN ?_ _ | refine blk_drew ?_ | refine blk_alloc ?_ _)); exact BK152.out)) : gb152 ≠ gb153)); have n9_ := Aside0.mk ((by rw [hg]; exact Nat.ne_of_gt (blk_lt (g := gb152) (o := .cells #[.int .u64 a1_0, .int .u64 a1_1, .int .i64 a1_2] 33 (0, 0)) (by (with_reducible repeat (first | refine blk_drewN ?_ _ | refine blk_drew ?_ | refine blk_alloc ?_ _)); exact BK152.out)) : gb153 ≠ gb152)); clear BK151; clear BK152; clear HB; have BK151 := n0_; have BK152 := n1_; have HB := n2_; have BK153 := n3_; have GW153 := n4_; have GE153 := n5_; have NB151_153 := n6_; have NB153_151 := n7_; have NB152_153 := n8_; have NB153_152 := n9_; clear n0_ n1_ n2_ n3_ n4_ n5_ n6_ n7_ n8_ n9_; clear hb hbox hg) | ((with_reducible refine gate_callee (f := 11) rfl ?_); refine goesL_ (some 11) rfl rfl Try.func11 (by kernel_rfl) rfl #[] rfl (by (try simp only [List.map_toArray, List.map_cons, List.map_nil]); first | done | rfl | (simp only [List.length_drop, List.length_take]; rfl)) ?_; (with_reducible refine (complinelaw01_works.calls k  true _ A4.out).mono ?_); rintro e w13 ⟨rfl, hb⟩; refine ⟨_, rfl, ?_⟩; have n0_ := Aside0.mk (blk_below (g := gb151) (o := .cells #[.int .u64 a0_0, .int .u64 a0_1, .int .i64 a0_2] 33 (0, 0)) (by (with_reducible repeat (first | refine blk_drewN ?_ _ | refine blk_drew ?_ | refine blk_alloc ?_ _)); exact BK151.out) hb); have n1_ := Aside0.mk (blk_below (g := gb152) (o := .cells #[.int .u64 a1_0, .int .u64 a1_1, .int .i64 a1_2] 33 (0, 0)) (by (with_reducible repeat (first | refine blk_drewN ?_ _ | refine blk_drew ?_ | refine blk_alloc ?_ _)); exact BK152.out) hb); have n2_ := Aside0.mk (blk_below (g := gb153) (o := .cells #[.int .u64 a2_0, .int .u64 a2_1, .int .i64 a2_2] 33 (0, 0)) (by (with_reducible repeat (first | refine blk_drewN ?_ _ | refine blk_drew ?_ | refine blk_alloc ?_ _)); exact BK153.out) hb); have n3_ := Aside0.mk (below_step (by repeat (first | (with_reducible first | exact HB.out | apply below_alloc | apply pw_below_drewN | apply below_drew1 | refine below_set ?_ GE151.out | refine below_set ?_ GE152.out | refine below_set ?_ GE153.out) | exact HB.out)) hb); clear BK151; clear BK152; clear BK153; clear HB; have BK151 := n0_; have BK152 := n1_; have BK153 := n2_; have HB := n3_; clear n0_ n1_ n2_ n3_; (try clear hb); (try clear hb2); (try clear hk); (try clear hi)))
    have n0_ := Aside0.mk (blk_drew BK151.out)
    have n1_ := Aside0.mk (blk_drew BK152.out)
    have n2_ := Aside0.mk (blk_drew BK153.out)
    have n3_ := Aside0.mk (below_drew1 HB.out)
    clear BK151
    clear BK152
    clear BK153
    clear HB
    have BK151 := n0_
    have BK152 := n1_
    have BK153 := n2_
    have HB := n3_
    clear n0_ n1_ n2_ n3_
    refine start_ (n := 12) (S := fun w' => w'.cell? ⟨gb151, 0, none⟩ = some (.int .u64 a0_0) ∧ w'.cell? ⟨gb151, 1, none⟩ = some (.int .u64 a0_1) ∧ w'.cell? ⟨gb151, 2, none⟩ = some (.int .i64 a0_2) ∧ w'.cell? ⟨gb152, 0, none⟩ = some (.int .u64 a1_0) ∧ w'.cell? ⟨gb152, 1, none⟩ = some (.int .u64 a1_1) ∧ w'.cell? ⟨gb152, 2, none⟩ = some (.int .i64 a1_2) ∧ w'.cell? ⟨gb153, 0, none⟩ = some (.int .u64 a2_0) ∧ w'.cell? ⟨gb153, 1, none⟩ = some (.int .u64 a2_1) ∧ w'.cell? ⟨gb153, 2, none⟩ = some (.int .i64 a2_2)) (ds := []) #[false, false, false, false, false, false, false, false, false, false, false, false] (by kernel_rfl) rfl rfl ⟨(blk_cell BK151.out 0).trans rfl, (blk_cell BK151.out 1).trans rfl, (blk_cell BK151.out 2).trans rfl, (blk_cell BK152.out 0).trans rfl, (blk_cell BK152.out 1).trans rfl, (blk_cell BK152.out 2).trans rfl, (blk_cell BK153.out 0).trans rfl, (blk_cell BK153.out 1).trans rfl, (blk_cell BK153.out 2).trans rfl⟩ (fun hHeld => ?_); refine with_tabW complinelaw01_TickOrder.tab4 complinelaw01_TickOrder.bits4 (fun HT_ HW_ => ?_)
    generalize w13.drew = w14 at BK151 BK152 BK153 HB hHeld ⊢
    refine take_ (i := 0) (N := some 14) (v := ?_) (a' := ?_) #[true, false, false, false, false, false, false, false, false, false, false, false] rfl rfl (take_ofW HT_.out HW_.out (by kernel_rfl)) (fun _ _ _ h => h) (Or.inl ⟨by rfl, ?_⟩) hHeld ?_ ?_
    rotate_left
    · rintro w' ⟨s0, s1, s2, s3, s4, s5, s6, s7, s8⟩
      go_simp
      with_reducible rfl
    rotate_left
    · simp only [Act.put, List.setIfInBounds_toArray, List.set_cons_zero, List.set_cons_succ, i64_w, i32_w]
      rfl
    refine take_ (i := 1) (N := some 15) (v := ?_) (a' := ?_) #[true, true, false, false, false, false, false, false, false, false, false, false] rfl rfl (take_ofW HT_.out HW_.out (by kernel_rfl)) (fun _ _ _ h => h) (Or.inl ⟨by rfl, ?_⟩) hHeld ?_ ?_
    rotate_left
    · rintro w' ⟨s0, s1, s2, s3, s4, s5, s6, s7, s8⟩
      go_simp
      with_reducible rfl
    rotate_left
    · simp only [Act.put, List.setIfInBounds_toArray, List.set_cons_zero, List.set_cons_succ, i64_w, i32_w]
      rfl
    refine take_ (i := 3) (N := some 17) (v := ?_) (a' := ?_) #[true, true, false, true, false, false, false, false, false, false, false, false] rfl rfl (take_ofW HT_.out HW_.out (by kernel_rfl)) (fun _ _ _ h => h) (Or.inl ⟨by rfl, ?_⟩) hHeld ?_ ?_
    rotate_left
    · rintro w' ⟨s0, s1, s2, s3, s4, s5, s6, s7, s8⟩
      go_simp
      with_reducible rfl
    rotate_left
    · simp only [Act.put, List.setIfInBounds_toArray, List.set_cons_zero, List.set_cons_succ, i64_w, i32_w]
      rfl
    refine take_ (i := 4) (N := some 18) (v := ?_) (a' := ?_) #[true, true, false, true, true, false, false, false, false, false, false, false] rfl rfl (take_ofW HT_.out HW_.out (by kernel_rfl)) (fun _ _ _ h => h) (Or.inl ⟨by rfl, ?_⟩) hHeld ?_ ?_
    rotate_left
    · rintro w' ⟨s0, s1, s2, s3, s4, s5, s6, s7, s8⟩
      go_simp
      with_reducible rfl
    rotate_left
    · simp only [Act.put, List.setIfInBounds_toArray, List.set_cons_zero, List.set_cons_succ, i64_w, i32_w]
      rfl
    refine take_ (i := 6) (N := some 20) (v := ?_) (a' := ?_) #[true, true, false, true, true, false, true, false, false, false, false, false] rfl rfl (take_ofW HT_.out HW_.out (by kernel_rfl)) (fun _ _ _ h => h) (Or.inl ⟨by rfl, ?_⟩) hHeld ?_ ?_
    rotate_left
    · rintro w' ⟨s0, s1, s2, s3, s4, s5, s6, s7, s8⟩
      go_simp
      with_reducible rfl
    rotate_left
    · simp only [Act.put, List.setIfInBounds_toArray, List.set_cons_zero, List.set_cons_succ, i64_w, i32_w]
      rfl
    refine take_ (i := 7) (N := some 21) (v := ?_) (a' := ?_) #[true, true, false, true, true, false, true, true, false, false, false, false] rfl rfl (take_ofW HT_.out HW_.out (by kernel_rfl)) (fun _ _ _ h => h) (Or.inl ⟨by rfl, ?_⟩) hHeld ?_ ?_
    rotate_left
    · rintro w' ⟨s0, s1, s2, s3, s4, s5, s6, s7, s8⟩
      go_simp
      with_reducible rfl
    rotate_left
    · simp only [Act.put, List.setIfInBounds_toArray, List.set_cons_zero, List.set_cons_succ, i64_w, i32_w]
      rfl
    refine one_ (i := 2) (N := some 16) #[true, true, true, true, true, false, true, true, false, false, false, false] rfl rfl (one_of HT_.out (by kernel_rfl)) (by decide) (fun K hK => ?_)
    refine goes_ Try.func20 (by kernel_rfl) rfl #[.agg #[.int .u64 a0_0, .int .u64 a0_1, .int .i64 a0_2], .agg #[.int .u64 a1_0, .int .u64 a1_1, .int .i64 a1_2]] (by rfl) rfl rfl (by (try simp only [List.map_toArray, List.map_cons, List.map_nil]); first | done | rfl | (simp only [List.length_drop, List.length_take]; rfl)) ?_
    with_reducible refine (tick_Compare.calls k a0_0 a0_1 a0_2 a1_0 a1_1 a1_2 t155 _ A6.out).mono ?_
    rintro e w15 ⟨rfl, hb⟩
    refine ⟨_, rfl, ?_⟩
    have n0_ := Aside0.mk (blk_below (g := gb151) (o := .cells #[.int .u64 a0_0, .int .u64 a0_1, .int .i64 a0_2] 33 (0, 0)) (by (with_reducible repeat (first | refine blk_drewN ?_ _ | refine blk_drew ?_ | refine blk_alloc ?_ _)); exact BK151.out) hb)
    have n1_ := Aside0.mk (blk_below (g := gb152) (o := .cells #[.int .u64 a1_0, .int .u64 a1_1, .int .i64 a1_2] 33 (0, 0)) (by (with_reducible repeat (first | refine blk_drewN ?_ _ | refine blk_drew ?_ | refine blk_alloc ?_ _)); exact BK152.out) hb)
    have n2_ := Aside0.mk (blk_below (g := gb153) (o := .cells #[.int .u64 a2_0, .int .u64 a2_1, .int .i64 a2_2] 33 (0, 0)) (by (with_reducible repeat (first | refine blk_drewN ?_ _ | refine blk_drew ?_ | refine blk_alloc ?_ _)); exact BK153.out) hb)
    have n3_ := Aside0.mk (below_step (by repeat (first | (with_reducible first | exact HB.out | apply below_alloc | apply pw_below_drewN | apply below_drew1 | refine below_set ?_ GE151.out | refine below_set ?_ GE152.out | refine below_set ?_ GE153.out) | exact HB.out)) hb)
    clear BK151
    clear BK152
    clear BK153
    clear HB
    have BK151 := n0_
    have BK152 := n1_
    have BK153 := n2_
    have HB := n3_
    clear n0_ n1_ n2_ n3_
    (try clear hb)
    (try clear hb2)
    (try clear hk)
    (try clear hi)
    refine hK.out _ _ ⟨(blk_cell BK151.out 0).trans rfl, (blk_cell BK151.out 1).trans rfl, (blk_cell BK151.out 2).trans rfl, (blk_cell BK152.out 0).trans rfl, (blk_cell BK152.out 1).trans rfl, (blk_cell BK152.out 2).trans rfl, (blk_cell BK153.out 0).trans rfl, (blk_cell BK153.out 1).trans rfl, (blk_cell BK153.out 2).trans rfl⟩ (fun hHeld => ?_)
    clear hK K
    refine norm_ (a' := ?_) ?_ ?_
    rotate_left
    · show Act.put _ (some 16) _ = _
      simp only [Act.put, List.setIfInBounds_toArray, List.set_cons_zero, List.set_cons_succ, i64_w, i32_w]
      rfl
    refine one_ (i := 5) (N := some 19) #[true, true, true, true, true, true, true, true, false, false, false, false] rfl rfl (one_of HT_.out (by kernel_rfl)) (by decide) (fun K hK => ?_)
    refine goes_ Try.func20 (by kernel_rfl) rfl #[.agg #[.int .u64 a1_0, .int .u64 a1_1, .int .i64 a1_2], .agg #[.int .u64 a2_0, .int .u64 a2_1, .int .i64 a2_2]] (by rfl) rfl rfl (by (try simp only [List.map_toArray, List.map_cons, List.map_nil]); first | done | rfl | (simp only [List.length_drop, List.length_take]; rfl)) ?_
    with_reducible refine (tick_Compare.calls k a1_0 a1_1 a1_2 a2_0 a2_1 a2_2 t156 _ A7.out).mono ?_
    rintro e w16 ⟨rfl, hb⟩
    refine ⟨_, rfl, ?_⟩
    have n0_ := Aside0.mk (blk_below (g := gb151) (o := .cells #[.int .u64 a0_0, .int .u64 a0_1, .int .i64 a0_2] 33 (0, 0)) (by (with_reducible repeat (first | refine blk_drewN ?_ _ | refine blk_drew ?_ | refine blk_alloc ?_ _)); exact BK151.out) hb)
    have n1_ := Aside0.mk (blk_below (g := gb152) (o := .cells #[.int .u64 a1_0, .int .u64 a1_1, .int .i64 a1_2] 33 (0, 0)) (by (with_reducible repeat (first | refine blk_drewN ?_ _ | refine blk_drew ?_ | refine blk_alloc ?_ _)); exact BK152.out) hb)
    have n2_ := Aside0.mk (blk_below (g := gb153) (o := .cells #[.int .u64 a2_0, .int .u64 a2_1, .int .i64 a2_2] 33 (0, 0)) (by (with_reducible repeat (first | refine blk_drewN ?_ _ | refine blk_drew ?_ | refine blk_alloc ?_ _)); exact BK153.out) hb)
    have n3_ := Aside0.mk (below_step (by repeat (first | (with_reducible first | exact HB.out | apply below_alloc | apply pw_below_drewN | apply below_drew1 | refine below_set ?_ GE151.out | refine below_set ?_ GE152.out | refine below_set ?_ GE153.out) | exact HB.out)) hb)
    clear BK151
    clear BK152
    clear BK153
    clear HB
    have BK151 := n0_
    have BK152 := n1_
    have BK153 := n2_
    have HB := n3_
    clear n0_ n1_ n2_ n3_
    (try clear hb)
    (try clear hb2)
    (try clear hk)
    (try clear hi)
    refine hK.out _ _ ⟨(blk_cell BK151.out 0).trans rfl, (blk_cell BK151.out 1).trans rfl, (blk_cell BK151.out 2).trans rfl, (blk_cell BK152.out 0).trans rfl, (blk_cell BK152.out 1).trans rfl, (blk_cell BK152.out 2).trans rfl, (blk_cell BK153.out 0).trans rfl, (blk_cell BK153.out 1).trans rfl, (blk_cell BK153.out 2).trans rfl⟩ (fun hHeld => ?_)
    clear hK K
    refine norm_ (a' := ?_) ?_ ?_
    rotate_left
    · show Act.put _ (some 19) _ = _
      simp only [Act.put, List.setIfInBounds_toArray, List.set_cons_zero, List.set_cons_succ, i64_w, i32_w]
      rfl
    refine one_ (i := 8) (N := some 22) #[true, true, true, true, true, true, true, true, true, false, false, false] rfl rfl (one_of HT_.out (by kernel_rfl)) (by decide) (fun K hK => ?_)
    refine goes_ Try.func20 (by kernel_rfl) rfl #[.agg #[.int .u64 a0_0, .int .u64 a0_1, .int .i64 a0_2], .agg #[.int .u64 a2_0, .int .u64 a2_1, .int .i64 a2_2]] (by rfl) rfl rfl (by (try simp only [List.map_toArray, List.map_cons, List.map_nil]); first | done | rfl | (simp only [List.length_drop, List.length_take]; rfl)) ?_
    with_reducible refine (tick_Compare.calls k a0_0 a0_1 a0_2 a2_0 a2_1 a2_2 t157 _ A8.out).mono ?_
    rintro e w17 ⟨rfl, hb⟩
    refine ⟨_, rfl, ?_⟩
    have n0_ := Aside0.mk (blk_below (g := gb151) (o := .cells #[.int .u64 a0_0, .int .u64 a0_1, .int .i64 a0_2] 33 (0, 0)) (by (with_reducible repeat (first | refine blk_drewN ?_ _ | refine blk_drew ?_ | refine blk_alloc ?_ _)); exact BK151.out) hb)
    have n1_ := Aside0.mk (blk_below (g := gb152) (o := .cells #[.int .u64 a1_0, .int .u64 a1_1, .int .i64 a1_2] 33 (0, 0)) (by (with_reducible repeat (first | refine blk_drewN ?_ _ | refine blk_drew ?_ | refine blk_alloc ?_ _)); exact BK152.out) hb)
    have n2_ := Aside0.mk (blk_below (g := gb153) (o := .cells #[.int .u64 a2_0, .int .u64 a2_1, .int .i64 a2_2] 33 (0, 0)) (by (with_reducible repeat (first | refine blk_drewN ?_ _ | refine blk_drew ?_ | refine blk_alloc ?_ _)); exact BK153.out) hb)
    have n3_ := Aside0.mk (below_step (by repeat (first | (with_reducible first | exact HB.out | apply below_alloc | apply pw_below_drewN | apply below_drew1 | refine below_set ?_ GE151.out | refine below_set ?_ GE152.out | refine below_set ?_ GE153.out) | exact HB.out)) hb)
    clear BK151
    clear BK152
    clear BK153
    clear HB
    have BK151 := n0_
    have BK152 := n1_
    have BK153 := n2_
    have HB := n3_
    clear n0_ n1_ n2_ n3_
    (try clear hb)
    (try clear hb2)
    (try clear hk)
    (try clear hi)
    refine hK.out _ _ ⟨(blk_cell BK151.out 0).trans rfl, (blk_cell BK151.out 1).trans rfl, (blk_cell BK151.out 2).trans rfl, (blk_cell BK152.out 0).trans rfl, (blk_cell BK152.out 1).trans rfl, (blk_cell BK152.out 2).trans rfl, (blk_cell BK153.out 0).trans rfl, (blk_cell BK153.out 1).trans rfl, (blk_cell BK153.out 2).trans rfl⟩ (fun hHeld => ?_)
    clear hK K
    refine norm_ (a' := ?_) ?_ ?_
    rotate_left
    · show Act.put _ (some 22) _ = _
      simp only [Act.put, List.setIfInBounds_toArray, List.set_cons_zero, List.set_cons_succ, i64_w, i32_w]
      rfl
    refine pure_ (i := 9) (N := some 8) (v := ?_) (a' := ?_) #[true, true, true, true, true, true, true, true, true, true, false, false] rfl rfl (any_of HT_.out (by kernel_rfl)) (fun _ _ _ h => h) (Or.inl ⟨by rfl, ?_⟩) ?_ ?_
    rotate_left
    · intro w'
      go_simp
      with_reducible rfl
    rotate_left
    · simp only [Act.put, List.setIfInBounds_toArray, List.set_cons_zero, List.set_cons_succ, i64_w, i32_w]
      rfl
    refine pure_ (i := 10) (N := some 9) (v := ?_) (a' := ?_) #[true, true, true, true, true, true, true, true, true, true, true, false] rfl rfl (any_of HT_.out (by kernel_rfl)) (fun _ _ _ h => h) (Or.inl ⟨by rfl, ?_⟩) ?_ ?_
    rotate_left
    · intro w'
      go_simp
      with_reducible rfl
    rotate_left
    · simp only [Act.put, List.setIfInBounds_toArray, List.set_cons_zero, List.set_cons_succ, i64_w, i32_w]
      rfl
    refine pure_ (i := 11) (N := some 10) (v := ?_) (a' := ?_) #[true, true, true, true, true, true, true, true, true, true, true, true] rfl rfl (any_of HT_.out (by kernel_rfl)) (fun _ _ _ h => h) (Or.inl ⟨by rfl, ?_⟩) ?_ ?_
    rotate_left
    · intro w'
      go_simp
      with_reducible rfl
    rotate_left
    · simp only [Act.put, List.setIfInBounds_toArray, List.set_cons_zero, List.set_cons_succ, i64_w, i32_w]
      rfl
    refine done_ (done_of HT_.out (by kernel_rfl)) ?_
    go_upto_region 5 with (fail)
    go_cut [41] (fun v41 wc => ∃ (kq : Nat) (x41_8 : Bool), v41 = .bool x41_8 ∧ Aside0 (complinelaw01_TickOrder.j0 kq true t155 t156 t157 x41_8 a0_0 a0_1 a0_2 a1_0 a1_1 a1_2 = some r) ∧ Aside0 (kq ≤ k) ∧ Aside0 (wc.heap[gb151]? = some (.cells #[.int .u64 a0_0, .int .u64 a0_1, .int .i64 a0_2] 33 (0, 0))) ∧ Aside0 (wc.heap[gb152]? = some (.cells #[.int .u64 a1_0, .int .u64 a1_1, .int .i64 a1_2] 33 (0, 0))) ∧ Aside0 (wc.heap[gb153]? = some (.cells #[.int .u64 a2_0, .int .u64 a2_1, .int .i64 a2_2] 33 (0, 0))) ∧ Aside0 (Below w.heap.size w wc))
    case first =>
      have H := HC9.out
      clear HC9
      replace H := Option.bind_eq_some_iff.mp H
      obtain ⟨t158, A180, H⟩ := H
      replace H : (if t155 = t158 then ((complineref01_Compare.f a1_0 a1_1 a1_2 a2_0 a2_1 a2_2).bind fun t159 => (if t156 = t159 then ((complineref01_Compare.f a0_0 a0_1 a0_2 a2_0 a2_1 a2_2).bind fun t160 => (complinelaw01_TickOrder.j0 k true t155 t156 t157 (t157 != t160) a0_0 a0_1 a0_2 a1_0 a1_1 a1_2)) else (complinelaw01_TickOrder.j0 k true t155 t156 t157 true a0_0 a0_1 a0_2 a1_0 a1_1 a1_2))) else (complinelaw01_TickOrder.j0 k true t155 t156 t157 true a0_0 a0_1 a0_2 a1_0 a1_1 a1_2)) = some r := H
      have A18 := Aside0.mk A180
      clear A180
      by_cases c19 : t155 = t158
      · rw [if_pos c19] at H
        have c19b0 : (t155 == t158) = true := beq_iff_eq.mpr c19
        have c19b1 : (t155 != t158) = false := bne_eq_false_iff_eq.mpr c19
        clear c19
        (first | rw [c19b0] | (simp only [i64_w, i32_w]; rw [c19b0]) | skip)
        replace H := Option.bind_eq_some_iff.mp H
        obtain ⟨t159, A200, H⟩ := H
        replace H : (if t156 = t159 then ((complineref01_Compare.f a0_0 a0_1 a0_2 a2_0 a2_1 a2_2).bind fun t160 => (complinelaw01_TickOrder.j0 k true t155 t156 t157 (t157 != t160) a0_0 a0_1 a0_2 a1_0 a1_1 a1_2)) else (complinelaw01_TickOrder.j0 k true t155 t156 t157 true a0_0 a0_1 a0_2 a1_0 a1_1 a1_2)) = some r := H
        have A20 := Aside0.mk A200
        clear A200
        by_cases c21 : t156 = t159
        · rw [if_pos c21] at H
          have c21b0 : (t156 == t159) = true := beq_iff_eq.mpr c21
          have c21b1 : (t156 != t159) = false := bne_eq_false_iff_eq.mpr c21
          clear c21
          replace H := Option.bind_eq_some_iff.mp H
          obtain ⟨t160, A220, H⟩ := H
          replace H : (complinelaw01_TickOrder.j0 k true t155 t156 t157 (t157 != t160) a0_0 a0_1 a0_2 a1_0 a1_1 a1_2) = some r := H
          have A22 := Aside0.mk A220
          clear A220
          have H' := Aside0.mk H
          clear H
          have hnb23 := NB151_152.out
          have hnc23 := NB152_151.out
          have hnb24 := NB151_153.out
          have hnc24 := NB153_151.out
          have hcz25_0 : w17.cell? ⟨gb151, 0, none⟩ = some (.int .u64 a0_0) := (blk_cell BK151.out 0).trans rfl
          have hcz25_1 : w17.cell? ⟨gb151, 1, none⟩ = some (.int .u64 a0_1) := (blk_cell BK151.out 1).trans rfl
          have hcz25_2 : w17.cell? ⟨gb151, 2, none⟩ = some (.int .i64 a0_2) := (blk_cell BK151.out 2).trans rfl
          have hfz25_0 := blk_frozen BK151.out 0
          have hfz25_1 := blk_frozen BK151.out 1
          have hfz25_2 := blk_frozen BK151.out 2
          have hnb26 := NB152_153.out
          have hnc26 := NB153_152.out
          have hcz27_0 : w17.cell? ⟨gb152, 0, none⟩ = some (.int .u64 a1_0) := (blk_cell BK152.out 0).trans rfl
          have hcz27_1 : w17.cell? ⟨gb152, 1, none⟩ = some (.int .u64 a1_1) := (blk_cell BK152.out 1).trans rfl
          have hcz27_2 : w17.cell? ⟨gb152, 2, none⟩ = some (.int .i64 a1_2) := (blk_cell BK152.out 2).trans rfl
          have hfz27_0 := blk_frozen BK152.out 0
          have hfz27_1 := blk_frozen BK152.out 1
          have hfz27_2 := blk_frozen BK152.out 2
          go_wp2_with (first | ((with_reducible refine gate_callee (f := 21) rfl ?_); refine goesL_ (some 26) rfl rfl Try.func21 (by kernel_rfl) rfl #[.agg #[.int .u64 a0_0, .int .u64 a0_1, .int .i64 a0_2], .agg #[.int .u64 a1_0, .int .u64 a1_1, .int .i64 a1_2]] rfl (by (try simp only [List.map_toArray, List.map_cons, List.map_nil]); first | done | rfl | (simp only [List.length_drop, List.length_take]; rfl)) ?_; (with_reducible refine (complineref01_Compare.calls a0_0 a0_1 a0_2 a1_0 a1_1 a1_2 t158 _ A18.out).mono ?_); rintro e w28 ⟨rfl, hb⟩; refine ⟨_, rfl, ?_⟩; have n0_ := Aside0.mk (blk_below (g := gb151) (o := .cells #[.int .u64 a0_0, .int .u64 a0_1, .int .i64 a0_2] 33 (0, 0)) (by (with_reducible repeat (first | refine blk_drewN ?_ _ | refine blk_drew ?_ | refine blk_alloc ?_ _)); exact BK151.out) hb); have n1_ := Aside0.mk (blk_below (g := gb152) (o := .cells #[.int .u64 a1_0, .int .u64 a1_1, .int .i64 a1_2] 33 (0, 0)) (by (with_reducible repeat (first | refine blk_drewN ?_ _ | refine blk_drew ?_ | refine blk_alloc ?_ _)); exact BK152.out) hb); have n2_ := Aside0.mk (blk_below (g := gb153) (o := .cells #[.int .u64 a2_0, .int .u64 a2_1, .int .i64 a2_2] 33 (0, 0)) (by (with_reducible repeat (first | refine blk_drewN ?_ _ | refine blk_drew ?_ | refine blk_alloc ?_ _)); exact BK153.out) hb); have n3_ := Aside0.mk (below_step (by repeat (first | (with_reducible first | exact HB.out | apply below_alloc | apply pw_below_drewN | apply below_drew1 | refine below_set ?_ GE151.out | refine below_set ?_ GE152.out | refine below_set ?_ GE153.out) | exact HB.out)) hb); clear BK151; clear BK152; clear BK153; clear HB; have BK151 := n0_; have BK152 := n1_; have BK153 := n2_; have HB := n3_; clear n0_ n1_ n2_ n3_; (try clear hb); (try clear hb2); (try clear hk); (try clear hi); have hcz29_0 : w28.cell? ⟨gb152, 0, none⟩ = some (.int .u64 a1_0) := (blk_cell BK152.out 0).trans rfl; have hcz29_1 : w28.cell? ⟨gb152, 1, none⟩ = some (.int .u64 a1_1) := (blk_cell BK152.out 1).trans rfl; have hcz29_2 : w28.cell? ⟨gb152, 2, none⟩ = some (.int .i64 a1_2) := (blk_cell BK152.out 2).trans rfl; have hfz29_0 := blk_frozen BK152.out 0; have hfz29_1 := blk_frozen BK152.out 1; have hfz29_2 := blk_frozen BK152.out 2; have hcz30_0 : w28.cell? ⟨gb153, 0, none⟩ = some (.int .u64 a2_0) := (blk_cell BK153.out 0).trans rfl; have hcz30_1 : w28.cell? ⟨gb153, 1, none⟩ = some (.int .u64 a2_1) := (blk_cell BK153.out 1).trans rfl; have hcz30_2 : w28.cell? ⟨gb153, 2, none⟩ = some (.int .i64 a2_2) := (blk_cell BK153.out 2).trans rfl; have hfz30_0 := blk_frozen BK153.out 0; have hfz30_1 := blk_frozen BK153.out 1; have hfz30_2 := blk_frozen BK153.out 2) | (go_at_call 21; (with_reducible refine (complineref01_Compare.calls a1_0 a1_1 a1_2 a2_0 a2_1 a2_2 t159 _ A20.out).mono ?_); rintro e w31 ⟨rfl, hb⟩; have n0_ := Aside0.mk (blk_below (g := gb151) (o := .cells #[.int .u64 a0_0, .int .u64 a0_1, .int .i64 a0_2] 33 (0, 0)) (by (with_reducible repeat (first | refine blk_drewN ?_ _ | refine blk_drew ?_ | refine blk_alloc ?_ _)); exact BK151.out) hb); have n1_ := Aside0.mk (blk_below (g := gb152) (o := .cells #[.int .u64 a1_0, .int .u64 a1_1, .int .i64 a1_2] 33 (0, 0)) (by (with_reducible repeat (first | refine blk_drewN ?_ _ | refine blk_drew ?_ | refine blk_alloc ?_ _)); exact BK152.out) hb); have n2_ := Aside0.mk (blk_below (g := gb153) (o := .cells #[.int .u64 a2_0, .int .u64 a2_1, .int .i64 a2_2] 33 (0, 0)) (by (with_reducible repeat (first | refine blk_drewN ?_ _ | refine blk_drew ?_ | refine blk_alloc ?_ _)); exact BK153.out) hb); have n3_ := Aside0.mk (below_step (by repeat (first | (with_reducible first | exact HB.out | apply below_alloc | apply pw_below_drewN | apply below_drew1 | refine below_set ?_ GE151.out | refine below_set ?_ GE152.out | refine below_set ?_ GE153.out) | exact HB.out)) hb); clear BK151; clear BK152; clear BK153; clear HB; have BK151 := n0_; have BK152 := n1_; have BK153 := n2_; have HB := n3_; clear n0_ n1_ n2_ n3_; (try clear hb); (try clear hb2); (try clear hk); (try clear hi); have hcz32_0 : w31.cell? ⟨gb151, 0, none⟩ = some (.int .u64 a0_0) := (blk_cell BK151.out 0).trans rfl; have hcz32_1 : w31.cell? ⟨gb151, 1, none⟩ = some (.int .u64 a0_1) := (blk_cell BK151.out 1).trans rfl; have hcz32_2 : w31.cell? ⟨gb151, 2, none⟩ = some (.int .i64 a0_2) := (blk_cell BK151.out 2).trans rfl; have hfz32_0 := blk_frozen BK151.out 0; have hfz32_1 := blk_frozen BK151.out 1; have hfz32_2 := blk_frozen BK151.out 2; have hcz33_0 : w31.cell? ⟨gb153, 0, none⟩ = some (.int .u64 a2_0) := (blk_cell BK153.out 0).trans rfl; have hcz33_1 : w31.cell? ⟨gb153, 1, none⟩ = some (.int .u64 a2_1) := (blk_cell BK153.out 1).trans rfl; have hcz33_2 : w31.cell? ⟨gb153, 2, none⟩ = some (.int .i64 a2_2) := (blk_cell BK153.out 2).trans rfl; have hfz33_0 := blk_frozen BK153.out 0; have hfz33_1 := blk_frozen BK153.out 1; have hfz33_2 := blk_frozen BK153.out 2) | (go_at_call 21; (with_reducible refine (complineref01_Compare.calls a0_0 a0_1 a0_2 a2_0 a2_1 a2_2 t160 _ A22.out).mono ?_); rintro e w34 ⟨rfl, hb⟩; have n0_ := Aside0.mk (blk_below (g := gb151) (o := .cells #[.int .u64 a0_0, .int .u64 a0_1, .int .i64 a0_2] 33 (0, 0)) (by (with_reducible repeat (first | refine blk_drewN ?_ _ | refine blk_drew ?_ | refine blk_alloc ?_ _)); exact BK151.out) hb); have n1_ := Aside0.mk (blk_below (g := gb152) (o := .cells #[.int .u64 a1_0, .int .u64 a1_1, .int .i64 a1_2] 33 (0, 0)) (by (with_reducible repeat (first | refine blk_drewN ?_ _ | refine blk_drew ?_ | refine blk_alloc ?_ _)); exact BK152.out) hb); have n2_ := Aside0.mk (blk_below (g := gb153) (o := .cells #[.int .u64 a2_0, .int .u64 a2_1, .int .i64 a2_2] 33 (0, 0)) (by (with_reducible repeat (first | refine blk_drewN ?_ _ | refine blk_drew ?_ | refine blk_alloc ?_ _)); exact BK153.out) hb); have n3_ := Aside0.mk (below_step (by repeat (first | (with_reducible first | exact HB.out | apply below_alloc | apply pw_below_drewN | apply below_drew1 | refine below_set ?_ GE151.out | refine below_set ?_ GE152.out | refine below_set ?_ GE153.out) | exact HB.out)) hb); clear BK151; clear BK152; clear BK153; clear HB; have BK151 := n0_; have BK152 := n1_; have BK153 := n2_; have HB := n3_; clear n0_ n1_ n2_ n3_; (try clear hb); (try clear hb2); (try clear hk); (try clear hi)))
          go_meet
          case rel => exact ⟨_, ((t157 != t160)), (by first | rfl | (simp; done) | (simp [*]; done)), H', ⟨by first | omega | exact Nat.le_refl _⟩, ⟨by (with_reducible repeat (first | refine blk_drewN ?_ _ | refine blk_drew ?_ | refine blk_alloc ?_ _)); exact BK151.out⟩, ⟨by (with_reducible repeat (first | refine blk_drewN ?_ _ | refine blk_drew ?_ | refine blk_alloc ?_ _)); exact BK152.out⟩, ⟨by (with_reducible repeat (first | refine blk_drewN ?_ _ | refine blk_drew ?_ | refine blk_alloc ?_ _)); exact BK153.out⟩, ⟨by repeat (first | (with_reducible first | exact HB.out | apply below_alloc | apply pw_below_drewN | apply below_drew1 | refine below_set ?_ GE151.out | refine below_set ?_ GE152.out | refine below_set ?_ GE153.out) | exact HB.out)⟩⟩
        · rw [if_neg c21] at H
          have c21b0 : (t156 == t159) = false := beq_eq_false_iff_ne.mpr c21
          have c21b1 : (t156 != t159) = true := bne_iff_ne.mpr c21
          have H' := Aside0.mk H
          clear H
          have hnb35 := NB151_152.out
          have hnc35 := NB152_151.out
          have hnb36 := NB151_153.out
          have hnc36 := NB153_151.out
          have hcz37_0 : w17.cell? ⟨gb151, 0, none⟩ = some (.int .u64 a0_0) := (blk_cell BK151.out 0).trans rfl
          have hcz37_1 : w17.cell? ⟨gb151, 1, none⟩ = some (.int .u64 a0_1) := (blk_cell BK151.out 1).trans rfl
          have hcz37_2 : w17.cell? ⟨gb151, 2, none⟩ = some (.int .i64 a0_2) := (blk_cell BK151.out 2).trans rfl
          have hfz37_0 := blk_frozen BK151.out 0
          have hfz37_1 := blk_frozen BK151.out 1
          have hfz37_2 := blk_frozen BK151.out 2
          have hnb38 := NB152_153.out
          have hnc38 := NB153_152.out
          have hcz39_0 : w17.cell? ⟨gb152, 0, none⟩ = some (.int .u64 a1_0) := (blk_cell BK152.out 0).trans rfl
          have hcz39_1 : w17.cell? ⟨gb152, 1, none⟩ = some (.int .u64 a1_1) := (blk_cell BK152.out 1).trans rfl
          have hcz39_2 : w17.cell? ⟨gb152, 2, none⟩ = some (.int .i64 a1_2) := (blk_cell BK152.out 2).trans rfl
          have hfz39_0 := blk_frozen BK152.out 0
          have hfz39_1 := blk_frozen BK152.out 1
          have hfz39_2 := blk_frozen BK152.out 2
          go_wp2_with (first | ((with_reducible refine gate_callee (f := 21) rfl ?_); refine goesL_ (some 26) rfl rfl Try.func21 (by kernel_rfl) rfl #[.agg #[.int .u64 a0_0, .int .u64 a0_1, .int .i64 a0_2], .agg #[.int .u64 a1_0, .int .u64 a1_1, .int .i64 a1_2]] rfl (by (try simp only [List.map_toArray, List.map_cons, List.map_nil]); first | done | rfl | (simp only [List.length_drop, List.length_take]; rfl)) ?_; (with_reducible refine (complineref01_Compare.calls a0_0 a0_1 a0_2 a1_0 a1_1 a1_2 t158 _ A18.out).mono ?_); rintro e w40 ⟨rfl, hb⟩; refine ⟨_, rfl, ?_⟩; have n0_ := Aside0.mk (blk_below (g := gb151) (o := .cells #[.int .u64 a0_0, .int .u64 a0_1, .int .i64 a0_2] 33 (0, 0)) (by (with_reducible repeat (first | refine blk_drewN ?_ _ | refine blk_drew ?_ | refine blk_alloc ?_ _)); exact BK151.out) hb); have n1_ := Aside0.mk (blk_below (g := gb152) (o := .cells #[.int .u64 a1_0, .int .u64 a1_1, .int .i64 a1_2] 33 (0, 0)) (by (with_reducible repeat (first | refine blk_drewN ?_ _ | refine blk_drew ?_ | refine blk_alloc ?_ _)); exact BK152.out) hb); have n2_ := Aside0.mk (blk_below (g := gb153) (o := .cells #[.int .u64 a2_0, .int .u64 a2_1, .int .i64 a2_2] 33 (0, 0)) (by (with_reducible repeat (first | refine blk_drewN ?_ _ | refine blk_drew ?_ | refine blk_alloc ?_ _)); exact BK153.out) hb); have n3_ := Aside0.mk (below_step (by repeat (first | (with_reducible first | exact HB.out | apply below_alloc | apply pw_below_drewN | apply below_drew1 | refine below_set ?_ GE151.out | refine below_set ?_ GE152.out | refine below_set ?_ GE153.out) | exact HB.out)) hb); clear BK151; clear BK152; clear BK153; clear HB; have BK151 := n0_; have BK152 := n1_; have BK153 := n2_; have HB := n3_; clear n0_ n1_ n2_ n3_; (try clear hb); (try clear hb2); (try clear hk); (try clear hi); have hcz41_0 : w40.cell? ⟨gb152, 0, none⟩ = some (.int .u64 a1_0) := (blk_cell BK152.out 0).trans rfl; have hcz41_1 : w40.cell? ⟨gb152, 1, none⟩ = some (.int .u64 a1_1) := (blk_cell BK152.out 1).trans rfl; have hcz41_2 : w40.cell? ⟨gb152, 2, none⟩ = some (.int .i64 a1_2) := (blk_cell BK152.out 2).trans rfl; have hfz41_0 := blk_frozen BK152.out 0; have hfz41_1 := blk_frozen BK152.out 1; have hfz41_2 := blk_frozen BK152.out 2; have hcz42_0 : w40.cell? ⟨gb153, 0, none⟩ = some (.int .u64 a2_0) := (blk_cell BK153.out 0).trans rfl; have hcz42_1 : w40.cell? ⟨gb153, 1, none⟩ = some (.int .u64 a2_1) := (blk_cell BK153.out 1).trans rfl; have hcz42_2 : w40.cell? ⟨gb153, 2, none⟩ = some (.int .i64 a2_2) := (blk_cell BK153.out 2).trans rfl; have hfz42_0 := blk_frozen BK153.out 0; have hfz42_1 := blk_frozen BK153.out 1; have hfz42_2 := blk_frozen BK153.out 2) | (go_at_call 21; (with_reducible refine (complineref01_Compare.calls a1_0 a1_1 a1_2 a2_0 a2_1 a2_2 t159 _ A20.out).mono ?_); rintro e w43 ⟨rfl, hb⟩; have n0_ := Aside0.mk (blk_below (g := gb151) (o := .cells #[.int .u64 a0_0, .int .u64 a0_1, .int .i64 a0_2] 33 (0, 0)) (by (with_reducible repeat (first | refine blk_drewN ?_ _ | refine blk_drew ?_ | refine blk_alloc ?_ _)); exact BK151.out) hb); have n1_ := Aside0.mk (blk_below (g := gb152) (o := .cells #[.int .u64 a1_0, .int .u64 a1_1, .int .i64 a1_2] 33 (0, 0)) (by (with_reducible repeat (first | refine blk_drewN ?_ _ | refine blk_drew ?_ | refine blk_alloc ?_ _)); exact BK152.out) hb); have n2_ := Aside0.mk (blk_below (g := gb153) (o := .cells #[.int .u64 a2_0, .int .u64 a2_1, .int .i64 a2_2] 33 (0, 0)) (by (with_reducible repeat (first | refine blk_drewN ?_ _ | refine blk_drew ?_ | refine blk_alloc ?_ _)); exact BK153.out) hb); have n3_ := Aside0.mk (below_step (by repeat (first | (with_reducible first | exact HB.out | apply below_alloc | apply pw_below_drewN | apply below_drew1 | refine below_set ?_ GE151.out | refine below_set ?_ GE152.out | refine below_set ?_ GE153.out) | exact HB.out)) hb); clear BK151; clear BK152; clear BK153; clear HB; have BK151 := n0_; have BK152 := n1_; have BK153 := n2_; have HB := n3_; clear n0_ n1_ n2_ n3_; (try clear hb); (try clear hb2); (try clear hk); (try clear hi)))
          go_meet
          case rel => exact ⟨_, (true), (by first | rfl | (simp; done) | (simp [*]; done)), H', ⟨by first | omega | exact Nat.le_refl _⟩, ⟨by (with_reducible repeat (first | refine blk_drewN ?_ _ | refine blk_drew ?_ | refine blk_alloc ?_ _)); exact BK151.out⟩, ⟨by (with_reducible repeat (first | refine blk_drewN ?_ _ | refine blk_drew ?_ | refine blk_alloc ?_ _)); exact BK152.out⟩, ⟨by (with_reducible repeat (first | refine blk_drewN ?_ _ | refine blk_drew ?_ | refine blk_alloc ?_ _)); exact BK153.out⟩, ⟨by repeat (first | (with_reducible first | exact HB.out | apply below_alloc | apply pw_below_drewN | apply below_drew1 | refine below_set ?_ GE151.out | refine below_set ?_ GE152.out | refine below_set ?_ GE153.out) | exact HB.out)⟩⟩
      · rw [if_neg c19] at H
        have c19b0 : (t155 == t158) = false := beq_eq_false_iff_ne.mpr c19
        have c19b1 : (t155 != t158) = true := bne_iff_ne.mpr c19
        (first | rw [c19b0] | (simp only [i64_w, i32_w]; rw [c19b0]) | skip)
        have H' := Aside0.mk H
        clear H
        have hnb44 := NB151_152.out
        have hnc44 := NB152_151.out
        have hnb45 := NB151_153.out
        have hnc45 := NB153_151.out
        have hcz46_0 : w17.cell? ⟨gb151, 0, none⟩ = some (.int .u64 a0_0) := (blk_cell BK151.out 0).trans rfl
        have hcz46_1 : w17.cell? ⟨gb151, 1, none⟩ = some (.int .u64 a0_1) := (blk_cell BK151.out 1).trans rfl
        have hcz46_2 : w17.cell? ⟨gb151, 2, none⟩ = some (.int .i64 a0_2) := (blk_cell BK151.out 2).trans rfl
        have hfz46_0 := blk_frozen BK151.out 0
        have hfz46_1 := blk_frozen BK151.out 1
        have hfz46_2 := blk_frozen BK151.out 2
        have hnb47 := NB152_153.out
        have hnc47 := NB153_152.out
        have hcz48_0 : w17.cell? ⟨gb152, 0, none⟩ = some (.int .u64 a1_0) := (blk_cell BK152.out 0).trans rfl
        have hcz48_1 : w17.cell? ⟨gb152, 1, none⟩ = some (.int .u64 a1_1) := (blk_cell BK152.out 1).trans rfl
        have hcz48_2 : w17.cell? ⟨gb152, 2, none⟩ = some (.int .i64 a1_2) := (blk_cell BK152.out 2).trans rfl
        have hfz48_0 := blk_frozen BK152.out 0
        have hfz48_1 := blk_frozen BK152.out 1
        have hfz48_2 := blk_frozen BK152.out 2
        go_wp2_with (first | ((with_reducible refine gate_callee (f := 21) rfl ?_); refine goesL_ (some 26) rfl rfl Try.func21 (by kernel_rfl) rfl #[.agg #[.int .u64 a0_0, .int .u64 a0_1, .int .i64 a0_2], .agg #[.int .u64 a1_0, .int .u64 a1_1, .int .i64 a1_2]] rfl (by (try simp only [List.map_toArray, List.map_cons, List.map_nil]); first | done | rfl | (simp only [List.length_drop, List.length_take]; rfl)) ?_; (with_reducible refine (complineref01_Compare.calls a0_0 a0_1 a0_2 a1_0 a1_1 a1_2 t158 _ A18.out).mono ?_); rintro e w49 ⟨rfl, hb⟩; refine ⟨_, rfl, ?_⟩; have n0_ := Aside0.mk (blk_below (g := gb151) (o := .cells #[.int .u64 a0_0, .int .u64 a0_1, .int .i64 a0_2] 33 (0, 0)) (by (with_reducible repeat (first | refine blk_drewN ?_ _ | refine blk_drew ?_ | refine blk_alloc ?_ _)); exact BK151.out) hb); have n1_ := Aside0.mk (blk_below (g := gb152) (o := .cells #[.int .u64 a1_0, .int .u64 a1_1, .int .i64 a1_2] 33 (0, 0)) (by (with_reducible repeat (first | refine blk_drewN ?_ _ | refine blk_drew ?_ | refine blk_alloc ?_ _)); exact BK152.out) hb); have n2_ := Aside0.mk (blk_below (g := gb153) (o := .cells #[.int .u64 a2_0, .int .u64 a2_1, .int .i64 a2_2] 33 (0, 0)) (by (with_reducible repeat (first | refine blk_drewN ?_ _ | refine blk_drew ?_ | refine blk_alloc ?_ _)); exact BK153.out) hb); have n3_ := Aside0.mk (below_step (by repeat (first | (with_reducible first | exact HB.out | apply below_alloc | apply pw_below_drewN | apply below_drew1 | refine below_set ?_ GE151.out | refine below_set ?_ GE152.out | refine below_set ?_ GE153.out) | exact HB.out)) hb); clear BK151; clear BK152; clear BK153; clear HB; have BK151 := n0_; have BK152 := n1_; have BK153 := n2_; have HB := n3_; clear n0_ n1_ n2_ n3_; (try clear hb); (try clear hb2); (try clear hk); (try clear hi)))
        go_meet
        case rel => exact ⟨_, (true), (by first | rfl | (simp; done) | (simp [*]; done)), H', ⟨by first | omega | exact Nat.le_refl _⟩, ⟨by (with_reducible repeat (first | refine blk_drewN ?_ _ | refine blk_drew ?_ | refine blk_alloc ?_ _)); exact BK151.out⟩, ⟨by (with_reducible repeat (first | refine blk_drewN ?_ _ | refine blk_drew ?_ | refine blk_alloc ?_ _)); exact BK152.out⟩, ⟨by (with_reducible repeat (first | refine blk_drewN ?_ _ | refine blk_drew ?_ | refine blk_alloc ?_ _)); exact BK153.out⟩, ⟨by repeat (first | (with_reducible first | exact HB.out | apply below_alloc | apply pw_below_drewN | apply below_drew1 | refine below_set ?_ GE151.out | refine below_set ?_ GE152.out | refine below_set ?_ GE153.out) | exact HB.out)⟩⟩
    case rest =>
      clear HC9
      try clear c1
      try clear c2
      try clear p2
      try clear c3
      try clear c4
      try clear c5
      try clear c7
      try clear c11
      try clear c19
      try clear c19b0
      try clear c19b1
      try clear c20
      try clear c21
      try clear c21b0
      try clear c21b1
      try clear c23
      try clear c24
      try clear c26
      try clear c35
      try clear c36
      try clear c38
      try clear c44
      try clear c45
      try clear c47
      try clear hcz25_0
      try clear hcz25_1
      try clear hcz25_2
      try clear hcz27_0
      try clear hcz27_1
      try clear hcz27_2
      try clear hcz29_0
      try clear hcz29_1
      try clear hcz29_2
      try clear hcz30_0
      try clear hcz30_1
      try clear hcz30_2
      try clear hcz32_0
      try clear hcz32_1
      try clear hcz32_2
      try clear hcz33_0
      try clear hcz33_1
      try clear hcz33_2
      try clear hcz37_0
      try clear hcz37_1
      try clear hcz37_2
      try clear hcz39_0
      try clear hcz39_1
      try clear hcz39_2
      try clear hcz41_0
      try clear hcz41_1
      try clear hcz41_2
      try clear hcz42_0
      try clear hcz42_1
      try clear hcz42_2
      try clear hcz46_0
      try clear hcz46_1
      try clear hcz46_2
      try clear hcz48_0
      try clear hcz48_1
      try clear hcz48_2
      try clear hfz25_0
      try clear hfz25_1
      try clear hfz25_2
      try clear hfz27_0
      try clear hfz27_1
      try clear hfz27_2
      try clear hfz29_0
      try clear hfz29_1
      try clear hfz29_2
      try clear hfz30_0
      try clear hfz30_1
      try clear hfz30_2
      try clear hfz32_0
      try clear hfz32_1
      try clear hfz32_2
      try clear hfz33_0
      try clear hfz33_1
      try clear hfz33_2
      try clear hfz37_0
      try clear hfz37_1
      try clear hfz37_2
      try clear hfz39_0
      try clear hfz39_1
      try clear hfz39_2
      try clear hfz41_0
      try clear hfz41_1
      try clear hfz41_2
      try clear hfz42_0
      try clear hfz42_1
      try clear hfz42_2
      try clear hfz46_0
      try clear hfz46_1
      try clear hfz46_2
      try clear hfz48_0
      try clear hfz48_1
      try clear hfz48_2
      obtain ⟨kq, x41_8, rfl, HA, HJ8, BK151, BK152, BK153, HB⟩ := hcut
      cases kq with
      | zero => exact absurd HA.out (by simp [complinelaw01_TickOrder.j0])
      | succ kj8 =>
        have H := HA.out
        clear HA
        simp only [complinelaw01_TickOrder.j0] at H
        by_cases c50 : x41_8 = true
        · subst c50
          have H1 : (some false) = some r := by rw [if_pos rfl] at H; exact H
          clear H
          have H := H1
          clear H1
          obtain rfl := Option.some.inj H
          go_wp2
          go_ret
          exact ⟨by first | rfl | (simp [errW_none, errW_some] <;> rfl) | (simp [*, errW_none, errW_some] <;> rfl), by repeat (first | (with_reducible first | exact HB.out | apply below_alloc | apply pw_below_drewN | apply below_drew1 | refine below_set ?_ GE151.out | refine below_set ?_ GE152.out | refine below_set ?_ GE153.out) | exact HB.out)⟩
        · replace c50 := Bool.eq_false_iff.mpr c50
          subst c50
          have H1 : (if ((t155 == 0) != (a0_0 == a1_0 && (a0_1 == a1_1 && (a0_2 == a1_2)))) = true then (some false) else ((tick_Compare.f kj8 a1_0 a1_1 a1_2 a0_0 a0_1 a0_2).bind fun t161 => (if t161 = (wrap64 (-t155)) then (if true = true then (if t155 = (-1) then (if t156 = 1 then (if t155 = 1 then (if t156 = (-1) then (if t155 = 0 then (some (t156 == t157)) else (some true)) else (if t157 = 1 then (if t155 = 0 then (some (t156 == t157)) else (some true)) else (some false))) else (if t155 = 0 then (some (t156 == t157)) else (some true))) else (if t157 = (-1) then (if t155 = 1 then (if t156 = (-1) then (if t155 = 0 then (some (t156 == t157)) else (some true)) else (if t157 = 1 then (if t155 = 0 then (some (t156 == t157)) else (some true)) else (some false))) else (if t155 = 0 then (some (t156 == t157)) else (some true))) else (some false))) else (if t155 = 1 then (if t156 = (-1) then (if t155 = 0 then (some (t156 == t157)) else (some true)) else (if t157 = 1 then (if t155 = 0 then (some (t156 == t157)) else (some true)) else (some false))) else (if t155 = 0 then (some (t156 == t157)) else (some true)))) else (some false)) else (some false)))) = some r := by rw [if_neg (show ¬ (false = true) by decide)] at H; exact H
          clear H
          have H := H1
          clear H1
          by_cases c51 : ((t155 == 0) != (a0_0 == a1_0 && (a0_1 == a1_1 && (a0_2 == a1_2)))) = true
          · rw [if_pos c51] at H
            have c51b0 : ((t155 == 0) != (a0_0 == a1_0 && (a0_1 == a1_1 && (a0_2 == a1_2)))) = true := c51
            (try (have c51b1 : decide ((t155 == 0) = (a0_0 == a1_0 && (a0_1 == a1_1 && (a0_2 == a1_2)))) = false := by simpa using c51))
            (try (have c51b2 : ((t155 == 0) == (a0_0 == a1_0 && (a0_1 == a1_1 && (a0_2 == a1_2)))) = false := by simpa using c51))
            (try (have c51b3 : ¬ ((t155 == 0) = (a0_0 == a1_0 && (a0_1 == a1_1 && (a0_2 == a1_2)))) := by simpa using c51))
            clear c51
            obtain rfl := Option.some.inj H
            have hnb52 := NB151_152.out
            have hnc52 := NB152_151.out
            have hnb53 := NB151_153.out
            have hnc53 := NB153_151.out
            have hcz54_0 : wc.cell? ⟨gb151, 0, none⟩ = some (.int .u64 a0_0) := (blk_cell BK151.out 0).trans rfl
            have hcz54_1 : wc.cell? ⟨gb151, 1, none⟩ = some (.int .u64 a0_1) := (blk_cell BK151.out 1).trans rfl
            have hcz54_2 : wc.cell? ⟨gb151, 2, none⟩ = some (.int .i64 a0_2) := (blk_cell BK151.out 2).trans rfl
            have hfz54_0 := blk_frozen BK151.out 0
            have hfz54_1 := blk_frozen BK151.out 1
            have hfz54_2 := blk_frozen BK151.out 2
            have hnb55 := NB152_153.out
            have hnc55 := NB153_152.out
            have hcz56_0 : wc.cell? ⟨gb152, 0, none⟩ = some (.int .u64 a1_0) := (blk_cell BK152.out 0).trans rfl
            have hcz56_1 : wc.cell? ⟨gb152, 1, none⟩ = some (.int .u64 a1_1) := (blk_cell BK152.out 1).trans rfl
            have hcz56_2 : wc.cell? ⟨gb152, 2, none⟩ = some (.int .i64 a1_2) := (blk_cell BK152.out 2).trans rfl
            have hfz56_0 := blk_frozen BK152.out 0
            have hfz56_1 := blk_frozen BK152.out 1
            have hfz56_2 := blk_frozen BK152.out 2
            go_wp2
            go_ret
            exact ⟨by first | rfl | (simp [errW_none, errW_some] <;> rfl) | (simp [*, errW_none, errW_some] <;> rfl), by repeat (first | (with_reducible first | exact HB.out | apply below_alloc | apply pw_below_drewN | apply below_drew1 | refine below_set ?_ GE151.out | refine below_set ?_ GE152.out | refine below_set ?_ GE153.out) | exact HB.out)⟩
          · rw [if_neg c51] at H
            have c51b0 : ((t155 == 0) != (a0_0 == a1_0 && (a0_1 == a1_1 && (a0_2 == a1_2)))) = false := by simpa using c51
            (try (have c51b1 : decide ((t155 == 0) = (a0_0 == a1_0 && (a0_1 == a1_1 && (a0_2 == a1_2)))) = true := by simpa using c51))
            (try (have c51b2 : ((t155 == 0) == (a0_0 == a1_0 && (a0_1 == a1_1 && (a0_2 == a1_2)))) = true := by simpa using c51))
            clear c51
            replace H := Option.bind_eq_some_iff.mp H
            obtain ⟨t161, A570, H⟩ := H
            replace H : (if t161 = (wrap64 (-t155)) then (if true = true then (if t155 = (-1) then (if t156 = 1 then (if t155 = 1 then (if t156 = (-1) then (if t155 = 0 then (some (t156 == t157)) else (some true)) else (if t157 = 1 then (if t155 = 0 then (some (t156 == t157)) else (some true)) else (some false))) else (if t155 = 0 then (some (t156 == t157)) else (some true))) else (if t157 = (-1) then (if t155 = 1 then (if t156 = (-1) then (if t155 = 0 then (some (t156 == t157)) else (some true)) else (if t157 = 1 then (if t155 = 0 then (some (t156 == t157)) else (some true)) else (some false))) else (if t155 = 0 then (some (t156 == t157)) else (some true))) else (some false))) else (if t155 = 1 then (if t156 = (-1) then (if t155 = 0 then (some (t156 == t157)) else (some true)) else (if t157 = 1 then (if t155 = 0 then (some (t156 == t157)) else (some true)) else (some false))) else (if t155 = 0 then (some (t156 == t157)) else (some true)))) else (some false)) else (some false)) = some r := H
            have A57 := Aside0.mk A570
            clear A570
            by_cases c58 : t161 = (wrap64 (-t155))
            · rw [if_pos c58] at H
              have c58b0 : (t161 == (wrap64 (-t155))) = true := beq_iff_eq.mpr c58
              have c58b1 : (t161 != (wrap64 (-t155))) = false := bne_eq_false_iff_eq.mpr c58
              clear c58
              have c59 : true = true := rfl
              · clear c59
                have H1 : (if t155 = (-1) then (if t156 = 1 then (if t155 = 1 then (if t156 = (-1) then (if t155 = 0 then (some (t156 == t157)) else (some true)) else (if t157 = 1 then (if t155 = 0 then (some (t156 == t157)) else (some true)) else (some false))) else (if t155 = 0 then (some (t156 == t157)) else (some true))) else (if t157 = (-1) then (if t155 = 1 then (if t156 = (-1) then (if t155 = 0 then (some (t156 == t157)) else (some true)) else (if t157 = 1 then (if t155 = 0 then (some (t156 == t157)) else (some true)) else (some false))) else (if t155 = 0 then (some (t156 == t157)) else (some true))) else (some false))) else (if t155 = 1 then (if t156 = (-1) then (if t155 = 0 then (some (t156 == t157)) else (some true)) else (if t157 = 1 then (if t155 = 0 then (some (t156 == t157)) else (some true)) else (some false))) else (if t155 = 0 then (some (t156 == t157)) else (some true)))) = some r := by (first | rw [if_pos rfl] at H | rw [if_pos trivial] at H); exact H
                clear H
                have H := H1
                clear H1
                by_cases c60 : t155 = (-1)
                · rw [if_pos c60] at H
                  have c60b0 : (t155 == (-1)) = true := beq_iff_eq.mpr c60
                  have c60b1 : (t155 != (-1)) = false := bne_eq_false_iff_eq.mpr c60
                  clear c60
                  by_cases c61 : t156 = 1
                  · rw [if_pos c61] at H
                    have c61b0 : (t156 == 1) = true := beq_iff_eq.mpr c61
                    have c61b1 : (t156 != 1) = false := bne_eq_false_iff_eq.mpr c61
                    clear c61
                    by_cases c62 : t155 = 1
                    · exact absurd ((beq_iff_eq.mp c60b0).symm.trans c62) (by decide)
                    · rw [if_neg c62] at H
                      have c62b0 : (t155 == 1) = false := beq_eq_false_iff_ne.mpr c62
                      have c62b1 : (t155 != 1) = true := bne_iff_ne.mpr c62
                      by_cases c97 : t155 = 0
                      · exact absurd ((beq_iff_eq.mp c60b0).symm.trans c97) (by decide)
                      · rw [if_neg c97] at H
                        have c97b0 : (t155 == 0) = false := beq_eq_false_iff_ne.mpr c97
                        have c97b1 : (t155 != 0) = true := bne_iff_ne.mpr c97
                        have key : (a0_0 == a1_0 && (a0_1 == a1_1 && a0_2 == a1_2)) = false := by rw [c97b0] at c51b0; simpa using c51b0
                        clear c51b0
                        cases e0 : (a0_0 == a1_0) with
                        | false =>
                          clear key
                          obtain rfl := Option.some.inj H
                          have hnb104 := NB151_152.out
                          have hnc104 := NB152_151.out
                          have hnb105 := NB151_153.out
                          have hnc105 := NB153_151.out
                          have hcz106_0 : wc.cell? ⟨gb151, 0, none⟩ = some (.int .u64 a0_0) := (blk_cell BK151.out 0).trans rfl
                          have hcz106_1 : wc.cell? ⟨gb151, 1, none⟩ = some (.int .u64 a0_1) := (blk_cell BK151.out 1).trans rfl
                          have hcz106_2 : wc.cell? ⟨gb151, 2, none⟩ = some (.int .i64 a0_2) := (blk_cell BK151.out 2).trans rfl
                          have hfz106_0 := blk_frozen BK151.out 0
                          have hfz106_1 := blk_frozen BK151.out 1
                          have hfz106_2 := blk_frozen BK151.out 2
                          have hnb107 := NB152_153.out
                          have hnc107 := NB153_152.out
                          have hcz108_0 : wc.cell? ⟨gb152, 0, none⟩ = some (.int .u64 a1_0) := (blk_cell BK152.out 0).trans rfl
                          have hcz108_1 : wc.cell? ⟨gb152, 1, none⟩ = some (.int .u64 a1_1) := (blk_cell BK152.out 1).trans rfl
                          have hcz108_2 : wc.cell? ⟨gb152, 2, none⟩ = some (.int .i64 a1_2) := (blk_cell BK152.out 2).trans rfl
                          have hfz108_0 := blk_frozen BK152.out 0
                          have hfz108_1 := blk_frozen BK152.out 1
                          have hfz108_2 := blk_frozen BK152.out 2
                          go_wp2_with (first | (go_at_call 20; (with_reducible refine (tick_Compare.calls kj8 a1_0 a1_1 a1_2 a0_0 a0_1 a0_2 t161 _ A57.out).mono ?_); rintro e w109 ⟨rfl, hb⟩; have n0_ := Aside0.mk (blk_below (g := gb151) (o := .cells #[.int .u64 a0_0, .int .u64 a0_1, .int .i64 a0_2] 33 (0, 0)) (by (with_reducible repeat (first | refine blk_drewN ?_ _ | refine blk_drew ?_ | refine blk_alloc ?_ _)); exact BK151.out) hb); have n1_ := Aside0.mk (blk_below (g := gb152) (o := .cells #[.int .u64 a1_0, .int .u64 a1_1, .int .i64 a1_2] 33 (0, 0)) (by (with_reducible repeat (first | refine blk_drewN ?_ _ | refine blk_drew ?_ | refine blk_alloc ?_ _)); exact BK152.out) hb); have n2_ := Aside0.mk (blk_below (g := gb153) (o := .cells #[.int .u64 a2_0, .int .u64 a2_1, .int .i64 a2_2] 33 (0, 0)) (by (with_reducible repeat (first | refine blk_drewN ?_ _ | refine blk_drew ?_ | refine blk_alloc ?_ _)); exact BK153.out) hb); have n3_ := Aside0.mk (below_step (by repeat (first | (with_reducible first | exact HB.out | apply below_alloc | apply pw_below_drewN | apply below_drew1 | refine below_set ?_ GE151.out | refine below_set ?_ GE152.out | refine below_set ?_ GE153.out) | exact HB.out)) hb); clear BK151; clear BK152; clear BK153; clear HB; have BK151 := n0_; have BK152 := n1_; have BK153 := n2_; have HB := n3_; clear n0_ n1_ n2_ n3_; (try clear hb); (try clear hb2); (try clear hk); (try clear hi)))
                          go_ret
                          exact ⟨by first | rfl | (simp [errW_none, errW_some] <;> rfl) | (simp [*, errW_none, errW_some] <;> rfl), by repeat (first | (with_reducible first | exact HB.out | apply below_alloc | apply pw_below_drewN | apply below_drew1 | refine below_set ?_ GE151.out | refine below_set ?_ GE152.out | refine below_set ?_ GE153.out) | exact HB.out)⟩
                        | true =>
                          cases e1 : (a0_1 == a1_1) with
                          | false =>
                            clear key
                            obtain rfl := Option.some.inj H
                            have hnb104 := NB151_152.out
                            have hnc104 := NB152_151.out
                            have hnb105 := NB151_153.out
                            have hnc105 := NB153_151.out
                            have hcz106_0 : wc.cell? ⟨gb151, 0, none⟩ = some (.int .u64 a0_0) := (blk_cell BK151.out 0).trans rfl
                            have hcz106_1 : wc.cell? ⟨gb151, 1, none⟩ = some (.int .u64 a0_1) := (blk_cell BK151.out 1).trans rfl
                            have hcz106_2 : wc.cell? ⟨gb151, 2, none⟩ = some (.int .i64 a0_2) := (blk_cell BK151.out 2).trans rfl
                            have hfz106_0 := blk_frozen BK151.out 0
                            have hfz106_1 := blk_frozen BK151.out 1
                            have hfz106_2 := blk_frozen BK151.out 2
                            have hnb107 := NB152_153.out
                            have hnc107 := NB153_152.out
                            have hcz108_0 : wc.cell? ⟨gb152, 0, none⟩ = some (.int .u64 a1_0) := (blk_cell BK152.out 0).trans rfl
                            have hcz108_1 : wc.cell? ⟨gb152, 1, none⟩ = some (.int .u64 a1_1) := (blk_cell BK152.out 1).trans rfl
                            have hcz108_2 : wc.cell? ⟨gb152, 2, none⟩ = some (.int .i64 a1_2) := (blk_cell BK152.out 2).trans rfl
                            have hfz108_0 := blk_frozen BK152.out 0
                            have hfz108_1 := blk_frozen BK152.out 1
                            have hfz108_2 := blk_frozen BK152.out 2
                            go_wp2_with (first | (go_at_call 20; (with_reducible refine (tick_Compare.calls kj8 a1_0 a1_1 a1_2 a0_0 a0_1 a0_2 t161 _ A57.out).mono ?_); rintro e w109 ⟨rfl, hb⟩; have n0_ := Aside0.mk (blk_below (g := gb151) (o := .cells #[.int .u64 a0_0, .int .u64 a0_1, .int .i64 a0_2] 33 (0, 0)) (by (with_reducible repeat (first | refine blk_drewN ?_ _ | refine blk_drew ?_ | refine blk_alloc ?_ _)); exact BK151.out) hb); have n1_ := Aside0.mk (blk_below (g := gb152) (o := .cells #[.int .u64 a1_0, .int .u64 a1_1, .int .i64 a1_2] 33 (0, 0)) (by (with_reducible repeat (first | refine blk_drewN ?_ _ | refine blk_drew ?_ | refine blk_alloc ?_ _)); exact BK152.out) hb); have n2_ := Aside0.mk (blk_below (g := gb153) (o := .cells #[.int .u64 a2_0, .int .u64 a2_1, .int .i64 a2_2] 33 (0, 0)) (by (with_reducible repeat (first | refine blk_drewN ?_ _ | refine blk_drew ?_ | refine blk_alloc ?_ _)); exact BK153.out) hb); have n3_ := Aside0.mk (below_step (by repeat (first | (with_reducible first | exact HB.out | apply below_alloc | apply pw_below_drewN | apply below_drew1 | refine below_set ?_ GE151.out | refine below_set ?_ GE152.out | refine below_set ?_ GE153.out) | exact HB.out)) hb); clear BK151; clear BK152; clear BK153; clear HB; have BK151 := n0_; have BK152 := n1_; have BK153 := n2_; have HB := n3_; clear n0_ n1_ n2_ n3_; (try clear hb); (try clear hb2); (try clear hk); (try clear hi)))
                            go_ret
                            exact ⟨by first | rfl | (simp [errW_none, errW_some] <;> rfl) | (simp [*, errW_none, errW_some] <;> rfl), by repeat (first | (with_reducible first | exact HB.out | apply below_alloc | apply pw_below_drewN | apply below_drew1 | refine below_set ?_ GE151.out | refine below_set ?_ GE152.out | refine below_set ?_ GE153.out) | exact HB.out)⟩
                          | true =>
                            cases e2 : (a0_2 == a1_2) with
                            | false =>
                              clear key
                              obtain rfl := Option.some.inj H
                              have hnb104 := NB151_152.out
                              have hnc104 := NB152_151.out
                              have hnb105 := NB151_153.out
                              have hnc105 := NB153_151.out
                              have hcz106_0 : wc.cell? ⟨gb151, 0, none⟩ = some (.int .u64 a0_0) := (blk_cell BK151.out 0).trans rfl
                              have hcz106_1 : wc.cell? ⟨gb151, 1, none⟩ = some (.int .u64 a0_1) := (blk_cell BK151.out 1).trans rfl
                              have hcz106_2 : wc.cell? ⟨gb151, 2, none⟩ = some (.int .i64 a0_2) := (blk_cell BK151.out 2).trans rfl
                              have hfz106_0 := blk_frozen BK151.out 0
                              have hfz106_1 := blk_frozen BK151.out 1
                              have hfz106_2 := blk_frozen BK151.out 2
                              have hnb107 := NB152_153.out
                              have hnc107 := NB153_152.out
                              have hcz108_0 : wc.cell? ⟨gb152, 0, none⟩ = some (.int .u64 a1_0) := (blk_cell BK152.out 0).trans rfl
                              have hcz108_1 : wc.cell? ⟨gb152, 1, none⟩ = some (.int .u64 a1_1) := (blk_cell BK152.out 1).trans rfl
                              have hcz108_2 : wc.cell? ⟨gb152, 2, none⟩ = some (.int .i64 a1_2) := (blk_cell BK152.out 2).trans rfl
                              have hfz108_0 := blk_frozen BK152.out 0
                              have hfz108_1 := blk_frozen BK152.out 1
                              have hfz108_2 := blk_frozen BK152.out 2
                              go_wp2_with (first | (go_at_call 20; (with_reducible refine (tick_Compare.calls kj8 a1_0 a1_1 a1_2 a0_0 a0_1 a0_2 t161 _ A57.out).mono ?_); rintro e w109 ⟨rfl, hb⟩; have n0_ := Aside0.mk (blk_below (g := gb151) (o := .cells #[.int .u64 a0_0, .int .u64 a0_1, .int .i64 a0_2] 33 (0, 0)) (by (with_reducible repeat (first | refine blk_drewN ?_ _ | refine blk_drew ?_ | refine blk_alloc ?_ _)); exact BK151.out) hb); have n1_ := Aside0.mk (blk_below (g := gb152) (o := .cells #[.int .u64 a1_0, .int .u64 a1_1, .int .i64 a1_2] 33 (0, 0)) (by (with_reducible repeat (first | refine blk_drewN ?_ _ | refine blk_drew ?_ | refine blk_alloc ?_ _)); exact BK152.out) hb); have n2_ := Aside0.mk (blk_below (g := gb153) (o := .cells #[.int .u64 a2_0, .int .u64 a2_1, .int .i64 a2_2] 33 (0, 0)) (by (with_reducible repeat (first | refine blk_drewN ?_ _ | refine blk_drew ?_ | refine blk_alloc ?_ _)); exact BK153.out) hb); have n3_ := Aside0.mk (below_step (by repeat (first | (with_reducible first | exact HB.out | apply below_alloc | apply pw_below_drewN | apply below_drew1 | refine below_set ?_ GE151.out | refine below_set ?_ GE152.out | refine below_set ?_ GE153.out) | exact HB.out)) hb); clear BK151; clear BK152; clear BK153; clear HB; have BK151 := n0_; have BK152 := n1_; have BK153 := n2_; have HB := n3_; clear n0_ n1_ n2_ n3_; (try clear hb); (try clear hb2); (try clear hk); (try clear hi)))
                              go_ret
                              exact ⟨by first | rfl | (simp [errW_none, errW_some] <;> rfl) | (simp [*, errW_none, errW_some] <;> rfl), by repeat (first | (with_reducible first | exact HB.out | apply below_alloc | apply pw_below_drewN | apply below_drew1 | refine below_set ?_ GE151.out | refine below_set ?_ GE152.out | refine below_set ?_ GE153.out) | exact HB.out)⟩
                            | true => rw [e0, e1, e2] at key; cases key
                  · rw [if_neg c61] at H
                    have c61b0 : (t156 == 1) = false := beq_eq_false_iff_ne.mpr c61
                    have c61b1 : (t156 != 1) = true := bne_iff_ne.mpr c61
                    by_cases c110 : t157 = (-1)
                    · rw [if_pos c110] at H
                      have c110b0 : (t157 == (-1)) = true := beq_iff_eq.mpr c110
                      have c110b1 : (t157 != (-1)) = false := bne_eq_false_iff_eq.mpr c110
                      clear c110
                      by_cases c111 : t155 = 1
                      · exact absurd ((beq_iff_eq.mp c60b0).symm.trans c111) (by decide)
                      · rw [if_neg c111] at H
                        have c111b0 : (t155 == 1) = false := beq_eq_false_iff_ne.mpr c111
                        have c111b1 : (t155 != 1) = true := bne_iff_ne.mpr c111
                        by_cases c146 : t155 = 0
                        · exact absurd ((beq_iff_eq.mp c60b0).symm.trans c146) (by decide)
                        · rw [if_neg c146] at H
                          have c146b0 : (t155 == 0) = false := beq_eq_false_iff_ne.mpr c146
                          have c146b1 : (t155 != 0) = true := bne_iff_ne.mpr c146
                          have key : (a0_0 == a1_0 && (a0_1 == a1_1 && a0_2 == a1_2)) = false := by rw [c146b0] at c51b0; simpa using c51b0
                          clear c51b0
                          cases e0 : (a0_0 == a1_0) with
                          | false =>
                            clear key
                            obtain rfl := Option.some.inj H
                            have hnb153 := NB151_152.out
                            have hnc153 := NB152_151.out
                            have hnb154 := NB151_153.out
                            have hnc154 := NB153_151.out
                            have hcz155_0 : wc.cell? ⟨gb151, 0, none⟩ = some (.int .u64 a0_0) := (blk_cell BK151.out 0).trans rfl
                            have hcz155_1 : wc.cell? ⟨gb151, 1, none⟩ = some (.int .u64 a0_1) := (blk_cell BK151.out 1).trans rfl
                            have hcz155_2 : wc.cell? ⟨gb151, 2, none⟩ = some (.int .i64 a0_2) := (blk_cell BK151.out 2).trans rfl
                            have hfz155_0 := blk_frozen BK151.out 0
                            have hfz155_1 := blk_frozen BK151.out 1
                            have hfz155_2 := blk_frozen BK151.out 2
                            have hnb156 := NB152_153.out
                            have hnc156 := NB153_152.out
                            have hcz157_0 : wc.cell? ⟨gb152, 0, none⟩ = some (.int .u64 a1_0) := (blk_cell BK152.out 0).trans rfl
                            have hcz157_1 : wc.cell? ⟨gb152, 1, none⟩ = some (.int .u64 a1_1) := (blk_cell BK152.out 1).trans rfl
                            have hcz157_2 : wc.cell? ⟨gb152, 2, none⟩ = some (.int .i64 a1_2) := (blk_cell BK152.out 2).trans rfl
                            have hfz157_0 := blk_frozen BK152.out 0
                            have hfz157_1 := blk_frozen BK152.out 1
                            have hfz157_2 := blk_frozen BK152.out 2
                            go_wp2_with (first | (go_at_call 20; (with_reducible refine (tick_Compare.calls kj8 a1_0 a1_1 a1_2 a0_0 a0_1 a0_2 t161 _ A57.out).mono ?_); rintro e w158 ⟨rfl, hb⟩; have n0_ := Aside0.mk (blk_below (g := gb151) (o := .cells #[.int .u64 a0_0, .int .u64 a0_1, .int .i64 a0_2] 33 (0, 0)) (by (with_reducible repeat (first | refine blk_drewN ?_ _ | refine blk_drew ?_ | refine blk_alloc ?_ _)); exact BK151.out) hb); have n1_ := Aside0.mk (blk_below (g := gb152) (o := .cells #[.int .u64 a1_0, .int .u64 a1_1, .int .i64 a1_2] 33 (0, 0)) (by (with_reducible repeat (first | refine blk_drewN ?_ _ | refine blk_drew ?_ | refine blk_alloc ?_ _)); exact BK152.out) hb); have n2_ := Aside0.mk (blk_below (g := gb153) (o := .cells #[.int .u64 a2_0, .int .u64 a2_1, .int .i64 a2_2] 33 (0, 0)) (by (with_reducible repeat (first | refine blk_drewN ?_ _ | refine blk_drew ?_ | refine blk_alloc ?_ _)); exact BK153.out) hb); have n3_ := Aside0.mk (below_step (by repeat (first | (with_reducible first | exact HB.out | apply below_alloc | apply pw_below_drewN | apply below_drew1 | refine below_set ?_ GE151.out | refine below_set ?_ GE152.out | refine below_set ?_ GE153.out) | exact HB.out)) hb); clear BK151; clear BK152; clear BK153; clear HB; have BK151 := n0_; have BK152 := n1_; have BK153 := n2_; have HB := n3_; clear n0_ n1_ n2_ n3_; (try clear hb); (try clear hb2); (try clear hk); (try clear hi)))
                            go_ret
                            exact ⟨by first | rfl | (simp [errW_none, errW_some] <;> rfl) | (simp [*, errW_none, errW_some] <;> rfl), by repeat (first | (with_reducible first | exact HB.out | apply below_alloc | apply pw_below_drewN | apply below_drew1 | refine below_set ?_ GE151.out | refine below_set ?_ GE152.out | refine below_set ?_ GE153.out) | exact HB.out)⟩
                          | true =>
                            cases e1 : (a0_1 == a1_1) with
                            | false =>
                              clear key
                              obtain rfl := Option.some.inj H
                              have hnb153 := NB151_152.out
                              have hnc153 := NB152_151.out
                              have hnb154 := NB151_153.out
                              have hnc154 := NB153_151.out
                              have hcz155_0 : wc.cell? ⟨gb151, 0, none⟩ = some (.int .u64 a0_0) := (blk_cell BK151.out 0).trans rfl
                              have hcz155_1 : wc.cell? ⟨gb151, 1, none⟩ = some (.int .u64 a0_1) := (blk_cell BK151.out 1).trans rfl
                              have hcz155_2 : wc.cell? ⟨gb151, 2, none⟩ = some (.int .i64 a0_2) := (blk_cell BK151.out 2).trans rfl
                              have hfz155_0 := blk_frozen BK151.out 0
                              have hfz155_1 := blk_frozen BK151.out 1
                              have hfz155_2 := blk_frozen BK151.out 2
                              have hnb156 := NB152_153.out
                              have hnc156 := NB153_152.out
                              have hcz157_0 : wc.cell? ⟨gb152, 0, none⟩ = some (.int .u64 a1_0) := (blk_cell BK152.out 0).trans rfl
                              have hcz157_1 : wc.cell? ⟨gb152, 1, none⟩ = some (.int .u64 a1_1) := (blk_cell BK152.out 1).trans rfl
                              have hcz157_2 : wc.cell? ⟨gb152, 2, none⟩ = some (.int .i64 a1_2) := (blk_cell BK152.out 2).trans rfl
                              have hfz157_0 := blk_frozen BK152.out 0
                              have hfz157_1 := blk_frozen BK152.out 1
                              have hfz157_2 := blk_frozen BK152.out 2
                              go_wp2_with (first | (go_at_call 20; (with_reducible refine (tick_Compare.calls kj8 a1_0 a1_1 a1_2 a0_0 a0_1 a0_2 t161 _ A57.out).mono ?_); rintro e w158 ⟨rfl, hb⟩; have n0_ := Aside0.mk (blk_below (g := gb151) (o := .cells #[.int .u64 a0_0, .int .u64 a0_1, .int .i64 a0_2] 33 (0, 0)) (by (with_reducible repeat (first | refine blk_drewN ?_ _ | refine blk_drew ?_ | refine blk_alloc ?_ _)); exact BK151.out) hb); have n1_ := Aside0.mk (blk_below (g := gb152) (o := .cells #[.int .u64 a1_0, .int .u64 a1_1, .int .i64 a1_2] 33 (0, 0)) (by (with_reducible repeat (first | refine blk_drewN ?_ _ | refine blk_drew ?_ | refine blk_alloc ?_ _)); exact BK152.out) hb); have n2_ := Aside0.mk (blk_below (g := gb153) (o := .cells #[.int .u64 a2_0, .int .u64 a2_1, .int .i64 a2_2] 33 (0, 0)) (by (with_reducible repeat (first | refine blk_drewN ?_ _ | refine blk_drew ?_ | refine blk_alloc ?_ _)); exact BK153.out) hb); have n3_ := Aside0.mk (below_step (by repeat (first | (with_reducible first | exact HB.out | apply below_alloc | apply pw_below_drewN | apply below_drew1 | refine below_set ?_ GE151.out | refine below_set ?_ GE152.out | refine below_set ?_ GE153.out) | exact HB.out)) hb); clear BK151; clear BK152; clear BK153; clear HB; have BK151 := n0_; have BK152 := n1_; have BK153 := n2_; have HB := n3_; clear n0_ n1_ n2_ n3_; (try clear hb); (try clear hb2); (try clear hk); (try clear hi)))
                              go_ret
                              exact ⟨by first | rfl | (simp [errW_none, errW_some] <;> rfl) | (simp [*, errW_none, errW_some] <;> rfl), by repeat (first | (with_reducible first | exact HB.out | apply below_alloc | apply pw_below_drewN | apply below_drew1 | refine below_set ?_ GE151.out | refine below_set ?_ GE152.out | refine below_set ?_ GE153.out) | exact HB.out)⟩
                            | true =>
                              cases e2 : (a0_2 == a1_2) with
                              | false =>
                                clear key
                                obtain rfl := Option.some.inj H
                                have hnb153 := NB151_152.out
                                have hnc153 := NB152_151.out
                                have hnb154 := NB151_153.out
                                have hnc154 := NB153_151.out
                                have hcz155_0 : wc.cell? ⟨gb151, 0, none⟩ = some (.int .u64 a0_0) := (blk_cell BK151.out 0).trans rfl
                                have hcz155_1 : wc.cell? ⟨gb151, 1, none⟩ = some (.int .u64 a0_1) := (blk_cell BK151.out 1).trans rfl
                                have hcz155_2 : wc.cell? ⟨gb151, 2, none⟩ = some (.int .i64 a0_2) := (blk_cell BK151.out 2).trans rfl
                                have hfz155_0 := blk_frozen BK151.out 0
                                have hfz155_1 := blk_frozen BK151.out 1
                                have hfz155_2 := blk_frozen BK151.out 2
                                have hnb156 := NB152_153.out
                                have hnc156 := NB153_152.out
                                have hcz157_0 : wc.cell? ⟨gb152, 0, none⟩ = some (.int .u64 a1_0) := (blk_cell BK152.out 0).trans rfl
                                have hcz157_1 : wc.cell? ⟨gb152, 1, none⟩ = some (.int .u64 a1_1) := (blk_cell BK152.out 1).trans rfl
                                have hcz157_2 : wc.cell? ⟨gb152, 2, none⟩ = some (.int .i64 a1_2) := (blk_cell BK152.out 2).trans rfl
                                have hfz157_0 := blk_frozen BK152.out 0
                                have hfz157_1 := blk_frozen BK152.out 1
                                have hfz157_2 := blk_frozen BK152.out 2
                                go_wp2_with (first | (go_at_call 20; (with_reducible refine (tick_Compare.calls kj8 a1_0 a1_1 a1_2 a0_0 a0_1 a0_2 t161 _ A57.out).mono ?_); rintro e w158 ⟨rfl, hb⟩; have n0_ := Aside0.mk (blk_below (g := gb151) (o := .cells #[.int .u64 a0_0, .int .u64 a0_1, .int .i64 a0_2] 33 (0, 0)) (by (with_reducible repeat (first | refine blk_drewN ?_ _ | refine blk_drew ?_ | refine blk_alloc ?_ _)); exact BK151.out) hb); have n1_ := Aside0.mk (blk_below (g := gb152) (o := .cells #[.int .u64 a1_0, .int .u64 a1_1, .int .i64 a1_2] 33 (0, 0)) (by (with_reducible repeat (first | refine blk_drewN ?_ _ | refine blk_drew ?_ | refine blk_alloc ?_ _)); exact BK152.out) hb); have n2_ := Aside0.mk (blk_below (g := gb153) (o := .cells #[.int .u64 a2_0, .int .u64 a2_1, .int .i64 a2_2] 33 (0, 0)) (by (with_reducible repeat (first | refine blk_drewN ?_ _ | refine blk_drew ?_ | refine blk_alloc ?_ _)); exact BK153.out) hb); have n3_ := Aside0.mk (below_step (by repeat (first | (with_reducible first | exact HB.out | apply below_alloc | apply pw_below_drewN | apply below_drew1 | refine below_set ?_ GE151.out | refine below_set ?_ GE152.out | refine below_set ?_ GE153.out) | exact HB.out)) hb); clear BK151; clear BK152; clear BK153; clear HB; have BK151 := n0_; have BK152 := n1_; have BK153 := n2_; have HB := n3_; clear n0_ n1_ n2_ n3_; (try clear hb); (try clear hb2); (try clear hk); (try clear hi)))
                                go_ret
                                exact ⟨by first | rfl | (simp [errW_none, errW_some] <;> rfl) | (simp [*, errW_none, errW_some] <;> rfl), by repeat (first | (with_reducible first | exact HB.out | apply below_alloc | apply pw_below_drewN | apply below_drew1 | refine below_set ?_ GE151.out | refine below_set ?_ GE152.out | refine below_set ?_ GE153.out) | exact HB.out)⟩
                              | true => rw [e0, e1, e2] at key; cases key
                    · rw [if_neg c110] at H
                      have c110b0 : (t157 == (-1)) = false := beq_eq_false_iff_ne.mpr c110
                      have c110b1 : (t157 != (-1)) = true := bne_iff_ne.mpr c110
                      obtain rfl := Option.some.inj H
                      have hnb159 := NB151_152.out
                      have hnc159 := NB152_151.out
                      have hnb160 := NB151_153.out
                      have hnc160 := NB153_151.out
                      have hcz161_0 : wc.cell? ⟨gb151, 0, none⟩ = some (.int .u64 a0_0) := (blk_cell BK151.out 0).trans rfl
                      have hcz161_1 : wc.cell? ⟨gb151, 1, none⟩ = some (.int .u64 a0_1) := (blk_cell BK151.out 1).trans rfl
                      have hcz161_2 : wc.cell? ⟨gb151, 2, none⟩ = some (.int .i64 a0_2) := (blk_cell BK151.out 2).trans rfl
                      have hfz161_0 := blk_frozen BK151.out 0
                      have hfz161_1 := blk_frozen BK151.out 1
                      have hfz161_2 := blk_frozen BK151.out 2
                      have hnb162 := NB152_153.out
                      have hnc162 := NB153_152.out
                      have hcz163_0 : wc.cell? ⟨gb152, 0, none⟩ = some (.int .u64 a1_0) := (blk_cell BK152.out 0).trans rfl
                      have hcz163_1 : wc.cell? ⟨gb152, 1, none⟩ = some (.int .u64 a1_1) := (blk_cell BK152.out 1).trans rfl
                      have hcz163_2 : wc.cell? ⟨gb152, 2, none⟩ = some (.int .i64 a1_2) := (blk_cell BK152.out 2).trans rfl
                      have hfz163_0 := blk_frozen BK152.out 0
                      have hfz163_1 := blk_frozen BK152.out 1
                      have hfz163_2 := blk_frozen BK152.out 2
                      go_wp2_with (first | (go_at_call 20; (with_reducible refine (tick_Compare.calls kj8 a1_0 a1_1 a1_2 a0_0 a0_1 a0_2 t161 _ A57.out).mono ?_); rintro e w164 ⟨rfl, hb⟩; have n0_ := Aside0.mk (blk_below (g := gb151) (o := .cells #[.int .u64 a0_0, .int .u64 a0_1, .int .i64 a0_2] 33 (0, 0)) (by (with_reducible repeat (first | refine blk_drewN ?_ _ | refine blk_drew ?_ | refine blk_alloc ?_ _)); exact BK151.out) hb); have n1_ := Aside0.mk (blk_below (g := gb152) (o := .cells #[.int .u64 a1_0, .int .u64 a1_1, .int .i64 a1_2] 33 (0, 0)) (by (with_reducible repeat (first | refine blk_drewN ?_ _ | refine blk_drew ?_ | refine blk_alloc ?_ _)); exact BK152.out) hb); have n2_ := Aside0.mk (blk_below (g := gb153) (o := .cells #[.int .u64 a2_0, .int .u64 a2_1, .int .i64 a2_2] 33 (0, 0)) (by (with_reducible repeat (first | refine blk_drewN ?_ _ | refine blk_drew ?_ | refine blk_alloc ?_ _)); exact BK153.out) hb); have n3_ := Aside0.mk (below_step (by repeat (first | (with_reducible first | exact HB.out | apply below_alloc | apply pw_below_drewN | apply below_drew1 | refine below_set ?_ GE151.out | refine below_set ?_ GE152.out | refine below_set ?_ GE153.out) | exact HB.out)) hb); clear BK151; clear BK152; clear BK153; clear HB; have BK151 := n0_; have BK152 := n1_; have BK153 := n2_; have HB := n3_; clear n0_ n1_ n2_ n3_; (try clear hb); (try clear hb2); (try clear hk); (try clear hi)))
                      go_ret
                      exact ⟨by first | rfl | (simp [errW_none, errW_some] <;> rfl) | (simp [*, errW_none, errW_some] <;> rfl), by repeat (first | (with_reducible first | exact HB.out | apply below_alloc | apply pw_below_drewN | apply below_drew1 | refine below_set ?_ GE151.out | refine below_set ?_ GE152.out | refine below_set ?_ GE153.out) | exact HB.out)⟩
                · rw [if_neg c60] at H
                  have c60b0 : (t155 == (-1)) = false := beq_eq_false_iff_ne.mpr c60
                  have c60b1 : (t155 != (-1)) = true := bne_iff_ne.mpr c60
                  by_cases c165 : t155 = 1
                  · rw [if_pos c165] at H
                    have c165b0 : (t155 == 1) = true := beq_iff_eq.mpr c165
                    have c165b1 : (t155 != 1) = false := bne_eq_false_iff_eq.mpr c165
                    clear c165
                    by_cases c166 : t156 = (-1)
                    · rw [if_pos c166] at H
                      have c166b0 : (t156 == (-1)) = true := beq_iff_eq.mpr c166
                      have c166b1 : (t156 != (-1)) = false := bne_eq_false_iff_eq.mpr c166
                      clear c166
                      by_cases c167 : t155 = 0
                      · exact absurd ((beq_iff_eq.mp c165b0).symm.trans c167) (by decide)
                      · rw [if_neg c167] at H
                        have c167b0 : (t155 == 0) = false := beq_eq_false_iff_ne.mpr c167
                        have c167b1 : (t155 != 0) = true := bne_iff_ne.mpr c167
                        have key : (a0_0 == a1_0 && (a0_1 == a1_1 && a0_2 == a1_2)) = false := by rw [c167b0] at c51b0; simpa using c51b0
                        clear c51b0
                        cases e0 : (a0_0 == a1_0) with
                        | false =>
                          clear key
                          obtain rfl := Option.some.inj H
                          have hnb174 := NB151_152.out
                          have hnc174 := NB152_151.out
                          have hnb175 := NB151_153.out
                          have hnc175 := NB153_151.out
                          have hcz176_0 : wc.cell? ⟨gb151, 0, none⟩ = some (.int .u64 a0_0) := (blk_cell BK151.out 0).trans rfl
                          have hcz176_1 : wc.cell? ⟨gb151, 1, none⟩ = some (.int .u64 a0_1) := (blk_cell BK151.out 1).trans rfl
                          have hcz176_2 : wc.cell? ⟨gb151, 2, none⟩ = some (.int .i64 a0_2) := (blk_cell BK151.out 2).trans rfl
                          have hfz176_0 := blk_frozen BK151.out 0
                          have hfz176_1 := blk_frozen BK151.out 1
                          have hfz176_2 := blk_frozen BK151.out 2
                          have hnb177 := NB152_153.out
                          have hnc177 := NB153_152.out
                          have hcz178_0 : wc.cell? ⟨gb152, 0, none⟩ = some (.int .u64 a1_0) := (blk_cell BK152.out 0).trans rfl
                          have hcz178_1 : wc.cell? ⟨gb152, 1, none⟩ = some (.int .u64 a1_1) := (blk_cell BK152.out 1).trans rfl
                          have hcz178_2 : wc.cell? ⟨gb152, 2, none⟩ = some (.int .i64 a1_2) := (blk_cell BK152.out 2).trans rfl
                          have hfz178_0 := blk_frozen BK152.out 0
                          have hfz178_1 := blk_frozen BK152.out 1
                          have hfz178_2 := blk_frozen BK152.out 2
                          go_wp2_with (first | (go_at_call 20; (with_reducible refine (tick_Compare.calls kj8 a1_0 a1_1 a1_2 a0_0 a0_1 a0_2 t161 _ A57.out).mono ?_); rintro e w179 ⟨rfl, hb⟩; have n0_ := Aside0.mk (blk_below (g := gb151) (o := .cells #[.int .u64 a0_0, .int .u64 a0_1, .int .i64 a0_2] 33 (0, 0)) (by (with_reducible repeat (first | refine blk_drewN ?_ _ | refine blk_drew ?_ | refine blk_alloc ?_ _)); exact BK151.out) hb); have n1_ := Aside0.mk (blk_below (g := gb152) (o := .cells #[.int .u64 a1_0, .int .u64 a1_1, .int .i64 a1_2] 33 (0, 0)) (by (with_reducible repeat (first | refine blk_drewN ?_ _ | refine blk_drew ?_ | refine blk_alloc ?_ _)); exact BK152.out) hb); have n2_ := Aside0.mk (blk_below (g := gb153) (o := .cells #[.int .u64 a2_0, .int .u64 a2_1, .int .i64 a2_2] 33 (0, 0)) (by (with_reducible repeat (first | refine blk_drewN ?_ _ | refine blk_drew ?_ | refine blk_alloc ?_ _)); exact BK153.out) hb); have n3_ := Aside0.mk (below_step (by repeat (first | (with_reducible first | exact HB.out | apply below_alloc | apply pw_below_drewN | apply below_drew1 | refine below_set ?_ GE151.out | refine below_set ?_ GE152.out | refine below_set ?_ GE153.out) | exact HB.out)) hb); clear BK151; clear BK152; clear BK153; clear HB; have BK151 := n0_; have BK152 := n1_; have BK153 := n2_; have HB := n3_; clear n0_ n1_ n2_ n3_; (try clear hb); (try clear hb2); (try clear hk); (try clear hi)))
                          go_ret
                          exact ⟨by first | rfl | (simp [errW_none, errW_some] <;> rfl) | (simp [*, errW_none, errW_some] <;> rfl), by repeat (first | (with_reducible first | exact HB.out | apply below_alloc | apply pw_below_drewN | apply below_drew1 | refine below_set ?_ GE151.out | refine below_set ?_ GE152.out | refine below_set ?_ GE153.out) | exact HB.out)⟩
                        | true =>
                          cases e1 : (a0_1 == a1_1) with
                          | false =>
                            clear key
                            obtain rfl := Option.some.inj H
                            have hnb174 := NB151_152.out
                            have hnc174 := NB152_151.out
                            have hnb175 := NB151_153.out
                            have hnc175 := NB153_151.out
                            have hcz176_0 : wc.cell? ⟨gb151, 0, none⟩ = some (.int .u64 a0_0) := (blk_cell BK151.out 0).trans rfl
                            have hcz176_1 : wc.cell? ⟨gb151, 1, none⟩ = some (.int .u64 a0_1) := (blk_cell BK151.out 1).trans rfl
                            have hcz176_2 : wc.cell? ⟨gb151, 2, none⟩ = some (.int .i64 a0_2) := (blk_cell BK151.out 2).trans rfl
                            have hfz176_0 := blk_frozen BK151.out 0
                            have hfz176_1 := blk_frozen BK151.out 1
                            have hfz176_2 := blk_frozen BK151.out 2
                            have hnb177 := NB152_153.out
                            have hnc177 := NB153_152.out
                            have hcz178_0 : wc.cell? ⟨gb152, 0, none⟩ = some (.int .u64 a1_0) := (blk_cell BK152.out 0).trans rfl
                            have hcz178_1 : wc.cell? ⟨gb152, 1, none⟩ = some (.int .u64 a1_1) := (blk_cell BK152.out 1).trans rfl
                            have hcz178_2 : wc.cell? ⟨gb152, 2, none⟩ = some (.int .i64 a1_2) := (blk_cell BK152.out 2).trans rfl
                            have hfz178_0 := blk_frozen BK152.out 0
                            have hfz178_1 := blk_frozen BK152.out 1
                            have hfz178_2 := blk_frozen BK152.out 2
                            go_wp2_with (first | (go_at_call 20; (with_reducible refine (tick_Compare.calls kj8 a1_0 a1_1 a1_2 a0_0 a0_1 a0_2 t161 _ A57.out).mono ?_); rintro e w179 ⟨rfl, hb⟩; have n0_ := Aside0.mk (blk_below (g := gb151) (o := .cells #[.int .u64 a0_0, .int .u64 a0_1, .int .i64 a0_2] 33 (0, 0)) (by (with_reducible repeat (first | refine blk_drewN ?_ _ | refine blk_drew ?_ | refine blk_alloc ?_ _)); exact BK151.out) hb); have n1_ := Aside0.mk (blk_below (g := gb152) (o := .cells #[.int .u64 a1_0, .int .u64 a1_1, .int .i64 a1_2] 33 (0, 0)) (by (with_reducible repeat (first | refine blk_drewN ?_ _ | refine blk_drew ?_ | refine blk_alloc ?_ _)); exact BK152.out) hb); have n2_ := Aside0.mk (blk_below (g := gb153) (o := .cells #[.int .u64 a2_0, .int .u64 a2_1, .int .i64 a2_2] 33 (0, 0)) (by (with_reducible repeat (first | refine blk_drewN ?_ _ | refine blk_drew ?_ | refine blk_alloc ?_ _)); exact BK153.out) hb); have n3_ := Aside0.mk (below_step (by repeat (first | (with_reducible first | exact HB.out | apply below_alloc | apply pw_below_drewN | apply below_drew1 | refine below_set ?_ GE151.out | refine below_set ?_ GE152.out | refine below_set ?_ GE153.out) | exact HB.out)) hb); clear BK151; clear BK152; clear BK153; clear HB; have BK151 := n0_; have BK152 := n1_; have BK153 := n2_; have HB := n3_; clear n0_ n1_ n2_ n3_; (try clear hb); (try clear hb2); (try clear hk); (try clear hi)))
                            go_ret
                            exact ⟨by first | rfl | (simp [errW_none, errW_some] <;> rfl) | (simp [*, errW_none, errW_some] <;> rfl), by repeat (first | (with_reducible first | exact HB.out | apply below_alloc | apply pw_below_drewN | apply below_drew1 | refine below_set ?_ GE151.out | refine below_set ?_ GE152.out | refine below_set ?_ GE153.out) | exact HB.out)⟩
                          | true =>
                            cases e2 : (a0_2 == a1_2) with
                            | false =>
                              clear key
                              obtain rfl := Option.some.inj H
                              have hnb174 := NB151_152.out
                              have hnc174 := NB152_151.out
                              have hnb175 := NB151_153.out
                              have hnc175 := NB153_151.out
                              have hcz176_0 : wc.cell? ⟨gb151, 0, none⟩ = some (.int .u64 a0_0) := (blk_cell BK151.out 0).trans rfl
                              have hcz176_1 : wc.cell? ⟨gb151, 1, none⟩ = some (.int .u64 a0_1) := (blk_cell BK151.out 1).trans rfl
                              have hcz176_2 : wc.cell? ⟨gb151, 2, none⟩ = some (.int .i64 a0_2) := (blk_cell BK151.out 2).trans rfl
                              have hfz176_0 := blk_frozen BK151.out 0
                              have hfz176_1 := blk_frozen BK151.out 1
                              have hfz176_2 := blk_frozen BK151.out 2
                              have hnb177 := NB152_153.out
                              have hnc177 := NB153_152.out
                              have hcz178_0 : wc.cell? ⟨gb152, 0, none⟩ = some (.int .u64 a1_0) := (blk_cell BK152.out 0).trans rfl
                              have hcz178_1 : wc.cell? ⟨gb152, 1, none⟩ = some (.int .u64 a1_1) := (blk_cell BK152.out 1).trans rfl
                              have hcz178_2 : wc.cell? ⟨gb152, 2, none⟩ = some (.int .i64 a1_2) := (blk_cell BK152.out 2).trans rfl
                              have hfz178_0 := blk_frozen BK152.out 0
                              have hfz178_1 := blk_frozen BK152.out 1
                              have hfz178_2 := blk_frozen BK152.out 2
                              go_wp2_with (first | (go_at_call 20; (with_reducible refine (tick_Compare.calls kj8 a1_0 a1_1 a1_2 a0_0 a0_1 a0_2 t161 _ A57.out).mono ?_); rintro e w179 ⟨rfl, hb⟩; have n0_ := Aside0.mk (blk_below (g := gb151) (o := .cells #[.int .u64 a0_0, .int .u64 a0_1, .int .i64 a0_2] 33 (0, 0)) (by (with_reducible repeat (first | refine blk_drewN ?_ _ | refine blk_drew ?_ | refine blk_alloc ?_ _)); exact BK151.out) hb); have n1_ := Aside0.mk (blk_below (g := gb152) (o := .cells #[.int .u64 a1_0, .int .u64 a1_1, .int .i64 a1_2] 33 (0, 0)) (by (with_reducible repeat (first | refine blk_drewN ?_ _ | refine blk_drew ?_ | refine blk_alloc ?_ _)); exact BK152.out) hb); have n2_ := Aside0.mk (blk_below (g := gb153) (o := .cells #[.int .u64 a2_0, .int .u64 a2_1, .int .i64 a2_2] 33 (0, 0)) (by (with_reducible repeat (first | refine blk_drewN ?_ _ | refine blk_drew ?_ | refine blk_alloc ?_ _)); exact BK153.out) hb); have n3_ := Aside0.mk (below_step (by repeat (first | (with_reducible first | exact HB.out | apply below_alloc | apply pw_below_drewN | apply below_drew1 | refine below_set ?_ GE151.out | refine below_set ?_ GE152.out | refine below_set ?_ GE153.out) | exact HB.out)) hb); clear BK151; clear BK152; clear BK153; clear HB; have BK151 := n0_; have BK152 := n1_; have BK153 := n2_; have HB := n3_; clear n0_ n1_ n2_ n3_; (try clear hb); (try clear hb2); (try clear hk); (try clear hi)))
                              go_ret
                              exact ⟨by first | rfl | (simp [errW_none, errW_some] <;> rfl) | (simp [*, errW_none, errW_some] <;> rfl), by repeat (first | (with_reducible first | exact HB.out | apply below_alloc | apply pw_below_drewN | apply below_drew1 | refine below_set ?_ GE151.out | refine below_set ?_ GE152.out | refine below_set ?_ GE153.out) | exact HB.out)⟩
                            | true => rw [e0, e1, e2] at key; cases key
                    · rw [if_neg c166] at H
                      have c166b0 : (t156 == (-1)) = false := beq_eq_false_iff_ne.mpr c166
                      have c166b1 : (t156 != (-1)) = true := bne_iff_ne.mpr c166
                      by_cases c180 : t157 = 1
                      · rw [if_pos c180] at H
                        have c180b0 : (t157 == 1) = true := beq_iff_eq.mpr c180
                        have c180b1 : (t157 != 1) = false := bne_eq_false_iff_eq.mpr c180
                        clear c180
                        by_cases c181 : t155 = 0
                        · exact absurd ((beq_iff_eq.mp c165b0).symm.trans c181) (by decide)
                        · rw [if_neg c181] at H
                          have c181b0 : (t155 == 0) = false := beq_eq_false_iff_ne.mpr c181
                          have c181b1 : (t155 != 0) = true := bne_iff_ne.mpr c181
                          have key : (a0_0 == a1_0 && (a0_1 == a1_1 && a0_2 == a1_2)) = false := by rw [c181b0] at c51b0; simpa using c51b0
                          clear c51b0
                          cases e0 : (a0_0 == a1_0) with
                          | false =>
                            clear key
                            obtain rfl := Option.some.inj H
                            have hnb188 := NB151_152.out
                            have hnc188 := NB152_151.out
                            have hnb189 := NB151_153.out
                            have hnc189 := NB153_151.out
                            have hcz190_0 : wc.cell? ⟨gb151, 0, none⟩ = some (.int .u64 a0_0) := (blk_cell BK151.out 0).trans rfl
                            have hcz190_1 : wc.cell? ⟨gb151, 1, none⟩ = some (.int .u64 a0_1) := (blk_cell BK151.out 1).trans rfl
                            have hcz190_2 : wc.cell? ⟨gb151, 2, none⟩ = some (.int .i64 a0_2) := (blk_cell BK151.out 2).trans rfl
                            have hfz190_0 := blk_frozen BK151.out 0
                            have hfz190_1 := blk_frozen BK151.out 1
                            have hfz190_2 := blk_frozen BK151.out 2
                            have hnb191 := NB152_153.out
                            have hnc191 := NB153_152.out
                            have hcz192_0 : wc.cell? ⟨gb152, 0, none⟩ = some (.int .u64 a1_0) := (blk_cell BK152.out 0).trans rfl
                            have hcz192_1 : wc.cell? ⟨gb152, 1, none⟩ = some (.int .u64 a1_1) := (blk_cell BK152.out 1).trans rfl
                            have hcz192_2 : wc.cell? ⟨gb152, 2, none⟩ = some (.int .i64 a1_2) := (blk_cell BK152.out 2).trans rfl
                            have hfz192_0 := blk_frozen BK152.out 0
                            have hfz192_1 := blk_frozen BK152.out 1
                            have hfz192_2 := blk_frozen BK152.out 2
                            go_wp2_with (first | (go_at_call 20; (with_reducible refine (tick_Compare.calls kj8 a1_0 a1_1 a1_2 a0_0 a0_1 a0_2 t161 _ A57.out).mono ?_); rintro e w193 ⟨rfl, hb⟩; have n0_ := Aside0.mk (blk_below (g := gb151) (o := .cells #[.int .u64 a0_0, .int .u64 a0_1, .int .i64 a0_2] 33 (0, 0)) (by (with_reducible repeat (first | refine blk_drewN ?_ _ | refine blk_drew ?_ | refine blk_alloc ?_ _)); exact BK151.out) hb); have n1_ := Aside0.mk (blk_below (g := gb152) (o := .cells #[.int .u64 a1_0, .int .u64 a1_1, .int .i64 a1_2] 33 (0, 0)) (by (with_reducible repeat (first | refine blk_drewN ?_ _ | refine blk_drew ?_ | refine blk_alloc ?_ _)); exact BK152.out) hb); have n2_ := Aside0.mk (blk_below (g := gb153) (o := .cells #[.int .u64 a2_0, .int .u64 a2_1, .int .i64 a2_2] 33 (0, 0)) (by (with_reducible repeat (first | refine blk_drewN ?_ _ | refine blk_drew ?_ | refine blk_alloc ?_ _)); exact BK153.out) hb); have n3_ := Aside0.mk (below_step (by repeat (first | (with_reducible first | exact HB.out | apply below_alloc | apply pw_below_drewN | apply below_drew1 | refine below_set ?_ GE151.out | refine below_set ?_ GE152.out | refine below_set ?_ GE153.out) | exact HB.out)) hb); clear BK151; clear BK152; clear BK153; clear HB; have BK151 := n0_; have BK152 := n1_; have BK153 := n2_; have HB := n3_; clear n0_ n1_ n2_ n3_; (try clear hb); (try clear hb2); (try clear hk); (try clear hi)))
                            go_ret
                            exact ⟨by first | rfl | (simp [errW_none, errW_some] <;> rfl) | (simp [*, errW_none, errW_some] <;> rfl), by repeat (first | (with_reducible first | exact HB.out | apply below_alloc | apply pw_below_drewN | apply below_drew1 | refine below_set ?_ GE151.out | refine below_set ?_ GE152.out | refine below_set ?_ GE153.out) | exact HB.out)⟩
                          | true =>
                            cases e1 : (a0_1 == a1_1) with
                            | false =>
                              clear key
                              obtain rfl := Option.some.inj H
                              have hnb188 := NB151_152.out
                              have hnc188 := NB152_151.out
                              have hnb189 := NB151_153.out
                              have hnc189 := NB153_151.out
                              have hcz190_0 : wc.cell? ⟨gb151, 0, none⟩ = some (.int .u64 a0_0) := (blk_cell BK151.out 0).trans rfl
                              have hcz190_1 : wc.cell? ⟨gb151, 1, none⟩ = some (.int .u64 a0_1) := (blk_cell BK151.out 1).trans rfl
                              have hcz190_2 : wc.cell? ⟨gb151, 2, none⟩ = some (.int .i64 a0_2) := (blk_cell BK151.out 2).trans rfl
                              have hfz190_0 := blk_frozen BK151.out 0
                              have hfz190_1 := blk_frozen BK151.out 1
                              have hfz190_2 := blk_frozen BK151.out 2
                              have hnb191 := NB152_153.out
                              have hnc191 := NB153_152.out
                              have hcz192_0 : wc.cell? ⟨gb152, 0, none⟩ = some (.int .u64 a1_0) := (blk_cell BK152.out 0).trans rfl
                              have hcz192_1 : wc.cell? ⟨gb152, 1, none⟩ = some (.int .u64 a1_1) := (blk_cell BK152.out 1).trans rfl
                              have hcz192_2 : wc.cell? ⟨gb152, 2, none⟩ = some (.int .i64 a1_2) := (blk_cell BK152.out 2).trans rfl
                              have hfz192_0 := blk_frozen BK152.out 0
                              have hfz192_1 := blk_frozen BK152.out 1
                              have hfz192_2 := blk_frozen BK152.out 2
                              go_wp2_with (first | (go_at_call 20; (with_reducible refine (tick_Compare.calls kj8 a1_0 a1_1 a1_2 a0_0 a0_1 a0_2 t161 _ A57.out).mono ?_); rintro e w193 ⟨rfl, hb⟩; have n0_ := Aside0.mk (blk_below (g := gb151) (o := .cells #[.int .u64 a0_0, .int .u64 a0_1, .int .i64 a0_2] 33 (0, 0)) (by (with_reducible repeat (first | refine blk_drewN ?_ _ | refine blk_drew ?_ | refine blk_alloc ?_ _)); exact BK151.out) hb); have n1_ := Aside0.mk (blk_below (g := gb152) (o := .cells #[.int .u64 a1_0, .int .u64 a1_1, .int .i64 a1_2] 33 (0, 0)) (by (with_reducible repeat (first | refine blk_drewN ?_ _ | refine blk_drew ?_ | refine blk_alloc ?_ _)); exact BK152.out) hb); have n2_ := Aside0.mk (blk_below (g := gb153) (o := .cells #[.int .u64 a2_0, .int .u64 a2_1, .int .i64 a2_2] 33 (0, 0)) (by (with_reducible repeat (first | refine blk_drewN ?_ _ | refine blk_drew ?_ | refine blk_alloc ?_ _)); exact BK153.out) hb); have n3_ := Aside0.mk (below_step (by repeat (first | (with_reducible first | exact HB.out | apply below_alloc | apply pw_below_drewN | apply below_drew1 | refine below_set ?_ GE151.out | refine below_set ?_ GE152.out | refine below_set ?_ GE153.out) | exact HB.out)) hb); clear BK151; clear BK152; clear BK153; clear HB; have BK151 := n0_; have BK152 := n1_; have BK153 := n2_; have HB := n3_; clear n0_ n1_ n2_ n3_; (try clear hb); (try clear hb2); (try clear hk); (try clear hi)))
                              go_ret
                              exact ⟨by first | rfl | (simp [errW_none, errW_some] <;> rfl) | (simp [*, errW_none, errW_some] <;> rfl), by repeat (first | (with_reducible first | exact HB.out | apply below_alloc | apply pw_below_drewN | apply below_drew1 | refine below_set ?_ GE151.out | refine below_set ?_ GE152.out | refine below_set ?_ GE153.out) | exact HB.out)⟩
                            | true =>
                              cases e2 : (a0_2 == a1_2) with
                              | false =>
                                clear key
                                obtain rfl := Option.some.inj H
                                have hnb188 := NB151_152.out
                                have hnc188 := NB152_151.out
                                have hnb189 := NB151_153.out
                                have hnc189 := NB153_151.out
                                have hcz190_0 : wc.cell? ⟨gb151, 0, none⟩ = some (.int .u64 a0_0) := (blk_cell BK151.out 0).trans rfl
                                have hcz190_1 : wc.cell? ⟨gb151, 1, none⟩ = some (.int .u64 a0_1) := (blk_cell BK151.out 1).trans rfl
                                have hcz190_2 : wc.cell? ⟨gb151, 2, none⟩ = some (.int .i64 a0_2) := (blk_cell BK151.out 2).trans rfl
                                have hfz190_0 := blk_frozen BK151.out 0
                                have hfz190_1 := blk_frozen BK151.out 1
                                have hfz190_2 := blk_frozen BK151.out 2
                                have hnb191 := NB152_153.out
                                have hnc191 := NB153_152.out
                                have hcz192_0 : wc.cell? ⟨gb152, 0, none⟩ = some (.int .u64 a1_0) := (blk_cell BK152.out 0).trans rfl
                                have hcz192_1 : wc.cell? ⟨gb152, 1, none⟩ = some (.int .u64 a1_1) := (blk_cell BK152.out 1).trans rfl
                                have hcz192_2 : wc.cell? ⟨gb152, 2, none⟩ = some (.int .i64 a1_2) := (blk_cell BK152.out 2).trans rfl
                                have hfz192_0 := blk_frozen BK152.out 0
                                have hfz192_1 := blk_frozen BK152.out 1
                                have hfz192_2 := blk_frozen BK152.out 2
                                go_wp2_with (first | (go_at_call 20; (with_reducible refine (tick_Compare.calls kj8 a1_0 a1_1 a1_2 a0_0 a0_1 a0_2 t161 _ A57.out).mono ?_); rintro e w193 ⟨rfl, hb⟩; have n0_ := Aside0.mk (blk_below (g := gb151) (o := .cells #[.int .u64 a0_0, .int .u64 a0_1, .int .i64 a0_2] 33 (0, 0)) (by (with_reducible repeat (first | refine blk_drewN ?_ _ | refine blk_drew ?_ | refine blk_alloc ?_ _)); exact BK151.out) hb); have n1_ := Aside0.mk (blk_below (g := gb152) (o := .cells #[.int .u64 a1_0, .int .u64 a1_1, .int .i64 a1_2] 33 (0, 0)) (by (with_reducible repeat (first | refine blk_drewN ?_ _ | refine blk_drew ?_ | refine blk_alloc ?_ _)); exact BK152.out) hb); have n2_ := Aside0.mk (blk_below (g := gb153) (o := .cells #[.int .u64 a2_0, .int .u64 a2_1, .int .i64 a2_2] 33 (0, 0)) (by (with_reducible repeat (first | refine blk_drewN ?_ _ | refine blk_drew ?_ | refine blk_alloc ?_ _)); exact BK153.out) hb); have n3_ := Aside0.mk (below_step (by repeat (first | (with_reducible first | exact HB.out | apply below_alloc | apply pw_below_drewN | apply below_drew1 | refine below_set ?_ GE151.out | refine below_set ?_ GE152.out | refine below_set ?_ GE153.out) | exact HB.out)) hb); clear BK151; clear BK152; clear BK153; clear HB; have BK151 := n0_; have BK152 := n1_; have BK153 := n2_; have HB := n3_; clear n0_ n1_ n2_ n3_; (try clear hb); (try clear hb2); (try clear hk); (try clear hi)))
                                go_ret
                                exact ⟨by first | rfl | (simp [errW_none, errW_some] <;> rfl) | (simp [*, errW_none, errW_some] <;> rfl), by repeat (first | (with_reducible first | exact HB.out | apply below_alloc | apply pw_below_drewN | apply below_drew1 | refine below_set ?_ GE151.out | refine below_set ?_ GE152.out | refine below_set ?_ GE153.out) | exact HB.out)⟩
                              | true => rw [e0, e1, e2] at key; cases key
                      · rw [if_neg c180] at H
                        have c180b0 : (t157 == 1) = false := beq_eq_false_iff_ne.mpr c180
                        have c180b1 : (t157 != 1) = true := bne_iff_ne.mpr c180
                        obtain rfl := Option.some.inj H
                        have hnb194 := NB151_152.out
                        have hnc194 := NB152_151.out
                        have hnb195 := NB151_153.out
                        have hnc195 := NB153_151.out
                        have hcz196_0 : wc.cell? ⟨gb151, 0, none⟩ = some (.int .u64 a0_0) := (blk_cell BK151.out 0).trans rfl
                        have hcz196_1 : wc.cell? ⟨gb151, 1, none⟩ = some (.int .u64 a0_1) := (blk_cell BK151.out 1).trans rfl
                        have hcz196_2 : wc.cell? ⟨gb151, 2, none⟩ = some (.int .i64 a0_2) := (blk_cell BK151.out 2).trans rfl
                        have hfz196_0 := blk_frozen BK151.out 0
                        have hfz196_1 := blk_frozen BK151.out 1
                        have hfz196_2 := blk_frozen BK151.out 2
                        have hnb197 := NB152_153.out
                        have hnc197 := NB153_152.out
                        have hcz198_0 : wc.cell? ⟨gb152, 0, none⟩ = some (.int .u64 a1_0) := (blk_cell BK152.out 0).trans rfl
                        have hcz198_1 : wc.cell? ⟨gb152, 1, none⟩ = some (.int .u64 a1_1) := (blk_cell BK152.out 1).trans rfl
                        have hcz198_2 : wc.cell? ⟨gb152, 2, none⟩ = some (.int .i64 a1_2) := (blk_cell BK152.out 2).trans rfl
                        have hfz198_0 := blk_frozen BK152.out 0
                        have hfz198_1 := blk_frozen BK152.out 1
                        have hfz198_2 := blk_frozen BK152.out 2
                        go_wp2_with (first | (go_at_call 20; (with_reducible refine (tick_Compare.calls kj8 a1_0 a1_1 a1_2 a0_0 a0_1 a0_2 t161 _ A57.out).mono ?_); rintro e w199 ⟨rfl, hb⟩; have n0_ := Aside0.mk (blk_below (g := gb151) (o := .cells #[.int .u64 a0_0, .int .u64 a0_1, .int .i64 a0_2] 33 (0, 0)) (by (with_reducible repeat (first | refine blk_drewN ?_ _ | refine blk_drew ?_ | refine blk_alloc ?_ _)); exact BK151.out) hb); have n1_ := Aside0.mk (blk_below (g := gb152) (o := .cells #[.int .u64 a1_0, .int .u64 a1_1, .int .i64 a1_2] 33 (0, 0)) (by (with_reducible repeat (first | refine blk_drewN ?_ _ | refine blk_drew ?_ | refine blk_alloc ?_ _)); exact BK152.out) hb); have n2_ := Aside0.mk (blk_below (g := gb153) (o := .cells #[.int .u64 a2_0, .int .u64 a2_1, .int .i64 a2_2] 33 (0, 0)) (by (with_reducible repeat (first | refine blk_drewN ?_ _ | refine blk_drew ?_ | refine blk_alloc ?_ _)); exact BK153.out) hb); have n3_ := Aside0.mk (below_step (by repeat (first | (with_reducible first | exact HB.out | apply below_alloc | apply pw_below_drewN | apply below_drew1 | refine below_set ?_ GE151.out | refine below_set ?_ GE152.out | refine below_set ?_ GE153.out) | exact HB.out)) hb); clear BK151; clear BK152; clear BK153; clear HB; have BK151 := n0_; have BK152 := n1_; have BK153 := n2_; have HB := n3_; clear n0_ n1_ n2_ n3_; (try clear hb); (try clear hb2); (try clear hk); (try clear hi)))
                        go_ret
                        exact ⟨by first | rfl | (simp [errW_none, errW_some] <;> rfl) | (simp [*, errW_none, errW_some] <;> rfl), by repeat (first | (with_reducible first | exact HB.out | apply below_alloc | apply pw_below_drewN | apply below_drew1 | refine below_set ?_ GE151.out | refine below_set ?_ GE152.out | refine below_set ?_ GE153.out) | exact HB.out)⟩
                  · rw [if_neg c165] at H
                    have c165b0 : (t155 == 1) = false := beq_eq_false_iff_ne.mpr c165
                    have c165b1 : (t155 != 1) = true := bne_iff_ne.mpr c165
                    by_cases c200 : t155 = 0
                    · rw [if_pos c200] at H
                      have c200b0 : (t155 == 0) = true := beq_iff_eq.mpr c200
                      have c200b1 : (t155 != 0) = false := bne_eq_false_iff_eq.mpr c200
                      clear c200
                      obtain rfl := Option.some.inj H
                      have key : (a0_0 == a1_0 && (a0_1 == a1_1 && a0_2 == a1_2)) = true := by rw [c200b0] at c51b0; simpa using c51b0
                      clear c51b0
                      simp only [Bool.and_eq_true, beq_iff_eq] at key
                      obtain ⟨rfl, rfl, rfl⟩ := key
                      have hnb201 := NB151_152.out
                      have hnc201 := NB152_151.out
                      have hnb202 := NB151_153.out
                      have hnc202 := NB153_151.out
                      have hcz203_0 : wc.cell? ⟨gb151, 0, none⟩ = some (.int .u64 a0_0) := (blk_cell BK151.out 0).trans rfl
                      have hcz203_1 : wc.cell? ⟨gb151, 1, none⟩ = some (.int .u64 a0_1) := (blk_cell BK151.out 1).trans rfl
                      have hcz203_2 : wc.cell? ⟨gb151, 2, none⟩ = some (.int .i64 a0_2) := (blk_cell BK151.out 2).trans rfl
                      have hfz203_0 := blk_frozen BK151.out 0
                      have hfz203_1 := blk_frozen BK151.out 1
                      have hfz203_2 := blk_frozen BK151.out 2
                      have hnb204 := NB152_153.out
                      have hnc204 := NB153_152.out
                      have hcz205_0 : wc.cell? ⟨gb152, 0, none⟩ = some (.int .u64 a0_0) := (blk_cell BK152.out 0).trans rfl
                      have hcz205_1 : wc.cell? ⟨gb152, 1, none⟩ = some (.int .u64 a0_1) := (blk_cell BK152.out 1).trans rfl
                      have hcz205_2 : wc.cell? ⟨gb152, 2, none⟩ = some (.int .i64 a0_2) := (blk_cell BK152.out 2).trans rfl
                      have hfz205_0 := blk_frozen BK152.out 0
                      have hfz205_1 := blk_frozen BK152.out 1
                      have hfz205_2 := blk_frozen BK152.out 2
                      go_wp2_with (first | (go_at_call 20; (with_reducible refine (tick_Compare.calls kj8 a0_0 a0_1 a0_2 a0_0 a0_1 a0_2 t161 _ A57.out).mono ?_); rintro e w206 ⟨rfl, hb⟩; have n0_ := Aside0.mk (blk_below (g := gb151) (o := .cells #[.int .u64 a0_0, .int .u64 a0_1, .int .i64 a0_2] 33 (0, 0)) (by (with_reducible repeat (first | refine blk_drewN ?_ _ | refine blk_drew ?_ | refine blk_alloc ?_ _)); exact BK151.out) hb); have n1_ := Aside0.mk (blk_below (g := gb152) (o := .cells #[.int .u64 a0_0, .int .u64 a0_1, .int .i64 a0_2] 33 (0, 0)) (by (with_reducible repeat (first | refine blk_drewN ?_ _ | refine blk_drew ?_ | refine blk_alloc ?_ _)); exact BK152.out) hb); have n2_ := Aside0.mk (blk_below (g := gb153) (o := .cells #[.int .u64 a2_0, .int .u64 a2_1, .int .i64 a2_2] 33 (0, 0)) (by (with_reducible repeat (first | refine blk_drewN ?_ _ | refine blk_drew ?_ | refine blk_alloc ?_ _)); exact BK153.out) hb); have n3_ := Aside0.mk (below_step (by repeat (first | (with_reducible first | exact HB.out | apply below_alloc | apply pw_below_drewN | apply below_drew1 | refine below_set ?_ GE151.out | refine below_set ?_ GE152.out | refine below_set ?_ GE153.out) | exact HB.out)) hb); clear BK151; clear BK152; clear BK153; clear HB; have BK151 := n0_; have BK152 := n1_; have BK153 := n2_; have HB := n3_; clear n0_ n1_ n2_ n3_; (try clear hb); (try clear hb2); (try clear hk); (try clear hi)))
                      go_ret
                      exact ⟨by first | rfl | (simp [errW_none, errW_some] <;> rfl) | (simp [*, errW_none, errW_some] <;> rfl), by repeat (first | (with_reducible first | exact HB.out | apply below_alloc | apply pw_below_drewN | apply below_drew1 | refine below_set ?_ GE151.out | refine below_set ?_ GE152.out | refine below_set ?_ GE153.out) | exact HB.out)⟩
                    · rw [if_neg c200] at H
                      have c200b0 : (t155 == 0) = false := beq_eq_false_iff_ne.mpr c200
                      have c200b1 : (t155 != 0) = true := bne_iff_ne.mpr c200
                      have key : (a0_0 == a1_0 && (a0_1 == a1_1 && a0_2 == a1_2)) = false := by rw [c200b0] at c51b0; simpa using c51b0
                      clear c51b0
                      cases e0 : (a0_0 == a1_0) with
                      | false =>
                        clear key
                        obtain rfl := Option.some.inj H
                        have hnb207 := NB151_152.out
                        have hnc207 := NB152_151.out
                        have hnb208 := NB151_153.out
                        have hnc208 := NB153_151.out
                        have hcz209_0 : wc.cell? ⟨gb151, 0, none⟩ = some (.int .u64 a0_0) := (blk_cell BK151.out 0).trans rfl
                        have hcz209_1 : wc.cell? ⟨gb151, 1, none⟩ = some (.int .u64 a0_1) := (blk_cell BK151.out 1).trans rfl
                        have hcz209_2 : wc.cell? ⟨gb151, 2, none⟩ = some (.int .i64 a0_2) := (blk_cell BK151.out 2).trans rfl
                        have hfz209_0 := blk_frozen BK151.out 0
                        have hfz209_1 := blk_frozen BK151.out 1
                        have hfz209_2 := blk_frozen BK151.out 2
                        have hnb210 := NB152_153.out
                        have hnc210 := NB153_152.out
                        have hcz211_0 : wc.cell? ⟨gb152, 0, none⟩ = some (.int .u64 a1_0) := (blk_cell BK152.out 0).trans rfl
                        have hcz211_1 : wc.cell? ⟨gb152, 1, none⟩ = some (.int .u64 a1_1) := (blk_cell BK152.out 1).trans rfl
                        have hcz211_2 : wc.cell? ⟨gb152, 2, none⟩ = some (.int .i64 a1_2) := (blk_cell BK152.out 2).trans rfl
                        have hfz211_0 := blk_frozen BK152.out 0
                        have hfz211_1 := blk_frozen BK152.out 1
                        have hfz211_2 := blk_frozen BK152.out 2
                        go_wp2_with (first | (go_at_call 20; (with_reducible refine (tick_Compare.calls kj8 a1_0 a1_1 a1_2 a0_0 a0_1 a0_2 t161 _ A57.out).mono ?_); rintro e w212 ⟨rfl, hb⟩; have n0_ := Aside0.mk (blk_below (g := gb151) (o := .cells #[.int .u64 a0_0, .int .u64 a0_1, .int .i64 a0_2] 33 (0, 0)) (by (with_reducible repeat (first | refine blk_drewN ?_ _ | refine blk_drew ?_ | refine blk_alloc ?_ _)); exact BK151.out) hb); have n1_ := Aside0.mk (blk_below (g := gb152) (o := .cells #[.int .u64 a1_0, .int .u64 a1_1, .int .i64 a1_2] 33 (0, 0)) (by (with_reducible repeat (first | refine blk_drewN ?_ _ | refine blk_drew ?_ | refine blk_alloc ?_ _)); exact BK152.out) hb); have n2_ := Aside0.mk (blk_below (g := gb153) (o := .cells #[.int .u64 a2_0, .int .u64 a2_1, .int .i64 a2_2] 33 (0, 0)) (by (with_reducible repeat (first | refine blk_drewN ?_ _ | refine blk_drew ?_ | refine blk_alloc ?_ _)); exact BK153.out) hb); have n3_ := Aside0.mk (below_step (by repeat (first | (with_reducible first | exact HB.out | apply below_alloc | apply pw_below_drewN | apply below_drew1 | refine below_set ?_ GE151.out | refine below_set ?_ GE152.out | refine below_set ?_ GE153.out) | exact HB.out)) hb); clear BK151; clear BK152; clear BK153; clear HB; have BK151 := n0_; have BK152 := n1_; have BK153 := n2_; have HB := n3_; clear n0_ n1_ n2_ n3_; (try clear hb); (try clear hb2); (try clear hk); (try clear hi)))
                        go_ret
                        exact ⟨by first | rfl | (simp [errW_none, errW_some] <;> rfl) | (simp [*, errW_none, errW_some] <;> rfl), by repeat (first | (with_reducible first | exact HB.out | apply below_alloc | apply pw_below_drewN | apply below_drew1 | refine below_set ?_ GE151.out | refine below_set ?_ GE152.out | refine below_set ?_ GE153.out) | exact HB.out)⟩
                      | true =>
                        cases e1 : (a0_1 == a1_1) with
                        | false =>
                          clear key
                          obtain rfl := Option.some.inj H
                          have hnb207 := NB151_152.out
                          have hnc207 := NB152_151.out
                          have hnb208 := NB151_153.out
                          have hnc208 := NB153_151.out
                          have hcz209_0 : wc.cell? ⟨gb151, 0, none⟩ = some (.int .u64 a0_0) := (blk_cell BK151.out 0).trans rfl
                          have hcz209_1 : wc.cell? ⟨gb151, 1, none⟩ = some (.int .u64 a0_1) := (blk_cell BK151.out 1).trans rfl
                          have hcz209_2 : wc.cell? ⟨gb151, 2, none⟩ = some (.int .i64 a0_2) := (blk_cell BK151.out 2).trans rfl
                          have hfz209_0 := blk_frozen BK151.out 0
                          have hfz209_1 := blk_frozen BK151.out 1
                          have hfz209_2 := blk_frozen BK151.out 2
                          have hnb210 := NB152_153.out
                          have hnc210 := NB153_152.out
                          have hcz211_0 : wc.cell? ⟨gb152, 0, none⟩ = some (.int .u64 a1_0) := (blk_cell BK152.out 0).trans rfl
                          have hcz211_1 : wc.cell? ⟨gb152, 1, none⟩ = some (.int .u64 a1_1) := (blk_cell BK152.out 1).trans rfl
                          have hcz211_2 : wc.cell? ⟨gb152, 2, none⟩ = some (.int .i64 a1_2) := (blk_cell BK152.out 2).trans rfl
                          have hfz211_0 := blk_frozen BK152.out 0
                          have hfz211_1 := blk_frozen BK152.out 1
                          have hfz211_2 := blk_frozen BK152.out 2
                          go_wp2_with (first | (go_at_call 20; (with_reducible refine (tick_Compare.calls kj8 a1_0 a1_1 a1_2 a0_0 a0_1 a0_2 t161 _ A57.out).mono ?_); rintro e w212 ⟨rfl, hb⟩; have n0_ := Aside0.mk (blk_below (g := gb151) (o := .cells #[.int .u64 a0_0, .int .u64 a0_1, .int .i64 a0_2] 33 (0, 0)) (by (with_reducible repeat (first | refine blk_drewN ?_ _ | refine blk_drew ?_ | refine blk_alloc ?_ _)); exact BK151.out) hb); have n1_ := Aside0.mk (blk_below (g := gb152) (o := .cells #[.int .u64 a1_0, .int .u64 a1_1, .int .i64 a1_2] 33 (0, 0)) (by (with_reducible repeat (first | refine blk_drewN ?_ _ | refine blk_drew ?_ | refine blk_alloc ?_ _)); exact BK152.out) hb); have n2_ := Aside0.mk (blk_below (g := gb153) (o := .cells #[.int .u64 a2_0, .int .u64 a2_1, .int .i64 a2_2] 33 (0, 0)) (by (with_reducible repeat (first | refine blk_drewN ?_ _ | refine blk_drew ?_ | refine blk_alloc ?_ _)); exact BK153.out) hb); have n3_ := Aside0.mk (below_step (by repeat (first | (with_reducible first | exact HB.out | apply below_alloc | apply pw_below_drewN | apply below_drew1 | refine below_set ?_ GE151.out | refine below_set ?_ GE152.out | refine below_set ?_ GE153.out) | exact HB.out)) hb); clear BK151; clear BK152; clear BK153; clear HB; have BK151 := n0_; have BK152 := n1_; have BK153 := n2_; have HB := n3_; clear n0_ n1_ n2_ n3_; (try clear hb); (try clear hb2); (try clear hk); (try clear hi)))
                          go_ret
                          exact ⟨by first | rfl | (simp [errW_none, errW_some] <;> rfl) | (simp [*, errW_none, errW_some] <;> rfl), by repeat (first | (with_reducible first | exact HB.out | apply below_alloc | apply pw_below_drewN | apply below_drew1 | refine below_set ?_ GE151.out | refine below_set ?_ GE152.out | refine below_set ?_ GE153.out) | exact HB.out)⟩
                        | true =>
                          cases e2 : (a0_2 == a1_2) with
                          | false =>
                            clear key
                            obtain rfl := Option.some.inj H
                            have hnb207 := NB151_152.out
                            have hnc207 := NB152_151.out
                            have hnb208 := NB151_153.out
                            have hnc208 := NB153_151.out
                            have hcz209_0 : wc.cell? ⟨gb151, 0, none⟩ = some (.int .u64 a0_0) := (blk_cell BK151.out 0).trans rfl
                            have hcz209_1 : wc.cell? ⟨gb151, 1, none⟩ = some (.int .u64 a0_1) := (blk_cell BK151.out 1).trans rfl
                            have hcz209_2 : wc.cell? ⟨gb151, 2, none⟩ = some (.int .i64 a0_2) := (blk_cell BK151.out 2).trans rfl
                            have hfz209_0 := blk_frozen BK151.out 0
                            have hfz209_1 := blk_frozen BK151.out 1
                            have hfz209_2 := blk_frozen BK151.out 2
                            have hnb210 := NB152_153.out
                            have hnc210 := NB153_152.out
                            have hcz211_0 : wc.cell? ⟨gb152, 0, none⟩ = some (.int .u64 a1_0) := (blk_cell BK152.out 0).trans rfl
                            have hcz211_1 : wc.cell? ⟨gb152, 1, none⟩ = some (.int .u64 a1_1) := (blk_cell BK152.out 1).trans rfl
                            have hcz211_2 : wc.cell? ⟨gb152, 2, none⟩ = some (.int .i64 a1_2) := (blk_cell BK152.out 2).trans rfl
                            have hfz211_0 := blk_frozen BK152.out 0
                            have hfz211_1 := blk_frozen BK152.out 1
                            have hfz211_2 := blk_frozen BK152.out 2
                            go_wp2_with (first | (go_at_call 20; (with_reducible refine (tick_Compare.calls kj8 a1_0 a1_1 a1_2 a0_0 a0_1 a0_2 t161 _ A57.out).mono ?_); rintro e w212 ⟨rfl, hb⟩; have n0_ := Aside0.mk (blk_below (g := gb151) (o := .cells #[.int .u64 a0_0, .int .u64 a0_1, .int .i64 a0_2] 33 (0, 0)) (by (with_reducible repeat (first | refine blk_drewN ?_ _ | refine blk_drew ?_ | refine blk_alloc ?_ _)); exact BK151.out) hb); have n1_ := Aside0.mk (blk_below (g := gb152) (o := .cells #[.int .u64 a1_0, .int .u64 a1_1, .int .i64 a1_2] 33 (0, 0)) (by (with_reducible repeat (first | refine blk_drewN ?_ _ | refine blk_drew ?_ | refine blk_alloc ?_ _)); exact BK152.out) hb); have n2_ := Aside0.mk (blk_below (g := gb153) (o := .cells #[.int .u64 a2_0, .int .u64 a2_1, .int .i64 a2_2] 33 (0, 0)) (by (with_reducible repeat (first | refine blk_drewN ?_ _ | refine blk_drew ?_ | refine blk_alloc ?_ _)); exact BK153.out) hb); have n3_ := Aside0.mk (below_step (by repeat (first | (with_reducible first | exact HB.out | apply below_alloc | apply pw_below_drewN | apply below_drew1 | refine below_set ?_ GE151.out | refine below_set ?_ GE152.out | refine below_set ?_ GE153.out) | exact HB.out)) hb); clear BK151; clear BK152; clear BK153; clear HB; have BK151 := n0_; have BK152 := n1_; have BK153 := n2_; have HB := n3_; clear n0_ n1_ n2_ n3_; (try clear hb); (try clear hb2); (try clear hk); (try clear hi)))
                            go_ret
                            exact ⟨by first | rfl | (simp [errW_none, errW_some] <;> rfl) | (simp [*, errW_none, errW_some] <;> rfl), by repeat (first | (with_reducible first | exact HB.out | apply below_alloc | apply pw_below_drewN | apply below_drew1 | refine below_set ?_ GE151.out | refine below_set ?_ GE152.out | refine below_set ?_ GE153.out) | exact HB.out)⟩
                          | true => rw [e0, e1, e2] at key; cases key
            · rw [if_neg c58] at H
              have c58b0 : (t161 == (wrap64 (-t155))) = false := beq_eq_false_iff_ne.mpr c58
              have c58b1 : (t161 != (wrap64 (-t155))) = true := bne_iff_ne.mpr c58
              obtain rfl := Option.some.inj H
              have hnb219 := NB151_152.out
              have hnc219 := NB152_151.out
              have hnb220 := NB151_153.out
              have hnc220 := NB153_151.out
              have hcz221_0 : wc.cell? ⟨gb151, 0, none⟩ = some (.int .u64 a0_0) := (blk_cell BK151.out 0).trans rfl
              have hcz221_1 : wc.cell? ⟨gb151, 1, none⟩ = some (.int .u64 a0_1) := (blk_cell BK151.out 1).trans rfl
              have hcz221_2 : wc.cell? ⟨gb151, 2, none⟩ = some (.int .i64 a0_2) := (blk_cell BK151.out 2).trans rfl
              have hfz221_0 := blk_frozen BK151.out 0
              have hfz221_1 := blk_frozen BK151.out 1
              have hfz221_2 := blk_frozen BK151.out 2
              have hnb222 := NB152_153.out
              have hnc222 := NB153_152.out
              have hcz223_0 : wc.cell? ⟨gb152, 0, none⟩ = some (.int .u64 a1_0) := (blk_cell BK152.out 0).trans rfl
              have hcz223_1 : wc.cell? ⟨gb152, 1, none⟩ = some (.int .u64 a1_1) := (blk_cell BK152.out 1).trans rfl
              have hcz223_2 : wc.cell? ⟨gb152, 2, none⟩ = some (.int .i64 a1_2) := (blk_cell BK152.out 2).trans rfl
              have hfz223_0 := blk_frozen BK152.out 0
              have hfz223_1 := blk_frozen BK152.out 1
              have hfz223_2 := blk_frozen BK152.out 2
              go_wp2_with (first | (go_at_call 20; (with_reducible refine (tick_Compare.calls kj8 a1_0 a1_1 a1_2 a0_0 a0_1 a0_2 t161 _ A57.out).mono ?_); rintro e w224 ⟨rfl, hb⟩; have n0_ := Aside0.mk (blk_below (g := gb151) (o := .cells #[.int .u64 a0_0, .int .u64 a0_1, .int .i64 a0_2] 33 (0, 0)) (by (with_reducible repeat (first | refine blk_drewN ?_ _ | refine blk_drew ?_ | refine blk_alloc ?_ _)); exact BK151.out) hb); have n1_ := Aside0.mk (blk_below (g := gb152) (o := .cells #[.int .u64 a1_0, .int .u64 a1_1, .int .i64 a1_2] 33 (0, 0)) (by (with_reducible repeat (first | refine blk_drewN ?_ _ | refine blk_drew ?_ | refine blk_alloc ?_ _)); exact BK152.out) hb); have n2_ := Aside0.mk (blk_below (g := gb153) (o := .cells #[.int .u64 a2_0, .int .u64 a2_1, .int .i64 a2_2] 33 (0, 0)) (by (with_reducible repeat (first | refine blk_drewN ?_ _ | refine blk_drew ?_ | refine blk_alloc ?_ _)); exact BK153.out) hb); have n3_ := Aside0.mk (below_step (by repeat (first | (with_reducible first | exact HB.out | apply below_alloc | apply pw_below_drewN | apply below_drew1 | refine below_set ?_ GE151.out | refine below_set ?_ GE152.out | refine below_set ?_ GE153.out) | exact HB.out)) hb); clear BK151; clear BK152; clear BK153; clear HB; have BK151 := n0_; have BK152 := n1_; have BK153 := n2_; have HB := n3_; clear n0_ n1_ n2_ n3_; (try clear hb); (try clear hb2); (try clear hk); (try clear hi)))
              go_ret
              exact ⟨by first | rfl | (simp [errW_none, errW_some] <;> rfl) | (simp [*, errW_none, errW_some] <;> rfl), by repeat (first | (with_reducible first | exact HB.out | apply below_alloc | apply pw_below_drewN | apply below_drew1 | refine below_set ?_ GE151.out | refine below_set ?_ GE152.out | refine below_set ?_ GE153.out) | exact HB.out)⟩
  · replace c5 := Bool.eq_false_iff.mpr c5
    subst c5
    have H1 : (some false) = some r := by rw [if_neg (show ¬ (false = true) by decide)] at H; exact H
    clear H
    have H := H1
    clear H1
    obtain rfl := Option.some.inj H
    go_enter Try.func7, Try.ntmps7
    go_wp2_with (first | ((with_reducible refine gate_dst (N := 3) rfl ?_); refine box_event ?hg (N := 3) ?hd (cs := #[.int .u64 a0_0, .int .u64 a0_1, .int .i64 a0_2]) (t := 33) ?hr ?_; (case hd => rfl); (case hg => rfl); (case hr => first | (go_simp; done) | (go_simp; rfl)); intro gb151 hg w225 hbox hb; have n0_ := Aside0.mk (below_step (by repeat (first | (with_reducible first | exact HB.out | apply below_alloc | apply pw_below_drewN | apply below_drew1) | exact HB.out)) hb); have n1_ := Aside0.mk (hbox); have n2_ := Aside0.mk ((by rw [hg]; exact (below_size (by repeat (first | (with_reducible first | exact HB.out | apply below_alloc | apply pw_below_drewN | apply below_drew1) | exact HB.out))) : w.heap.size ≤ gb151)); have n3_ := Aside0.mk ((by rw [hg]; exact (below_size (by repeat (first | (with_reducible first | exact HB.out | apply below_alloc | apply pw_below_drewN | apply below_drew1) | exact HB.out))) : w.heap.size ≤ gb151)); clear HB; have HB := n0_; have BK151 := n1_; have GW151 := n2_; have GE151 := n3_; clear n0_ n1_ n2_ n3_; clear hb hbox hg) | ((with_reducible refine gate_dst (N := 4) rfl ?_); refine box_event ?hg (N := 4) ?hd (cs := #[.int .u64 a1_0, .int .u64 a1_1, .int .i64 a1_2]) (t := 33) ?hr ?_; (case hd => rfl); (case hg => rfl); (case hr => first | (go_simp; done) | (go_simp; rfl)); intro gb152 hg w226 hbox hb; have n0_ := Aside0.mk (blk_below (g := gb151) (o := .cells #[.int .u64 a0_0, .int .u64 a0_1, .int .i64 a0_2] 33 (0, 0)) (by (with_reducible repeat (first | refine blk_drewN ?_ _ | refine blk_drew ?_ | refine blk_alloc ?_ _)); exact BK151.out) hb); have n1_ := Aside0.mk (below_step (by repeat (first | (with_reducible first | exact HB.out | apply below_alloc | apply pw_below_drewN | apply below_drew1 | refine below_set ?_ GE151.out) | exact HB.out)) hb); have n2_ := Aside0.mk (hbox); have n3_ := Aside0.mk ((by rw [hg]; exact (below_size (by repeat (first | (with_reducible first | exact HB.out | apply below_alloc | apply pw_below_drewN | apply below_drew1 | refine below_set ?_ GE151.out) | exact HB.out))) : w.heap.size ≤ gb152)); have n4_ := Aside0.mk ((by rw [hg]; exact (below_size (by repeat (first | (with_reducible first | exact HB.out | apply below_alloc | apply pw_below_drewN | apply below_drew1 | refine below_set ?_ GE151.out) | exact HB.out))) : w.heap.size ≤ gb152)); have n5_ := Aside0.mk ((by rw [hg]; exact Nat.ne_of_lt (blk_lt (g := gb151) (o := .cells #[.int .u64 a0_0, .int .u64 a0_1, .int .i64 a0_2] 33 (0, 0)) (by (with_reducible repeat (first | refine blk_drewN ?_ _ | refine blk_drew ?_ | refine blk_alloc ?_ _)); exact BK151.out)) : gb151 ≠ gb152)); have n6_ := Aside0.mk ((by rw [hg]; exact Nat.ne_of_gt (blk_lt (g := gb151) (o := .cells #[.int .u64 a0_0, .int .u64 a0_1, .int .i64 a0_2] 33 (0, 0)) (by (with_reducible repeat (first | refine blk_drewN ?_ _ | refine blk_drew ?_ | refine blk_alloc ?_ _)); exact BK151.out)) : gb152 ≠ gb151)); clear BK151; clear HB; have BK151 := n0_; have HB := n1_; have BK152 := n2_; have GW152 := n3_; have GE152 := n4_; have NB151_152 := n5_; have NB152_151 := n6_; clear n0_ n1_ n2_ n3_ n4_ n5_ n6_; clear hb hbox hg) | ((with_reducible refine gate_dst (N := 5) rfl ?_); refine box_event ?hg (N := 5) ?hd (cs := #[.int .u64 a2_0, .int .u64 a2_1, .int .i64 a2_2]) (t := 33) ?hr ?_; (case hd => rfl); (case hg => rfl); (case hr => first | (go_simp; done) | (go_simp; rfl)); intro gb153 hg w227 hbox hb; have n0_ := Aside0.mk (blk_below (g := gb151) (o := .cells #[.int .u64 a0_0, .int .u64 a0_1, .int .i64 a0_2] 33 (0, 0)) (by (with_reducible repeat (first | refine blk_drewN ?_ _ | refine blk_drew ?_ | refine blk_alloc ?_ _)); exact BK151.out) hb); have n1_ := Aside0.mk (blk_below (g := gb152) (o := .cells #[.int .u64 a1_0, .int .u64 a1_1, .int .i64 a1_2] 33 (0, 0)) (by (with_reducible repeat (first | refine blk_drewN ?_ _ | refine blk_drew ?_ | refine blk_alloc ?_ _)); exact BK152.out) hb); have n2_ := Aside0.mk (below_step (by repeat (first | (with_reducible first | exact HB.out | apply below_alloc | apply pw_below_drewN | apply below_drew1 | refine below_set ?_ GE151.out | refine below_set ?_ GE152.out) | exact HB.out)) hb); have n3_ := Aside0.mk (hbox); have n4_ := Aside0.mk ((by rw [hg]; exact (below_size (by repeat (first | (with_reducible first | exact HB.out | apply below_alloc | apply pw_below_drewN | apply below_drew1 | refine below_set ?_ GE151.out | refine below_set ?_ GE152.out) | exact HB.out))) : w.heap.size ≤ gb153)); have n5_ := Aside0.mk ((by rw [hg]; exact (below_size (by repeat (first | (with_reducible first | exact HB.out | apply below_alloc | apply pw_below_drewN | apply below_drew1 | refine below_set ?_ GE151.out | refine below_set ?_ GE152.out) | exact HB.out))) : w.heap.size ≤ gb153)); have n6_ := Aside0.mk ((by rw [hg]; exact Nat.ne_of_lt (blk_lt (g := gb151) (o := .cells #[.int .u64 a0_0, .int .u64 a0_1, .int .i64 a0_2] 33 (0, 0)) (by (with_reducible repeat (first | refine blk_drewN ?_ _ | refine blk_drew ?_ | refine blk_alloc ?_ _)); exact BK151.out)) : gb151 ≠ gb153)); have n7_ := Aside0.mk ((by rw [hg]; exact Nat.ne_of_gt (blk_lt (g := gb151) (o := .cells #[.int .u64 a0_0, .int .u64 a0_1, .int .i64 a0_2] 33 (0, 0)) (by (with_reducible repeat (first | refine blk_drewN ?_ _ | refine blk_drew ?_ | refine blk_alloc ?_ _)); exact BK151.out)) : gb153 ≠ gb151)); have n8_ := Aside0.mk ((by rw [hg]; exact Nat.ne_of_lt (blk_lt (g := gb152) (o := .cells #[.int .u64 a1_0, .int .u64 a1_1, .int .i64 a1_2] 33 (0, 0)) (by (with_reducible repeat (first | refine blk_drewN ?_ _ | refine blk_drew ?_ | refine blk_alloc ?_ _)); exact BK152.out)) : gb152 ≠ gb153)); have n9_ := Aside0.mk ((by rw [hg]; exact Nat.ne_of_gt (blk_lt (g := gb152) (o := .cells #[.int .u64 a1_0, .int .u64 a1_1, .int .i64 a1_2] 33 (0, 0)) (by (with_reducible repeat (first | refine blk_drewN ?_ _ | refine blk_drew ?_ | refine blk_alloc ?_ _)); exact BK152.out)) : gb153 ≠ gb152)); clear BK151; clear BK152; clear HB; have BK151 := n0_; have BK152 := n1_; have HB := n2_; have BK153 := n3_; have GW153 := n4_; have GE153 := n5_; have NB151_153 := n6_; have NB153_151 := n7_; have NB152_153 := n8_; have NB153_152 := n9_; clear n0_ n1_ n2_ n3_ n4_ n5_ n6_ n7_ n8_ n9_; clear hb hbox hg) | ((with_reducible refine gate_callee (f := 11) rfl ?_); refine goesL_ (some 11) rfl rfl Try.func11 (by kernel_rfl) rfl #[] rfl (by (try simp only [List.map_toArray, List.map_cons, List.map_nil]); first | done | rfl | (simp only [List.length_drop, List.length_take]; rfl)) ?_; (with_reducible refine (complinelaw01_works.calls k  false _ A4.out).mono ?_); rintro e w228 ⟨rfl, hb⟩; refine ⟨_, rfl, ?_⟩; have n0_ := Aside0.mk (blk_below (g := gb151) (o := .cells #[.int .u64 a0_0, .int .u64 a0_1, .int .i64 a0_2] 33 (0, 0)) (by (with_reducible repeat (first | refine blk_drewN ?_ _ | refine blk_drew ?_ | refine blk_alloc ?_ _)); exact BK151.out) hb); have n1_ := Aside0.mk (blk_below (g := gb152) (o := .cells #[.int .u64 a1_0, .int .u64 a1_1, .int .i64 a1_2] 33 (0, 0)) (by (with_reducible repeat (first | refine blk_drewN ?_ _ | refine blk_drew ?_ | refine blk_alloc ?_ _)); exact BK152.out) hb); have n2_ := Aside0.mk (blk_below (g := gb153) (o := .cells #[.int .u64 a2_0, .int .u64 a2_1, .int .i64 a2_2] 33 (0, 0)) (by (with_reducible repeat (first | refine blk_drewN ?_ _ | refine blk_drew ?_ | refine blk_alloc ?_ _)); exact BK153.out) hb); have n3_ := Aside0.mk (below_step (by repeat (first | (with_reducible first | exact HB.out | apply below_alloc | apply pw_below_drewN | apply below_drew1 | refine below_set ?_ GE151.out | refine below_set ?_ GE152.out | refine below_set ?_ GE153.out) | exact HB.out)) hb); clear BK151; clear BK152; clear BK153; clear HB; have BK151 := n0_; have BK152 := n1_; have BK153 := n2_; have HB := n3_; clear n0_ n1_ n2_ n3_; (try clear hb); (try clear hb2); (try clear hk); (try clear hi)))
    go_ret
    exact ⟨by first | rfl | (simp [errW_none, errW_some] <;> rfl) | (simp [*, errW_none, errW_some] <;> rfl), by repeat (first | (with_reducible first | exact HB.out | apply below_alloc | apply pw_below_drewN | apply below_drew1 | refine below_set ?_ GE151.out | refine below_set ?_ GE152.out | refine below_set ?_ GE153.out) | exact HB.out)⟩

end Go.Proofs.Ytfeehajeegeacaa.GTickOrder
