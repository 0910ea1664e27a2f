/-
  Chains in memory: Insert, Drop and Last.
  No condition.
-/
import Derived.Test.YtokhbiaaaflphaaChainA
namespace Go.Proofs.Ytokhbiaaaflphaa.ChainB
open Go.RowKit Go.Proofs.Ytokhbiaaaflphaa.ChainA Go.Proofs.Ytokhbiaaaflphaa.GListqPlays Go.Proofs.YtokhbiaaaflphaaW.PrintWords Go.Proofs.YtokhbiaaaflphaaW.PrintLast Go.Proofs.YtokhbiaaaflphaaW.PrintMore
set_option linter.unusedVariables false
set_option linter.unusedSimpArgs false
set_option maxRecDepth 100000 in
set_option maxHeartbeats 4000000 in
theorem insert_ok (g b : Nat) (p l : Nat) (x y j : Nat) (ns : List S94) (w : World) (h : Ch w g b p l ns) (hl : ns.length = p + l) (hx : x < p) (hy : y < p) (hin : (nd ns x).f1 = -1) (hj : (nd ns y).f1 = j) (q : Nat) (hq : q < ns.length) (hp : (nd ns y).f0.f1 = q) :
    Calls Try.prog 36 #[.pointer (some ⟨g, 0, none⟩), .int .i64 x, .int .i64 y] w fun e w' => e = .returned (.int .i64 0) ∧ Ch w' g b p l (putN ns x y q j) ∧ Wr b w w' := by
  have c2 := h.c2
  have a2 := h.n2 x (by omega)
  have b2 := h.n2 y (by omega)
  have hn := h.2.2.2
  rw [hin] at a2
  rw [hj] at b2
  have hb : ((j : Int) == -1) = false := beq_eq_false_iff_ne.mpr (by omega)
  go_enter Try.func36, Try.ntmps36
  go_wp2_with (first | (go_at_call 45; with_reducible refine (place_yes g b p l x ns _ h (by omega) (by omega)).mono ?_; rintro e w2 ⟨rfl, rfl⟩) | (go_at_call 45; with_reducible refine (place_yes g b p l y ns _ h (by omega) (by omega)).mono ?_; rintro e w2 ⟨rfl, rfl⟩))
  refine (put_calls g b p l ns x y q j _ (by omega) (by omega) hq hp h).mono ?_
  rintro e w3 ⟨rfl, h3, k3⟩
  simp only []
  go_wp2_with fail
  go_ret
  exact ⟨rfl, h3, k3⟩
set_option maxRecDepth 100000 in
set_option maxHeartbeats 4000000 in
theorem insert_arg (g b : Nat) (p l : Int) (x y : Int) (ns : List S94) (w : World) (h : Ch w g b p l ns) (hn : ¬ (0 ≤ x ∧ x < p) ∨ ¬ (0 ≤ y ∧ y < p)) :
    Calls Try.prog 36 #[.pointer (some ⟨g, 0, none⟩), .int .i64 x, .int .i64 y] w fun e w' => e = .returned (.int .i64 1) ∧ w' = w := by
  by_cases hj : 0 ≤ x ∧ x < p
  · have hx : ¬ (0 ≤ y ∧ y < p) := hn.resolve_left (fun q => q hj)
    go_enter Try.func36, Try.ntmps36
    go_wp2_with (first | (go_at_call 45; with_reducible refine (place_yes g b p l x ns _ h hj.1 hj.2).mono ?_; rintro e w1 ⟨rfl, rfl⟩) | (go_at_call 45; with_reducible refine (place_no g b p l y ns _ h hx).mono ?_; rintro e w2 ⟨rfl, rfl⟩))
    go_ret
    exact ⟨rfl, rfl⟩
  · go_enter Try.func36, Try.ntmps36
    go_wp2_with (go_at_call 45; with_reducible refine (place_no g b p l x ns _ h hj).mono ?_; rintro e w1 ⟨rfl, rfl⟩)
    go_ret
    exact ⟨rfl, rfl⟩
set_option maxRecDepth 100000 in
set_option maxHeartbeats 4000000 in
theorem insert_twice (g b : Nat) (p l : Nat) (x y : Nat) (ns : List S94) (w : World) (h : Ch w g b p l ns) (hl : ns.length = p + l) (hx : x < p) (hy : y < p) (hin : (nd ns x).f1 ≠ -1) :
    Calls Try.prog 36 #[.pointer (some ⟨g, 0, none⟩), .int .i64 x, .int .i64 y] w fun e w' => e = .returned (.int .i64 4) ∧ w' = w := by
  have c2 := h.c2
  have a2 := h.n2 x (by omega)
  have hn := h.2.2.2
  have hb : ((nd ns x).f1 != -1) = true := bne_iff_ne.mpr hin
  go_enter Try.func36, Try.ntmps36
  go_wp2_with (first | (go_at_call 45; with_reducible refine (place_yes g b p l x ns _ h (by omega) (by omega)).mono ?_; rintro e w2 ⟨rfl, rfl⟩) | (go_at_call 45; with_reducible refine (place_yes g b p l y ns _ h (by omega) (by omega)).mono ?_; rintro e w2 ⟨rfl, rfl⟩))
  go_ret
  exact ⟨rfl, rfl⟩
set_option maxRecDepth 100000 in
set_option maxHeartbeats 4000000 in
theorem insert_none (g b : Nat) (p l : Nat) (x y : Nat) (ns : List S94) (w : World) (h : Ch w g b p l ns) (hl : ns.length = p + l) (hx : x < p) (hy : y < p) (hin : (nd ns x).f1 = -1) (hj : (nd ns y).f1 = -1) :
    Calls Try.prog 36 #[.pointer (some ⟨g, 0, none⟩), .int .i64 x, .int .i64 y] w fun e w' => e = .returned (.int .i64 5) ∧ w' = w := by
  have c2 := h.c2
  have a2 := h.n2 x (by omega)
  have b2 := h.n2 y (by omega)
  have hn := h.2.2.2
  rw [hin] at a2
  rw [hj] at b2
  go_enter Try.func36, Try.ntmps36
  go_wp2_with (first | (go_at_call 45; with_reducible refine (place_yes g b p l x ns _ h (by omega) (by omega)).mono ?_; rintro e w2 ⟨rfl, rfl⟩) | (go_at_call 45; with_reducible refine (place_yes g b p l y ns _ h (by omega) (by omega)).mono ?_; rintro e w2 ⟨rfl, rfl⟩))
  go_ret
  exact ⟨rfl, rfl⟩
set_option maxRecDepth 100000 in
set_option maxHeartbeats 4000000 in
theorem last_yes (g b : Nat) (p l : Nat) (j : Nat) (ns : List S94) (w : World) (h : Ch w g b p l ns) (hl : ns.length = p + l) (hj : j < l) (q : Nat) (hq : (nd ns (p + j)).f0.f1 = q) (hqp : q < p) :
    Calls Try.prog 48 #[.pointer (some ⟨g, 0, none⟩), .int .i64 j] w fun e w' => e = .returned (.tuple #[.int .i64 q, .bool true]) ∧ ∃ n, w' = w.drewN n := by
  have c0 := h.c0
  have c2 := h.c2
  have a0 := h.n1 (p + j) (by omega)
  have hn := h.2.2.2
  rw [hq] at a0
  go_enter Try.func48, Try.ntmps48
  go_wp2_with (first | (go_at_call 53; with_reducible refine (list_yes g b p l j ns _ h (by omega) (by omega)).mono ?_; rintro e w2 ⟨rfl, rfl⟩))
  have g0 : (0 : Int) ≤ (p : Int) + (j : Int) := by omega
  have g1 : (p : Int) + (j : Int) < (ns.length : Int) := by omega
  have e2 : ((p : Int) + (j : Int)).toNat = p + j := by omega
  go_quiet ((go_at_call 60; refine Calls.quiet_of_same (told_yes g b p l q ns _ h (by omega) (by omega))))
  go_wp2_with fail
  go_ret2
  exact ⟨rfl, _, rfl⟩
set_option maxRecDepth 100000 in
set_option maxHeartbeats 4000000 in
theorem last_end (g b : Nat) (p l : Nat) (j : Nat) (ns : List S94) (w : World) (h : Ch w g b p l ns) (hl : ns.length = p + l) (hj : j < l) (q : Nat) (hq : (nd ns (p + j)).f0.f1 = q) (hqp : p ≤ q) :
    Calls Try.prog 48 #[.pointer (some ⟨g, 0, none⟩), .int .i64 j] w fun e w' => e = .returned (.tuple #[.int .i64 0, .bool false]) ∧ ∃ n, w' = w.drewN n := by
  have c0 := h.c0
  have c2 := h.c2
  have a0 := h.n1 (p + j) (by omega)
  have hn := h.2.2.2
  rw [hq] at a0
  go_enter Try.func48, Try.ntmps48
  go_wp2_with (first | (go_at_call 53; with_reducible refine (list_yes g b p l j ns _ h (by omega) (by omega)).mono ?_; rintro e w2 ⟨rfl, rfl⟩))
  have g0 : (0 : Int) ≤ (p : Int) + (j : Int) := by omega
  have g1 : (p : Int) + (j : Int) < (ns.length : Int) := by omega
  have e2 : ((p : Int) + (j : Int)).toNat = p + j := by omega
  go_quiet ((go_at_call 60; refine Calls.quiet_of_same (told_no g b p l q ns _ h (by omega))))
  go_wp2_with fail
  go_ret2
  exact ⟨rfl, _, rfl⟩
set_option maxRecDepth 100000 in
set_option maxHeartbeats 4000000 in
theorem last_none (g b : Nat) (p l : Nat) (j : Int) (ns : List S94) (w : World) (h : Ch w g b p l ns) (hj : ¬ (0 ≤ j ∧ j < l)) :
    Calls Try.prog 48 #[.pointer (some ⟨g, 0, none⟩), .int .i64 j] w fun e w' => e = .returned (.tuple #[.int .i64 0, .bool false]) ∧ ∃ n, w' = w.drewN n := by
  go_enter Try.func48, Try.ntmps48
  go_wp2_with (go_at_call 53; with_reducible refine (list_no g b p l j ns _ h hj).mono ?_; rintro e w2 ⟨rfl, rfl⟩)
  go_ret2
  exact ⟨rfl, 0, rfl⟩
set_option maxRecDepth 100000 in
set_option maxHeartbeats 4000000 in
theorem drop_arg (g b : Nat) (p l : Int) (x : Int) (ns : List S94) (w : World) (h : Ch w g b p l ns) (hx : ¬ (0 ≤ x ∧ x < p)) :
    Calls Try.prog 32 #[.pointer (some ⟨g, 0, none⟩), .int .i64 x] w fun e w' => e = .returned (.int .i64 1) ∧ w' = w := by
  go_enter Try.func32, Try.ntmps32
  go_wp2_with (go_at_call 45; with_reducible refine (place_no g b p l x ns _ h hx).mono ?_; rintro e w2 ⟨rfl, rfl⟩)
  go_ret
  exact ⟨rfl, rfl⟩
set_option maxRecDepth 100000 in
set_option maxHeartbeats 4000000 in
theorem drop_none (g b : Nat) (p l : Nat) (x : Nat) (ns : List S94) (w : World) (h : Ch w g b p l ns) (hl : ns.length = p + l) (hx : x < p) (hin : (nd ns x).f1 = -1) :
    Calls Try.prog 32 #[.pointer (some ⟨g, 0, none⟩), .int .i64 x] w fun e w' => e = .returned (.int .i64 5) ∧ Below w.heap.size w w' := by
  have hu62 := Try.underlying94
  have hu60 := Try.underlying92
  have c2 := h.c2
  have a0 := h.n0 x (by omega)
  have a1 := h.n1 x (by omega)
  have a2 := h.n2 x (by omega)
  have hn := h.2.2.2
  rw [hin] at a2
  go_enter Try.func32, Try.ntmps32
  go_wp2_with (go_at_call 45; with_reducible refine (place_yes g b p l x ns _ h (by omega) (by omega)).mono ?_; rintro e w2 ⟨rfl, rfl⟩)
  go_ret
  exact ⟨rfl, (Below.refl _ _).alloc (Nat.le_refl _) _⟩
/-- Behind a drop: x, that stood between q1 and q2. -/
def dropN (ns : List S94) (x q1 q2 : Nat) : List S94 := sIn (sPrev (sNext (sPrev (sNext ns q1 q2) q2 q1) x x) x x) x (-1)
theorem dropN_len (ns x q1 q2) : (dropN ns x q1 q2).length = ns.length := by simp only [dropN, sIn_len, sPrev_len, sNext_len]
set_option maxRecDepth 100000 in
set_option maxHeartbeats 4000000 in
theorem drop_ok (g b : Nat) (p l : Nat) (x : Nat) (ns : List S94) (w : World) (h : Ch w g b p l ns) (hl : ns.length = p + l) (hx : x < p) (hin : (nd ns x).f1 ≠ -1) (q1 q2 : Nat) (hq1 : (nd ns x).f0.f1 = q1) (hq2 : (nd ns x).f0.f0 = q2) (h1 : q1 < ns.length) (h2 : q2 < ns.length) :
    Calls Try.prog 32 #[.pointer (some ⟨g, 0, none⟩), .int .i64 x] w fun e w' => e = .returned (.int .i64 0) ∧ Ch w' g b p l (dropN ns x q1 q2) ∧ Wr b w w' := by
  have hu62 := Try.underlying94
  have hu60 := Try.underlying92
  have c2 := h.c2
  have a0 := h.n0 x (by omega)
  have a1 := h.n1 x (by omega)
  have a2 := h.n2 x (by omega)
  have hn := h.2.2.2
  have hb : ((nd ns x).f1 == -1) = false := beq_eq_false_iff_ne.mpr hin
  rw [hq2] at a0
  rw [hq1] at a1
  go_enter Try.func32, Try.ntmps32
  go_wp2_with (go_at_call 45; with_reducible refine (place_yes g b p l x ns _ h (by omega) (by omega)).mono ?_; rintro e w2 ⟨rfl, rfl⟩)
  have hwr : Wr b w2 (w2.alloc (Obj.cells #[Value.int IntKind.i64 q2, Value.int IntKind.i64 q1, Value.int IntKind.i64 (nd ns x).f1] 94)) := Wr.of_below (by have := h.blt; omega) ((Below.refl _ _).alloc (Nat.le_refl _) _)
  refine (join_calls g b p l ns q1 q2 _ h1 h2 (h.alloc _)).mono ?_
  rintro e w3 ⟨rfl, h3, k3⟩
  clear c2 a0 a1 a2
  have d2 := h3.c2
  simp only [sNext_len, sPrev_len] at d2
  have b0 := h3.n0 x (by simp only [sNext_len, sPrev_len]; omega)
  have b1 := h3.n1 x (by simp only [sNext_len, sPrev_len]; omega)
  have b2 := h3.n2 x (by simp only [sNext_len, sPrev_len]; omega)
  have f0 := blk_frozen h3.2.1 (x * 3)
  have f1 := blk_frozen h3.2.1 (x * 3 + 1)
  have f2 := blk_frozen h3.2.1 (x * 3 + 2)
  simp only []
  go_wp2_with fail
  go_ret
  exact ⟨rfl, ((h3.s0 x (by simp only [sNext_len, sPrev_len]; omega) x).s1 x (by simp only [sNext_len, sPrev_len]; omega) x).s2 x (by simp only [sNext_len, sPrev_len]; omega) (-1), (((hwr.trans k3).set _ _).set _ _).set _ _⟩
end Go.Proofs.Ytokhbiaaaflphaa.ChainB
