/-
  Chains: the law's works.
  No condition.
-/
import Derived.Test.YtfnppjhkhdfmdaaChainU
namespace Go.Proofs.Ytfnppjhkhdfmdaa.ChainV
open Go.RowKit Go.Proofs.Ytfnppjhkhdfmdaa.ChainA Go.Proofs.Ytfnppjhkhdfmdaa.ChainM Go.Proofs.Ytfnppjhkhdfmdaa.ChainN Go.Proofs.Ytfnppjhkhdfmdaa.ChainF Go.Proofs.Ytfnppjhkhdfmdaa.ChainG Go.Proofs.Ytfnppjhkhdfmdaa.ChainP Go.Proofs.Ytfnppjhkhdfmdaa.ChainQ Go.Proofs.Ytfnppjhkhdfmdaa.ChainT Go.Proofs.Ytfnppjhkhdfmdaa.ChainU Go.Proofs.Ytfnppjhkhdfmdaa.GChainPlays Go.Proofs.YtfnppjhkhdfmdaaW.PrintWords Go.Proofs.YtfnppjhkhdfmdaaW.PrintLast Go.Proofs.YtfnppjhkhdfmdaaW.PrintMore
set_option linter.unusedVariables false
set_option linter.unusedSimpArgs false
section
variable {w : World} {g b p : Nat} {L : List (List Nat)}
theorem app_as {j x : Int} {L' : List (List Nat)} {c : Int} (hm : mApp p L j x = (L', c)) (h : Chn w g b p L) : Calls Try.prog 24 #[.pointer (some ⟨g, 0, none⟩), .int .i64 j, .int .i64 x] w fun e w' => e = .returned (.int .i64 c) ∧ Chn w' g b p L' ∧ Wr b w w' := by
  have := app_calls x j h
  rw [hm] at this; exact this
theorem ins_as {x y : Int} {L' : List (List Nat)} {c : Int} (hm : mIns p L x y = (L', c)) (h : Chn w g b p L) : Calls Try.prog 19 #[.pointer (some ⟨g, 0, none⟩), .int .i64 x, .int .i64 y] w fun e w' => e = .returned (.int .i64 c) ∧ Chn w' g b p L' ∧ Wr b w w' := by
  have := ins_calls x y h
  rw [hm] at this; exact this
theorem dr_as {x : Int} {L' : List (List Nat)} {c : Int} (hm : mDrop p L x = (L', c)) (h : Chn w g b p L) : Calls Try.prog 20 #[.pointer (some ⟨g, 0, none⟩), .int .i64 x] w fun e w' => e = .returned (.int .i64 c) ∧ Chn w' g b p L' ∧ Wr b w w' := by
  have := dr_calls x h
  rw [hm] at this; exact this
theorem spl_as {t f : Int} {L' : List (List Nat)} {c : Int} (hm : mSpl L t f = (L', c)) (h : Chn w g b p L) : Calls Try.prog 21 #[.pointer (some ⟨g, 0, none⟩), .int .i64 t, .int .i64 f] w fun e w' => e = .returned (.int .i64 c) ∧ Chn w' g b p L' ∧ Wr b w w' := by
  have := spl_calls g b p t f L w h
  rw [hm] at this; exact this
end
/-- Chains of the call's own. -/
structure WS (w W : World) (g b p : Nat) (L : List (List Nat)) : Prop where
  chn : Chn W g b p L
  lo : w.heap.size ≤ b
  bel : Below w.heap.size w W
theorem WS.below {w W W' : World} {g b p : Nat} {L : List (List Nat)} (h : WS w W g b p L) (k : Below W.heap.size W W') : WS w W' g b p L := ⟨h.chn.below k, h.lo, h.bel.trans (k.mono h.bel.size)⟩
theorem WS.wr {w W W' : World} {g b p : Nat} {L L' : List (List Nat)} (h : WS w W g b p L) (c : Chn W' g b p L') (k : Wr b W W') : WS w W' g b p L' := ⟨c, h.lo, h.bel.trans (k.1.mono h.lo)⟩
theorem WS.alloc {w W : World} {g b p : Nat} {L : List (List Nat)} (h : WS w W g b p L) (o : Obj) : WS w (W.alloc o) g b p L := h.below ((Below.refl _ _).alloc (Nat.le_refl _) _)
theorem row_new (W : World) (l : List Nat) (hl : l.length ≤ 1000000) : Row (W.alloc (.cells ((toI l).map (Value.int .i64)).toArray 3)) (.slice (some ⟨W.heap.size, 0, none⟩) l.length l.length) l := by
  refine ⟨_, _, rfl, Nat.le_refl _, by rw [toI_len], by omega, fun _ => ⟨_, rfl, fun j x hx => ⟨[.int .i64 x], rfl, rfl, fun i u hu => ?_⟩⟩⟩
  obtain ⟨rfl, rfl⟩ : i = 0 ∧ u = .int .i64 x := by
    cases i with
    | zero => simp at hu; exact ⟨rfl, hu.symm⟩
    | succ i => simp at hu
  have hb := blk_cell (blk_new W (.cells ((toI l).map (Value.int .i64)).toArray 3)) j
  have e : ((Addr.mk W.heap.size 0 none).add (j * 1)).add 0 = ⟨W.heap.size, j, none⟩ := by
    rw [ChainA.adz, Nat.mul_one, Addr.add_zero']
  show (W.alloc (.cells ((toI l).map (Value.int .i64)).toArray 3)).cell? (((Addr.mk W.heap.size 0 none).add (j * 1 + 0))) = _
  rw [Nat.add_zero, Nat.mul_one, ChainA.adz, hb]
  simp [hx]
set_option maxRecDepth 100000 in
set_option maxHeartbeats 4000000 in
theorem works_calls (w : World) : Calls Try.prog 8 #[] w fun e w' => e = .returned (.bool true) ∧ Below w.heap.size w w' := by
  go_enter Try.func8, Try.ntmps8
  go_wp2_with fail
  refine (new_yes 6 2 _ (by unfold Bad; omega)).mono ?_
  rintro e w1 ⟨g, b, rfl, hc, hg, hb, k1⟩
  have s1 : WS w w1 g b 6 [[], []] := ⟨hc, hb, k1⟩
  clear hc hg hb k1
  simp only []
  go_wp2_with fail
  refine (app_as (L' := [[3], []]) (c := 0) (by decide) s1.chn).mono ?_
  rintro e w2 ⟨rfl, hc, k⟩
  have s2 := s1.wr hc k
  clear hc k s1
  simp only []
  go_wp2_with fail
  refine (app_as (L' := [[3, 5], []]) (c := 0) (by decide) s2.chn).mono ?_
  rintro e w3 ⟨rfl, hc, k⟩
  have s3 := s2.wr hc k
  clear hc k s2
  simp only []
  go_wp2_with fail
  refine (ins_as (L' := [[3, 4, 5], []]) (c := 0) (by decide) s3.chn).mono ?_
  rintro e w4 ⟨rfl, hc, k⟩
  have s4 := s3.wr hc k
  clear hc k s3
  simp only []
  go_wp2_with fail
  refine (all_as (l := [3, 4, 5]) (by decide) s4.chn).mono ?_
  rintro e w5 ⟨r, rfl, hr, k⟩
  have s5 := s4.below k
  clear k s4
  simp only []
  go_wp2_with fail
  have hr2 := hr.below ((Below.refl _ _).alloc (Nat.le_refl _) (.cells #[.int .i64 3, .int .i64 4, .int .i64 5] 3))
  have hl2 := row_new w5 [3, 4, 5] (by decide)
  replace s5 := s5.alloc (.cells #[.int .i64 3, .int .i64 4, .int .i64 5] 3)
  refine (same_as (by decide) hr2 hl2).mono ?_
  rintro e w6 ⟨rfl, k⟩
  have s6 := s5.below k
  clear k s5
  clear hr hr2 hl2
  simp only []
  go_wp2_with fail
  refine (next_as (a := 5) (c := true) (by decide) s6.chn).mono ?_
  rintro e w' ⟨rfl, rfl⟩
  simp only []
  go_wp2_with fail
  refine (prev_as (a := 0) (c := false) (by decide) s6.chn).mono ?_
  rintro e w' ⟨rfl, rfl⟩
  simp only []
  go_wp2_with fail
  refine (first_as (a := 3) (c := true) (by decide) s6.chn).mono ?_
  rintro e w7 ⟨rfl, k⟩
  have s7 := s6.below k
  clear k s6
  simp only []
  go_wp2_with fail
  refine (last_as (a := 5) (c := true) (by decide) s7.chn).mono ?_
  rintro e w8 ⟨rfl, k⟩
  have s8 := s7.below k
  clear k s7
  simp only []
  go_wp2_with fail
  refine (spl_as (L' := [[], [3, 4, 5]]) (c := 0) (by decide) s8.chn).mono ?_
  rintro e w9 ⟨rfl, hc, k⟩
  have s9 := s8.wr hc k
  clear hc k s8
  simp only []
  go_wp2_with fail
  refine (which_as (a := 1) (c := true) (by decide) s9.chn).mono ?_
  rintro e w' ⟨rfl, rfl⟩
  simp only []
  go_wp2_with fail
  refine (dr_as (L' := [[], [3, 5]]) (c := 0) (by decide) s9.chn).mono ?_
  rintro e w10 ⟨rfl, hc, k⟩
  have s10 := s9.wr hc k
  clear hc k s9
  simp only []
  go_wp2_with fail
  refine (all_as (l := [3, 5]) (by decide) s10.chn).mono ?_
  rintro e w11 ⟨r, rfl, hr, k⟩
  have s11 := s10.below k
  clear k s10
  simp only []
  go_wp2_with fail
  have hr2 := hr.below ((Below.refl _ _).alloc (Nat.le_refl _) (.cells #[.int .i64 3, .int .i64 5] 3))
  have hl2 := row_new w11 [3, 5] (by decide)
  replace s11 := s11.alloc (.cells #[.int .i64 3, .int .i64 5] 3)
  refine (same_as (by decide) hr2 hl2).mono ?_
  rintro e w12 ⟨rfl, k⟩
  have s12 := s11.below k
  clear k s11
  clear hr hr2 hl2
  simp only []
  go_wp2_with fail
  refine (dr_as (L' := [[], [3, 5]]) (c := 5) (by decide) s12.chn).mono ?_
  rintro e w13 ⟨rfl, hc, k⟩
  have s13 := s12.wr hc k
  clear hc k s12
  simp only []
  go_wp2_with fail
  go_ret
  exact ⟨rfl, s13.bel⟩
end Go.Proofs.Ytfnppjhkhdfmdaa.ChainV
