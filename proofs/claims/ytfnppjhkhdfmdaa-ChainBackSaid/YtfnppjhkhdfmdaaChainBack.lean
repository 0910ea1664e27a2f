/-
  Chains: the law ChainBack, walked.
  No condition.
-/
import Derived.Test.YtfnppjhkhdfmdaaChainX
namespace Go.Proofs.Ytfnppjhkhdfmdaa.ChainBack
open Go.RowKit Go.Proofs.Ytfnppjhkhdfmdaa.ChainA Go.Proofs.Ytfnppjhkhdfmdaa.ChainM Go.Proofs.Ytfnppjhkhdfmdaa.ChainN Go.Proofs.Ytfnppjhkhdfmdaa.ChainF Go.Proofs.Ytfnppjhkhdfmdaa.ChainG Go.Proofs.Ytfnppjhkhdfmdaa.ChainP Go.Proofs.Ytfnppjhkhdfmdaa.ChainQ Go.Proofs.Ytfnppjhkhdfmdaa.ChainT Go.Proofs.Ytfnppjhkhdfmdaa.ChainU Go.Proofs.Ytfnppjhkhdfmdaa.ChainV Go.Proofs.Ytfnppjhkhdfmdaa.ChainX Go.Proofs.Ytfnppjhkhdfmdaa.GChainPlays Go.Proofs.YtfnppjhkhdfmdaaW.PrintWords Go.Proofs.YtfnppjhkhdfmdaaW.PrintLast Go.Proofs.YtfnppjhkhdfmdaaW.PrintMore
set_option linter.unusedVariables false
set_option linter.unusedSimpArgs false
set_option maxRecDepth 100000 in
set_option maxHeartbeats 4000000 in
theorem back_calls (p l : Int) (A : Option Addr) (cap : Nat) (ls : List S33) (x : Int) (y : Int) (z : Int) (w : World) (hC : Kd.C k33 w A ls.length ls) (hmx : ls.length ≤ 140737488355328) :
    Calls Try.prog 6 #[.int .i64 p, .int .i64 l, .slice A ls.length cap, .int .i64 x, .int .i64 y, .int .i64 z] w fun e w' => e = .returned (.bool true) ∧ Below w.heap.size w w' := by
  have hu27 := Try.underlying27
  by_cases hlen : 40 < ls.length
  · have d0 : decide ((40 : Int) < (ls.length : Int)) = true := decide_eq_true (by omega)
    go_enter Try.func6, Try.ntmps6
    go_wp2_with fail
    refine (works_calls _).mono ?_
    rintro e w1 ⟨rfl, k1⟩
    simp only []
    go_wp2_with fail
    go_ret
    exact ⟨rfl, k1⟩
  have d0 : decide ((40 : Int) < (ls.length : Int)) = false := decide_eq_false (by omega)
  go_enter Try.func6, Try.ntmps6
  go_wp2_with fail
  refine (works_calls _).mono ?_
  rintro e w1 ⟨rfl, k1⟩
  simp only []
  go_wp2_with fail
  by_cases hbad : Bad p l
  · refine (made_no p l A cap ls _ hbad hmx).mono ?_
    rintro e w2 ⟨A0, c0, rfl, k2⟩
    simp only []
    go_wp2_with fail
    go_ret
    exact ⟨rfl, (k1.trans (k2.mono k1.size)).alloc (by have := k1.size; have := k2.size; omega) _⟩
  refine (made_yes p l A cap ls _ hbad (Kd.C_below hC k1) hmx).mono ?_
  rintro e w2 ⟨g, b, v, rfl, hc, hr, hg, hb, k2⟩
  obtain ⟨pn, rfl⟩ : ∃ n : Nat, p = n := ⟨p.toNat, by unfold Bad at hbad; omega⟩
  rw [Int.toNat_natCast] at hc hr
  obtain ⟨L, hL⟩ : ∃ L, L = mActs pn (List.replicate l.toNat []) ls := ⟨_, rfl⟩
  rw [← hL] at hc hr
  clear hL hC
  obtain ⟨A1, c1, rfl⟩ := hr.slice
  obtain ⟨N1, hN1⟩ : ∃ N, N = (LI L).length := ⟨_, rfl⟩
  rw [← hN1] at hr ⊢
  clear hN1
  have s2 := LS.new hc hr hb k1 k2
  obtain ⟨ns, hR⟩ := chn_rep hc
  clear hc hr hb hg k1
  simp only []
  go_wp2_with fail
  generalize w2.alloc (.cells #[.int .i64 (pn : Int), .slice A1 N1 c1] 27) = w3 at *
  obtain ⟨bm, hbm⟩ : ∃ bm, bm = w2.heap.size := ⟨_, rfl⟩
  rw [← hbm] at s2 ⊢
  clear hbm k2
  obtain ⟨L2, ev, hmi⟩ : ∃ L2 ev, mIns pn L x y = (L2, ev) := ⟨_, _, rfl⟩
  refine (ins_as hmi s2.chn).mono ?_
  rintro e w4 ⟨rfl, h4, k4⟩
  have s4 := s2.wr h4 k4
  by_cases he : ev = 0
  · subst he
    obtain ⟨ns4, hR4⟩ := chn_rep h4
    obtain ⟨q1, q2, q3⟩ := ins_back hR hmi hR4
    clear h4 k4 s2
    have q1' := Lib.hid q1
    have q2' := Lib.hid q2
    have q3' := Lib.hid q3
    have hmi' := Lib.hid hmi
    clear q1 q2 q3 hmi
    simp only []
    go_wp2_with fail
    refine (next_as q1'.out s4.chn).mono ?_
    rintro e w' ⟨rfl, rfl⟩
    simp only []
    go_wp2_with fail
    refine (prev_as q2'.out s4.chn).mono ?_
    rintro e w' ⟨rfl, rfl⟩
    simp only []
    go_wp2_with fail
    refine (dr_as q3'.out s4.chn).mono ?_
    rintro e w5 ⟨rfl, h5, k5⟩
    have s5 := s4.wr h5 k5
    clear h5 k5 s4
    have x0 := blk_cell s5.box 0
    have x1 := blk_cell s5.box 1
    simp only []
    go_wp2_with fail
    refine (alike_calls g b pn z L _ _ _ s5.chn s5.ref).mono ?_
    rintro e w6 ⟨rfl, k6⟩
    have s6 := s5.below k6
    clear x0 x1
    simp only []
    go_wp2_with fail
    go_ret
    exact ⟨rfl, s6.bel⟩
  · have hno : L2 = L := by
      have := ins_no (p := pn) (L := L) (x := x) (y := y) (by rw [hmi]; exact he)
      rw [hmi] at this; exact this
    subst hno
    have hb0 : (ev == 0) = false := beq_eq_false_iff_ne.mpr he
    have hmi' := Lib.hid hmi
    have x0 := blk_cell s4.box 0
    have x1 := blk_cell s4.box 1
    clear hmi he h4 k4 s2
    simp only []
    go_wp2_with fail
    refine (alike_calls g b pn z L2 _ _ _ s4.chn s4.ref).mono ?_
    rintro e w6 ⟨rfl, k6⟩
    have s6 := s4.below k6
    clear x0 x1
    simp only []
    go_wp2_with fail
    go_ret
    exact ⟨rfl, s6.bel⟩
end Go.Proofs.Ytfnppjhkhdfmdaa.ChainBack
