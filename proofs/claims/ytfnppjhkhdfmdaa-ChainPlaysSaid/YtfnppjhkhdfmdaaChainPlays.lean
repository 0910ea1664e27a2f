/-
  Chains: the law ChainPlays, walked.
  No condition.
-/
import Derived.Test.YtfnppjhkhdfmdaaChainX
namespace Go.Proofs.Ytfnppjhkhdfmdaa.ChainPlays
open Go.RowKit Go.Proofs.Ytfnppjhkhdfmdaa.ChainA Go.Proofs.Ytfnppjhkhdfmdaa.ChainM Go.Proofs.Ytfnppjhkhdfmdaa.ChainN Go.Proofs.Ytfnppjhkhdfmdaa.ChainF Go.Proofs.Ytfnppjhkhdfmdaa.ChainG Go.Proofs.Ytfnppjhkhdfmdaa.ChainP Go.Proofs.Ytfnppjhkhdfmdaa.ChainQ Go.Proofs.Ytfnppjhkhdfmdaa.ChainT Go.Proofs.Ytfnppjhkhdfmdaa.ChainU Go.Proofs.Ytfnppjhkhdfmdaa.ChainV Go.Proofs.Ytfnppjhkhdfmdaa.ChainX Go.Proofs.Ytfnppjhkhdfmdaa.GChainPlays Go.Proofs.YtfnppjhkhdfmdaaW.PrintWords Go.Proofs.YtfnppjhkhdfmdaaW.PrintLast Go.Proofs.YtfnppjhkhdfmdaaW.PrintMore
set_option linter.unusedVariables false
set_option linter.unusedSimpArgs false
set_option maxRecDepth 100000 in
set_option maxHeartbeats 4000000 in
theorem plays_calls (p l : Int) (A : Option Addr) (cap : Nat) (ls : List S33) (z : Int) (w : World) (hC : Kd.C k33 w A ls.length ls) (hmx : ls.length ≤ 140737488355328) :
    Calls Try.prog 3 #[.int .i64 p, .int .i64 l, .slice A ls.length cap, .int .i64 z] w fun e w' => e = .returned (.bool true) ∧ Below w.heap.size w w' := by
  have hu27 := Try.underlying27
  by_cases hlen : 40 < ls.length
  · have d0 : decide ((40 : Int) < (ls.length : Int)) = true := decide_eq_true (by omega)
    go_enter Try.func3, Try.ntmps3
    go_wp2_with fail
    refine (works_calls _).mono ?_
    rintro e w1 ⟨rfl, k1⟩
    simp only []
    go_wp2_with fail
    go_ret
    exact ⟨rfl, k1⟩
  have hu33 := Try.underlying33
  have d0 : decide ((40 : Int) < (ls.length : Int)) = false := decide_eq_false (by omega)
  go_enter Try.func3, Try.ntmps3
  go_wp2_with fail
  refine (works_calls _).mono ?_
  rintro e w1 ⟨rfl, k1⟩
  simp only []
  go_wp2_with fail
  by_cases hbad : Bad p l
  · refine (made_no p l none 0 [] _ hbad (by simp)).mono ?_
    rintro e w2 ⟨A0, c0, rfl, k2⟩
    simp only []
    go_wp2_with fail
    go_ret
    exact ⟨rfl, (k1.trans (k2.mono k1.size)).alloc (by have := k1.size; have := k2.size; omega) _⟩
  refine (made_yes p l none 0 [] _ hbad (Kd.C_nil k33 _) (by simp)).mono ?_
  rintro e w2 ⟨g, b, v, rfl, hc, hr, hg, hb, k2⟩
  obtain ⟨pn, rfl⟩ : ∃ n : Nat, p = n := ⟨p.toNat, by unfold Bad at hbad; omega⟩
  rw [Int.toNat_natCast] at hc hr
  obtain ⟨R, hR⟩ : ∃ L, L = mActs pn (List.replicate l.toNat []) [] := ⟨_, rfl⟩
  rw [← hR] at hc hr
  clear hR
  obtain ⟨A1, c1, rfl⟩ := hr.slice
  obtain ⟨N1, hN1⟩ : ∃ N, N = (LI R).length := ⟨_, rfl⟩
  rw [← hN1] at hr ⊢
  clear hN1
  have s2 := LS.new hc hr hb k1 k2
  have hK2 := k1.trans (k2.mono k1.size)
  have hbw2 := hc.blt
  have hgw2 := hc.glt
  have hz1 := k1.size
  have hz2 := k2.size
  clear hc hr k2
  simp only []
  go_wp2_with fail
  have hz3 : (w2.alloc (.cells #[.int .i64 (pn : Int), .slice A1 N1 c1] 27)).heap.size = w2.heap.size + 1 := World.size_alloc _ _
  generalize w2.alloc (.cells #[.int .i64 (pn : Int), .slice A1 N1 c1] 27) = w3 at *
  obtain ⟨bm, hbm⟩ : ∃ bm, bm = w2.heap.size := ⟨_, rfl⟩
  rw [← hbm] at s2 ⊢
  have hwbm : w.heap.size ≤ bm := by omega
  have hbb : w.heap.size ≤ b := by omega
  have hbne : b ≠ bm := by omega
  have hgne : g ≠ bm := by omega
  clear hbm hK2 k1 hz2 hz3
  go_loopw [13] (fun i wr => ∃ (k : Nat) (A' : Option Addr) (N' c' : Nat), i = .int .i64 k ∧ k ≤ ls.length ∧ Chn wr g b pn (mActs pn R (ls.take k)) ∧ wr.heap[bm]? = some (.cells #[.int .i64 (pn : Int), .slice A' N' c'] 27 (0, 0)) ∧ RefP wr (fun k => k ≠ b ∧ k ≠ bm) (.slice A' N' c') (mActs pn R (ls.take k)) ∧ Below w.heap.size w wr) (fun i _ => ls.length - (intOf i).toNat)
  case atStart => exact ⟨0, A1, N1, c1, rfl, Nat.zero_le _, s2.chn, s2.box, s2.ref, s2.bel⟩
  case round =>
    obtain ⟨k, A', N', c', rfl, hk, hCk, Fk, hvk, Hk⟩ := hrel
    clear s2
    by_cases hlt : k < ls.length
    · obtain ⟨ad, rfl, a0, a1, a2⟩ := at_T33 (Kd.C_below hC Hk) (k : Int) (by omega) (by omega)
      rw [Int.toNat_natCast] at a0 a1 a2
      have d1 : decide ((k : Int) < (ls.length : Int)) = true := decide_eq_true (by omega)
      have t0 := blk_cell Fk 0
      have t1 := blk_cell Fk 1
      have hsn := mActs_snoc pn R ls k hlt
      have hsn' := Lib.hid hsn
      clear hsn
      have hk0 : (0 : Int) ≤ (k : Int) := by omega
      have hk1 : (k : Int) < (ls.length : Int) := by omega
      have hbm1 : bm < wr.heap.size := blk_lt Fk
      have hPP : ∀ q, ((q ≠ b ∧ q ≠ bm) ∧ q < wr.heap.size) → q ≠ b := fun q h => h.1.1
      have hadz : (ad.add (k * 3)).block < wr.heap.size := World.block_lt_of_cell? _ _ a0
      have hadb : (ad.add (k * 3)).block ≠ b := fun e => by
        have h1 := World.block_lt_of_cell? _ _ (at_T33_lt hC k hlt)
        omega
      go_wp2_with fail
      go_region_held3 (fun w' => w'.cell? ⟨bm, 0, none⟩ = some (.int .i64 (pn : Int)) ∧ w'.cell? ⟨bm, 1, none⟩ = some (.slice A' N' c') ∧ w'.cell? (ad.add (k * 3)) = some (.int .i64 (rd_T33 ls k).f0) ∧ w'.cell? ⟨(ad.add (k * 3)).block, (ad.add (k * 3)).off + 1, none⟩ = some (.int .i64 (rd_T33 ls k).f1) ∧ w'.cell? ⟨(ad.add (k * 3)).block, (ad.add (k * 3)).off + 2, none⟩ = some (.int .i64 (rd_T33 ls k).f2)) (go_keep)
        ((go_at_call 10; refine (do_calls g b pn _ _ _ (mActs pn R (ls.take k)) _ _ (fun q => (q ≠ b ∧ q ≠ bm) ∧ q < wr.heap.size) ?_ ?_ hPP).mono ?_; (first | exact hCk | exact hCk.alloc _); (first | exact hvk.bound | exact hvk.bound.alloc _); rintro e w4 ⟨v4, rfl, h4, hv4, k4⟩; have k5 : Wr b wr w4 := (by first | exact (Wr.refl b wr).drew.trans k4 | exact ((wr_alloc (Wr.refl b wr) (by have := hCk.blt; omega) _).drew).trans k4); obtain ⟨A4, c4, rfl⟩ := hv4.slice; obtain ⟨N4, hN4⟩ : ∃ N, N = (LI (mDo pn (mActs pn R (ls.take k)) (rd_T33 ls k).f0 (rd_T33 ls k).f1 (rd_T33 ls k).f2)).length := ⟨_, rfl⟩; rw [← hN4] at hv4 ⊢; clear hN4; have t0' := blk_cell (wr_blk k5 Fk (by omega)) 0; have t1' := blk_cell (wr_blk k5 Fk (by omega)) 1; have a0' := wr_cell k5 a0 hadb; have a1' := wr_cell k5 a1 hadb; have a2' := wr_cell k5 a2 hadb; try (have m0 := wr_blk k4 (blk_new wr _) (by have := hCk.blt; omega); have m1 := blk_cell m0 0; have m2 := blk_cell m0 1; have m3 := blk_frozen m0 0; have m4 := blk_frozen m0 1; have n0 := far2 w4 wr.heap.size t0' (by simp; omega); have n1 := far2 w4 wr.heap.size t1' (by simp; omega); have n2 := far2 w4 wr.heap.size a0' (by omega); have n3 := far2 w4 wr.heap.size a1' (by simp only; omega); have n4 := far2 w4 wr.heap.size a2' (by simp only; omega))))
      · rename_i hHeld
        have z5 := hCk.blt
        have k6 : Below w.heap.size w w4 := Hk.trans (k5.1.mono (by omega))
        have hPm : ∀ q, (((q ≠ b ∧ q ≠ bm) ∧ q < wr.heap.size) ∨ wr.drew.heap.size ≤ q) → (q ≠ b ∧ q ≠ bm) := fun q hq => by
          rcases hq with hq | hq
          · exact hq.1
          · have hq' : wr.heap.size ≤ q := hq
            omega
        have Q5 := blk_new w4 (.cells #[.int .i64 (pn : Int), .slice A4 N4 c4] 27)
        have h5 := h4.alloc (.cells #[.int .i64 (pn : Int), .slice A4 N4 c4] 27)
        have v5 := (hv4.alloc (.cells #[.int .i64 (pn : Int), .slice A4 N4 c4] 27)).mono hPm
        have F5 := blk_alloc (wr_blk k5 Fk (by omega)) (.cells #[.int .i64 (pn : Int), .slice A4 N4 c4] 27)
        have H5 := k6.alloc (by have := k5.size; omega) (.cells #[.int .i64 (pn : Int), .slice A4 N4 c4] 27)
        have z6 := k5.size
        have hne : w4.heap.size ≠ bm := by omega
        generalize w4.alloc (.cells #[.int .i64 (pn : Int), .slice A4 N4 c4] 27) = W5 at *
        clear hHeld t0 t1 t0' t1' a0 a1 a2 a0' a1' a2' h4 hv4
        have q0 := blk_cell Q5 0
        have q1 := blk_cell Q5 1
        go_wp2_with fail
        refine (alike_calls g b pn z _ _ _ _ h5 v5).mono ?_
        rintro e W6 ⟨rfl, k7⟩
        have h6 := h5.below k7
        have v6 := v5.below k7
        have Q6 := below_blk k7 Q5 (blk_lt Q5)
        have F6 := below_blk k7 F5 (blk_lt F5)
        have H6 := H5.trans (k7.mono (by have := H5.size; omega))
        have z6b := blk_lt F6
        clear q0 q1 h5 v5 Q5 F5 H5 k7
        have t0 := blk_cell F6 0
        have t1 := blk_cell F6 1
        have f0 := blk_frozen F6 0
        have f1 := blk_frozen F6 1
        have q0 := blk_cell Q6 0
        have q1 := blk_cell Q6 1
        have zg6 := h6.glt
        simp only []
        go_wp2_with fail
        go_roundw
        case rel =>
          have e1 : ((W6.setCell ⟨bm, 0, none⟩ (.int .i64 (pn : Int))).setCell ⟨bm, 1, none⟩ (.slice A4 N4 c4)).heap[bm]? = some (.cells #[.int .i64 (pn : Int), .slice A4 N4 c4] 27 (0, 0)) := blk_put (blk_put F6 0 _ rfl) 1 _ rfl
          refine ⟨k + 1, A4, N4, c4, by simp, by omega, ?_, e1, ?_, ?_⟩
          · rw [hsn'.out]
            exact h6.keep ((Below.heap_setCell _ _ _ _ (by simp; omega)).trans (Below.heap_setCell _ _ _ _ (by simp; omega))) ((Below.heap_setCell _ _ _ _ (by simp; omega)).trans (Below.heap_setCell _ _ _ _ (by simp; omega)))
          · rw [hsn'.out]
            exact RefP.far (RefP.far v6 (fun q hq => by simp only; omega) _) (fun q hq => by simp only; omega) _
          · exact (H6.setCell (p := ⟨bm, 0, none⟩) (by simp; omega) _).setCell (p := ⟨bm, 1, none⟩) (by simp; omega) _
        case measure => simp [intOf]; omega
      · rename_i hHeld
        have z5 := hCk.blt
        have k6 : Below w.heap.size w w4 := Hk.trans (k5.1.mono (by omega))
        have hPm : ∀ q, (((q ≠ b ∧ q ≠ bm) ∧ q < wr.heap.size) ∨ (wr.alloc (.cells #[.int .i64 0, .slice none 0 0] 27)).drew.heap.size ≤ q) → (q ≠ b ∧ q ≠ bm) := fun q hq => by
          rcases hq with hq | hq
          · exact hq.1
          · have hq' : wr.heap.size ≤ q := by have h9 : (wr.alloc (.cells #[.int .i64 0, .slice none 0 0] 27)).heap.size ≤ q := hq; rw [World.size_alloc] at h9; omega
            omega
        have Q5 : ((w4.setCell ⟨wr.heap.size, 0, none⟩ (.int .i64 (pn : Int))).setCell ⟨wr.heap.size, 1, none⟩ (.slice A4 N4 c4)).heap[wr.heap.size]? = some (.cells #[.int .i64 (pn : Int), .slice A4 N4 c4] 27 (0, 0)) := blk_put (blk_put m0 0 _ rfl) 1 _ rfl
        have hnq : ∀ q, (((q ≠ b ∧ q ≠ bm) ∧ q < wr.heap.size) ∨ (wr.alloc (.cells #[.int .i64 0, .slice none 0 0] 27)).drew.heap.size ≤ q) → q ≠ wr.heap.size := fun q hq => by
          rcases hq with hq | hq
          · omega
          · have h9 : (wr.alloc (.cells #[.int .i64 0, .slice none 0 0] 27)).heap.size ≤ q := hq
            rw [World.size_alloc] at h9
            omega
        have zg := hCk.glt
        have hwz : w.heap.size ≤ wr.heap.size := by omega
        have h5 : Chn ((w4.setCell ⟨wr.heap.size, 0, none⟩ (.int .i64 (pn : Int))).setCell ⟨wr.heap.size, 1, none⟩ (.slice A4 N4 c4)) g b pn (mDo pn (mActs pn R (ls.take k)) (rd_T33 ls k).f0 (rd_T33 ls k).f1 (rd_T33 ls k).f2) :=
          h4.keep ((Below.heap_setCell _ _ _ _ (by simp; omega)).trans (Below.heap_setCell _ _ _ _ (by simp; omega))) ((Below.heap_setCell _ _ _ _ (by simp; omega)).trans (Below.heap_setCell _ _ _ _ (by simp; omega)))
        have v5 := (RefP.far (RefP.far hv4 (q := ⟨wr.heap.size, 0, none⟩) hnq (.int .i64 (pn : Int))) (q := ⟨wr.heap.size, 1, none⟩) hnq (.slice A4 N4 c4)).mono hPm
        have F5 : ((w4.setCell ⟨wr.heap.size, 0, none⟩ (.int .i64 (pn : Int))).setCell ⟨wr.heap.size, 1, none⟩ (.slice A4 N4 c4)).heap[bm]? = some (.cells #[.int .i64 (pn : Int), .slice A' N' c'] 27 (0, 0)) := (Below.heap_setCell _ _ _ _ (by simp; omega)).trans ((Below.heap_setCell _ _ _ _ (by simp; omega)).trans (wr_blk k5 Fk (by omega)))
        have H5 : Below w.heap.size w ((w4.setCell ⟨wr.heap.size, 0, none⟩ (.int .i64 (pn : Int))).setCell ⟨wr.heap.size, 1, none⟩ (.slice A4 N4 c4)) := (k6.setCell (p := ⟨wr.heap.size, 0, none⟩) (by simp; omega) _).setCell (p := ⟨wr.heap.size, 1, none⟩) (by simp; omega) _
        have hne : wr.heap.size ≠ bm := by omega
        clear m0 m1 m2 m3 m4 n0 n1 n2 n3 n4 hnq
        generalize (w4.setCell ⟨wr.heap.size, 0, none⟩ (.int .i64 (pn : Int))).setCell ⟨wr.heap.size, 1, none⟩ (.slice A4 N4 c4) = W5 at *
        clear hHeld t0 t1 t0' t1' a0 a1 a2 a0' a1' a2' h4 hv4
        have q0 := blk_cell Q5 0
        have q1 := blk_cell Q5 1
        go_wp2_with fail
        refine (alike_calls g b pn z _ _ _ _ h5 v5).mono ?_
        rintro e W6 ⟨rfl, k7⟩
        have h6 := h5.below k7
        have v6 := v5.below k7
        have Q6 := below_blk k7 Q5 (blk_lt Q5)
        have F6 := below_blk k7 F5 (blk_lt F5)
        have H6 := H5.trans (k7.mono (by have := H5.size; omega))
        have z6b := blk_lt F6
        clear q0 q1 h5 v5 Q5 F5 H5 k7
        have t0 := blk_cell F6 0
        have t1 := blk_cell F6 1
        have f0 := blk_frozen F6 0
        have f1 := blk_frozen F6 1
        have q0 := blk_cell Q6 0
        have q1 := blk_cell Q6 1
        have zg6 := h6.glt
        simp only []
        go_wp2_with fail
        go_roundw
        case rel =>
          have e1 : ((W6.setCell ⟨bm, 0, none⟩ (.int .i64 (pn : Int))).setCell ⟨bm, 1, none⟩ (.slice A4 N4 c4)).heap[bm]? = some (.cells #[.int .i64 (pn : Int), .slice A4 N4 c4] 27 (0, 0)) := blk_put (blk_put F6 0 _ rfl) 1 _ rfl
          refine ⟨k + 1, A4, N4, c4, by simp, by omega, ?_, e1, ?_, ?_⟩
          · rw [hsn'.out]
            exact h6.keep ((Below.heap_setCell _ _ _ _ (by simp; omega)).trans (Below.heap_setCell _ _ _ _ (by simp; omega))) ((Below.heap_setCell _ _ _ _ (by simp; omega)).trans (Below.heap_setCell _ _ _ _ (by simp; omega)))
          · rw [hsn'.out]
            exact RefP.far (RefP.far v6 (fun q hq => by simp only; omega) _) (fun q hq => by simp only; omega) _
          · exact (H6.setCell (p := ⟨bm, 0, none⟩) (by simp; omega) _).setCell (p := ⟨bm, 1, none⟩) (by simp; omega) _
        case measure => simp [intOf]; omega
    · have d1 : decide ((k : Int) < (ls.length : Int)) = false := decide_eq_false (by omega)
      have t0 := blk_cell Fk 0
      have t1 := blk_cell Fk 1
      go_wp2_with fail
      refine (alike_calls g b pn z _ _ _ _ hCk hvk).mono ?_
      rintro e W6 ⟨rfl, k7⟩
      have H6 := Hk.trans (k7.mono Hk.size)
      clear t0 t1
      simp only []
      go_wp2_with fail
      go_ret
      exact ⟨rfl, H6⟩
end Go.Proofs.Ytfnppjhkhdfmdaa.ChainPlays
