/-
  Chains: the law's made.
  No condition.
-/
import Derived.Test.YtfnppjhkhdfmdaaChainQ
namespace Go.Proofs.Ytfnppjhkhdfmdaa.ChainT
open Go.RowKit Go.Proofs.Ytfnppjhkhdfmdaa.ChainA Go.Proofs.Ytfnppjhkhdfmdaa.ChainC Go.Proofs.Ytfnppjhkhdfmdaa.ChainM Go.Proofs.Ytfnppjhkhdfmdaa.ChainN Go.Proofs.Ytfnppjhkhdfmdaa.ChainF Go.Proofs.Ytfnppjhkhdfmdaa.ChainG Go.Proofs.Ytfnppjhkhdfmdaa.ChainP Go.Proofs.Ytfnppjhkhdfmdaa.ChainQ Go.Proofs.Ytfnppjhkhdfmdaa.GChainPlays Go.Proofs.YtfnppjhkhdfmdaaW.PrintWords Go.Proofs.YtfnppjhkhdfmdaaW.PrintLast Go.Proofs.YtfnppjhkhdfmdaaW.PrintMore
set_option linter.unusedVariables false
set_option linter.unusedSimpArgs false
/-! The struct Act. -/
structure S33 where
  f0 : Int
  f1 : Int
  f2 : Int
def z33 : S33 := ⟨(0 : Int), (0 : Int), (0 : Int)⟩
def k33 : Kd S33 := Kd.iso (Kd.pair (Kd.int .i64) (Kd.pair (Kd.int .i64) (Kd.int .i64))) (fun x : S33 => (x.f0, x.f1, x.f2))
theorem k33_open {w : World} {x : S33} {cs : List Value} (h : k33.K w x cs) : cs = [.int .i64 x.f0, .int .i64 x.f1, .int .i64 x.f2] := by
  obtain ⟨_, _, rfl, rfl, h2⟩ := h
  obtain ⟨_, _, rfl, rfl, rfl⟩ := h2
  exact rfl
theorem k33_mk (w : World) (x : S33) : k33.K w x [.int .i64 x.f0, .int .i64 x.f1, .int .i64 x.f2] := ⟨[.int .i64 x.f0], [.int .i64 x.f1, .int .i64 x.f2], rfl, rfl, ⟨[.int .i64 x.f1], [.int .i64 x.f2], rfl, rfl, rfl⟩⟩
def rd_T33 (xs : List S33) (i : Int) : S33 := xs.getD i.toNat z33
theorem at_T33 {w : World} {A : Option Addr} {n : Nat} {xs : List S33} (h : Kd.C k33 w A n xs) (i : Int) (h0 : 0 ≤ i) (h1 : i < n) : ∃ ad, A = some ad ∧ w.cell? (ad.add (i.toNat * 3)) = some (.int .i64 (rd_T33 xs i).f0) ∧
    w.cell? ⟨(ad.add (i.toNat * 3)).block, (ad.add (i.toNat * 3)).off + 1, none⟩ = some (.int .i64 (rd_T33 xs i).f1) ∧ w.cell? ⟨(ad.add (i.toNat * 3)).block, (ad.add (i.toNat * 3)).off + 2, none⟩ = some (.int .i64 (rd_T33 xs i).f2) := by
  obtain ⟨ad, c, e, _, hK, hc0⟩ := Kd.C_get h z33 i h0 h1
  have hc : ∀ j u, c[j]? = some u → w.cell? (ad.add (i.toNat * 3 + j)) = some u := hc0
  obtain rfl := k33_open hK
  exact ⟨ad, e, hc 0 _ rfl, by rw [← add_field _ _ 1 (by omega)]; exact hc 1 _ rfl, by rw [← add_field _ _ 2 (by omega)]; exact hc 2 _ rfl⟩
/-- What acts make of lists. -/
def mActs (p : Nat) (L : List (List Nat)) (l : List S33) : List (List Nat) := l.foldl (fun L a => mDo p L a.f0 a.f1 a.f2) L
theorem mActs_snoc (p : Nat) (L : List (List Nat)) (l : List S33) (k : Nat) (h : k < l.length) : mActs p L (l.take (k + 1)) = mDo p (mActs p L (l.take k)) (rd_T33 l k).f0 (rd_T33 l k).f1 (rd_T33 l k).f2 := by
  unfold mActs
  rw [List.take_succ_eq_append_getElem h, List.foldl_append]
  have e : rd_T33 l k = l[k] := by unfold rd_T33; rw [Int.toNat_natCast, List.getD_eq_getElem?_getD, List.getElem?_eq_getElem h]; rfl
  rw [e]; rfl
/-- The arguments are no chains'. -/
def Bad (p l : Int) : Prop := p < 0 ∨ 1024 < p ∨ l < 0 ∨ 1024 < l
theorem refNew_no (p l : Int) (w : World) (hn : Bad p l) :
    Calls Try.prog 25 #[.int .i64 p, .int .i64 l] w fun e w' => ∃ A c, e = .returned (.tuple #[.agg #[.int .i64 0, .slice A 0 c], .int .i64 1]) ∧ Below w.heap.size w w' := by
  have hf := new_f p l
  rw [if_pos (show p < 0 ∨ 1024 < p ∨ l < 0 ∨ 1024 < l from hn)] at hf
  refine (complineref06_New.calls p l _ _ _ w hf).mono ?_
  rintro e w' ⟨v, rfl, h1, h2⟩
  obtain ⟨A, c, rfl⟩ := Kd.V_slice (Kd.R_V (base' := w.heap.size) (Kd.S_R h1))
  exact ⟨A, c, rfl, h2⟩
theorem refNew_yes (p l : Int) (w : World) (hn : ¬ Bad p l) :
    Calls Try.prog 25 #[.int .i64 p, .int .i64 l] w fun e w' => ∃ v, e = .returned (.tuple #[.agg #[.int .i64 p, v], .int .i64 0]) ∧ RefP w' (fun k => w.heap.size ≤ k) v (List.replicate l.toNat []) ∧ Below w.heap.size w w' := by
  have hf := new_f p l
  rw [if_neg (show ¬ (p < 0 ∨ 1024 < p ∨ l < 0 ∨ 1024 < l) from hn)] at hf
  refine (complineref06_New.calls p l _ _ _ w hf).mono ?_
  rintro e w' ⟨v, rfl, h1, h2⟩
  exact ⟨v, rfl, RefP.out (Kd.R_V (base' := w.heap.size) (Kd.R_mono (Kd.R_bound (Kd.S_R h1)) (fun k hk => hk.2.1))), h2⟩
theorem new_yes (p l : Int) (w : World) (hn : ¬ Bad p l) :
    Calls Try.prog 23 #[.int .i64 p, .int .i64 l] w fun e w' => ∃ g b : Nat, e = .returned (.tuple #[.pointer (some ⟨g, 0, none⟩), .int .i64 0]) ∧ Chn w' g b p.toNat (List.replicate l.toNat []) ∧ w.heap.size ≤ g ∧ w.heap.size ≤ b ∧ Below w.heap.size w w' :=
  (new_calls p l w).mono fun e w' h => h.elim (fun q => absurd q.1 hn) (fun q => q.2)
set_option maxRecDepth 100000 in
set_option maxHeartbeats 4000000 in
theorem made_no (p l : Int) (A : Option Addr) (cap : Nat) (ls : List S33) (w : World) (hn : Bad p l) (hmx : ls.length ≤ 140737488355328) :
    Calls Try.prog 9 #[.int .i64 p, .int .i64 l, .slice A ls.length cap] w fun e w' => ∃ A0 c0, e = .returned (.tuple #[.pointer none, .agg #[.int .i64 0, .slice A0 0 c0], .bool true]) ∧ Below w.heap.size w w' := by
  have hu27 := Try.underlying27
  have B0 := blk_new w (.cells #[.int .i64 0, .slice none 0 0] 27)
  have H0 : Below w.heap.size w (w.alloc (.cells #[.int .i64 0, .slice none 0 0] 27)) := (Below.refl _ w).alloc (Nat.le_refl _) _
  go_enter Try.func9, Try.ntmps9
  go_wp2_with fail
  refine (new_arg p l _ hn).mono ?_
  rintro e w1 ⟨rfl, rfl⟩
  simp only []
  go_wp2_with fail
  refine (refNew_no p l _ hn).mono ?_
  rintro e w2 ⟨A0, c0, rfl, hb2⟩
  have E0 := below_blk hb2 B0 (by simp)
  have z2 := hb2.size
  simp at z2
  have r0 := blk_cell E0 0
  have r1 := blk_cell E0 1
  have f0 := blk_frozen E0 0
  have f1 := blk_frozen E0 1
  have H2 := H0.trans (hb2.mono (by simp))
  simp only []
  have E1 := blk_new w2 (.cells #[.int .i64 0, .slice A0 0 c0] 27)
  have E0' := blk_alloc E0 (.cells #[.int .i64 0, .slice A0 0 c0] 27)
  go_wp2_with fail
  clear r0 r1 f0 f1
  have hne : w.heap.size ≠ w2.heap.size := by omega
  have H3 : Below w.heap.size w (w2.alloc (.cells #[.int .i64 0, .slice A0 0 c0] 27)) := H2.alloc (by omega) _
  generalize w2.alloc (.cells #[.int .i64 0, .slice A0 0 c0] 27) = w3 at *
  have r0 := blk_cell E0' 0
  have r1 := blk_cell E0' 1
  have f0 := blk_frozen E0' 0
  have f1 := blk_frozen E0' 1
  have s0 := blk_cell E1 0
  have s1 := blk_cell E1 1
  have e0 : (w3.setCell ⟨w.heap.size, 0, none⟩ (.int .i64 0)).heap[w.heap.size]? = some (.cells #[.int .i64 0, .slice none 0 0] 27 (0, 0)) := blk_put E0' 0 _ rfl
  have e1 : ((w3.setCell ⟨w.heap.size, 0, none⟩ (.int .i64 0)).setCell ⟨w.heap.size, 1, none⟩ (.slice A0 0 c0)).heap[w.heap.size]? = some (.cells #[.int .i64 0, .slice A0 0 c0] 27 (0, 0)) := blk_put e0 1 _ rfl
  have x0 := blk_cell e1 0
  have x1 := blk_cell e1 1
  have y0 := blk_cell e0 1
  by_cases hz : 0 < ls.length
  · have d0 : decide ((0 : Int) < (ls.length : Int)) = true := decide_eq_true (by omega)
    refine wp_loop_rounds 1 ?_
    rw [rounds_succ]
    go_wp2_with fail
    go_region
    go_wp2_with fail
    exact bodyPost_ret (v := .tuple #[.pointer none, .agg #[.int .i64 0, .slice A0 0 c0], .bool true]) (by simp [results, Try.results9, go_sem, x0, x1]) rfl ⟨_, _, rfl, ((H3.setCell (p := ⟨w.heap.size, 0, none⟩) (by simp) _).setCell (p := ⟨w.heap.size, 1, none⟩) (by simp) _).drew⟩
  · have d0 : decide ((0 : Int) < (ls.length : Int)) = false := decide_eq_false (by omega)
    refine wp_loop_rounds 1 ?_
    rw [rounds_succ]
    go_wp2_with fail
    go_region
    go_wp2_with fail
    exact bodyPost_ret (v := .tuple #[.pointer none, .agg #[.int .i64 0, .slice A0 0 c0], .bool true]) (by simp [results, Try.results9, go_sem, x0, x1]) rfl ⟨_, _, rfl, ((H3.setCell (p := ⟨w.heap.size, 0, none⟩) (by simp) _).setCell (p := ⟨w.heap.size, 1, none⟩) (by simp) _).drew⟩
theorem at_T33_lt {w : World} {ad : Addr} {xs : List S33} (h : Kd.C k33 w (some ad) xs.length xs) (k : Nat) (hk : k < xs.length) : w.cell? (ad.add (k * 3)) = some (.int .i64 (rd_T33 xs k).f0) := by
  obtain ⟨ad', e, h0, _⟩ := at_T33 h (k : Int) (by omega) (by omega)
  cases e
  simpa using h0
theorem wr_cell {b : Nat} {W W' : World} (k : Wr b W W') {a : Addr} {v : Value} (h : W.cell? a = some v) (hne : a.block ≠ b) : W'.cell? a = some v :=
  (World.cell?_of_block (k.2.2 a.block (World.block_lt_of_cell? _ _ h) hne (by simp))).trans h
theorem far2 (w : World) (q : Nat) {a : Addr} {v : Value} (h : w.cell? a = some v) (hne : a.block ≠ q) : ∀ x y, ((w.setCell ⟨q, 0, none⟩ x).setCell ⟨q, 1, none⟩ y).cell? a = some v :=
  fun x y => (cell_far (p := ⟨q, 1, none⟩) hne _).trans ((cell_far (p := ⟨q, 0, none⟩) hne _).trans h)
/-- What made leaves. -/
def MadePost (p : Int) (L : List (List Nat)) (w : World) (e : Ending) (w' : World) : Prop := ∃ (g b : Nat) (v : Value), e = .returned (.tuple #[.pointer (some ⟨g, 0, none⟩), .agg #[.int .i64 p, v], .bool true]) ∧ Chn w' g b p.toNat L ∧ RefAt w' b v L ∧ w.heap.size ≤ g ∧ w.heap.size ≤ b ∧ Below w.heap.size w w'
set_option maxRecDepth 100000 in
set_option maxHeartbeats 4000000 in
theorem made_yes (p l : Int) (A : Option Addr) (cap : Nat) (ls : List S33) (w : World) (hn : ¬ Bad p l) (hC : Kd.C k33 w A ls.length ls) (hmx : ls.length ≤ 140737488355328) :
    Calls Try.prog 9 #[.int .i64 p, .int .i64 l, .slice A ls.length cap] w (MadePost p (mActs p.toNat (List.replicate l.toNat []) ls) w) := by
  have hu27 := Try.underlying27
  have hu33 := Try.underlying33
  have B0 := blk_new w (.cells #[.int .i64 0, .slice none 0 0] 27)
  have H0 : Below w.heap.size w (w.alloc (.cells #[.int .i64 0, .slice none 0 0] 27)) := (Below.refl _ w).alloc (Nat.le_refl _) _
  obtain ⟨pn, rfl⟩ : ∃ n : Nat, p = n := ⟨p.toNat, by unfold Bad at hn; omega⟩
  go_enter Try.func9, Try.ntmps9
  go_wp2_with fail
  refine (new_yes _ l _ hn).mono ?_
  rintro e w1 ⟨g, b, rfl, hC1, hg1, hb1, k1⟩
  have E1 := below_blk k1 B0 (by simp)
  have H1 := H0.trans (k1.mono (by simp))
  rw [World.size_alloc] at hg1 hb1
  have z1 := k1.size
  rw [World.size_alloc] at z1
  simp only []
  go_wp2_with fail
  refine (refNew_yes _ l _ hn).mono ?_
  rintro e w2 ⟨v, rfl, hv, k2⟩
  have hC2 := hC1.below k2
  have E2 := below_blk k2 E1 (by omega)
  have H2 := H1.trans (k2.mono (by omega))
  have z2 := k2.size
  have hbw := hC1.blt
  have hgw := hC1.glt
  obtain ⟨A0, c0, rfl⟩ := hv.slice
  obtain ⟨N0, hN0⟩ : ∃ N, N = (LI (List.replicate l.toNat ([] : List Nat))).length := ⟨_, rfl⟩
  rw [← hN0] at hv ⊢
  rw [Int.toNat_natCast] at hC1 hC2
  clear hN0
  have E3 := blk_alloc E2 (.cells #[.int .i64 (pn : Int), .slice A0 N0 c0] 27)
  have F3 := blk_new w2 (.cells #[.int .i64 (pn : Int), .slice A0 N0 c0] 27)
  have hC3 := hC2.alloc (.cells #[.int .i64 (pn : Int), .slice A0 N0 c0] 27)
  have hv3 := ((hv.bound.alloc (.cells #[.int .i64 (pn : Int), .slice A0 N0 c0] 27)).mono (Q := fun k => k ≠ b ∧ k ≠ w.heap.size ∧ k ≠ w2.heap.size) (fun k hk => by omega))
  have H3 := H2.alloc (by omega) (.cells #[.int .i64 (pn : Int), .slice A0 N0 c0] 27)
  have z3 : w2.heap.size < (w2.alloc (.cells #[.int .i64 (pn : Int), .slice A0 N0 c0] 27)).heap.size := by simp
  simp only []
  go_wp2_with fail
  generalize w2.alloc (.cells #[.int .i64 (pn : Int), .slice A0 N0 c0] 27) = w3 at *
  obtain ⟨bm, hbm⟩ : ∃ bm, bm = w2.heap.size := ⟨_, rfl⟩
  rw [← hbm] at F3 hv3 z3 ⊢
  have hbm' : w1.heap.size ≤ bm := by omega
  clear hbm E2 H2 hC2 hv k2 z2 w2
  obtain ⟨R, hR⟩ : ∃ R, R = List.replicate l.toNat ([] : List Nat) := ⟨_, rfl⟩
  rw [← hR] at hC3 hv3
  have hR' := Lib.hid hR
  clear hR B0 H0 E1 H1 k1 hC1
  go_loopw [13] (fun i wr => ∃ (k : Nat) (A' : Option Addr) (N' c' : Nat), i = .int .i64 k ∧ k ≤ ls.length ∧ Chn wr g b pn (mActs pn R (ls.take k)) ∧ wr.heap[bm]? = some (.cells #[.int .i64 (pn : Int), .slice A' N' c'] 27 (0, 0)) ∧ RefP wr (fun k => k ≠ b ∧ k ≠ w.heap.size ∧ k ≠ bm) (.slice A' N' c') (mActs pn R (ls.take k)) ∧
    wr.heap[w.heap.size]? = some (.cells #[.int .i64 0, .slice none 0 0] 27 (0, 0)) ∧ Below w.heap.size w wr) (fun i _ => ls.length - (intOf i).toNat)
  case atStart => exact ⟨0, A0, N0, c0, rfl, Nat.zero_le _, hC3, F3, hv3, E3, H3⟩
  case round =>
    obtain ⟨k, A', N', c', rfl, hk, hCk, Fk, hvk, Ek, Hk⟩ := hrel
    clear hC3 F3 hv3 E3 H3 z3
    by_cases hlt : k < ls.length
    · obtain ⟨ad, rfl, a0, a1, a2⟩ := at_T33 (Kd.C_below hC Hk) (k : Int) (by omega) (by omega)
      rw [Int.toNat_natCast] at a0 a1 a2
      have d0 : decide ((k : Int) < (ls.length : Int)) = true := decide_eq_true (by omega)
      have t0 := blk_cell Fk 0
      have t1 := blk_cell Fk 1
      have hsn := mActs_snoc pn R ls k hlt
      have hsn' := Lib.hid hsn
      clear hsn
      have hk0 : (0 : Int) ≤ (k : Int) := by omega
      have hk1 : (k : Int) < (ls.length : Int) := by omega
      have hbm1 : bm < wr.heap.size := blk_lt Fk
      have hwz : w.heap.size < wr.heap.size := blk_lt Ek
      have hPP : ∀ q, ((q ≠ b ∧ q ≠ w.heap.size ∧ q ≠ bm) ∧ q < wr.heap.size) → q ≠ b := fun q h => h.1.1
      have hadz : (ad.add (k * 3)).block < wr.heap.size := World.block_lt_of_cell? _ _ a0
      have hadb : (ad.add (k * 3)).block ≠ b := fun e => by
        have h1 := World.block_lt_of_cell? _ _ (at_T33_lt hC k hlt)
        omega
      go_wp2_with fail
      go_region_held3 (fun w' => w'.cell? ⟨bm, 0, none⟩ = some (.int .i64 (pn : Int)) ∧ w'.cell? ⟨bm, 1, none⟩ = some (.slice A' N' c') ∧ w'.cell? (ad.add (k * 3)) = some (.int .i64 (rd_T33 ls k).f0) ∧ w'.cell? ⟨(ad.add (k * 3)).block, (ad.add (k * 3)).off + 1, none⟩ = some (.int .i64 (rd_T33 ls k).f1) ∧ w'.cell? ⟨(ad.add (k * 3)).block, (ad.add (k * 3)).off + 2, none⟩ = some (.int .i64 (rd_T33 ls k).f2)) (go_keep)
        ((go_at_call 10; refine (do_calls g b pn _ _ _ (mActs pn R (ls.take k)) _ _ (fun q => (q ≠ b ∧ q ≠ w.heap.size ∧ q ≠ bm) ∧ q < wr.heap.size) ?_ ?_ hPP).mono ?_; (first | exact hCk | exact hCk.alloc _); (first | exact hvk.bound | exact hvk.bound.alloc _); rintro e w4 ⟨v4, rfl, h4, hv4, k4⟩; have k5 : Wr b wr w4 := (by first | exact (Wr.refl b wr).drew.trans k4 | exact ((wr_alloc (Wr.refl b wr) (by omega) _).drew).trans k4); obtain ⟨A4, c4, rfl⟩ := hv4.slice; obtain ⟨N4, hN4⟩ : ∃ N, N = (LI (mDo pn (mActs pn R (ls.take k)) (rd_T33 ls k).f0 (rd_T33 ls k).f1 (rd_T33 ls k).f2)).length := ⟨_, rfl⟩; rw [← hN4] at hv4 ⊢; clear hN4; have t0' := blk_cell (wr_blk k5 Fk (by omega)) 0; have t1' := blk_cell (wr_blk k5 Fk (by omega)) 1; have a0' := wr_cell k5 a0 hadb; have a1' := wr_cell k5 a1 hadb; have a2' := wr_cell k5 a2 hadb; try (have m0 := wr_blk k4 (blk_new wr _) (by omega); have m1 := blk_cell m0 0; have m2 := blk_cell m0 1; have m3 := blk_frozen m0 0; have m4 := blk_frozen m0 1; have n0 := far2 w4 wr.heap.size t0' (by simp; omega); have n1 := far2 w4 wr.heap.size t1' (by simp; omega); have n2 := far2 w4 wr.heap.size a0' (by omega); have n3 := far2 w4 wr.heap.size a1' (by simp only; omega); have n4 := far2 w4 wr.heap.size a2' (by simp only; omega))))
      · rename_i hHeld
        have z5 := hCk.blt
        have k6 : Below w.heap.size w w4 := Hk.trans (k5.1.mono (by omega))
        have hPm : ∀ q, (((q ≠ b ∧ q ≠ w.heap.size ∧ q ≠ bm) ∧ q < wr.heap.size) ∨ wr.drew.heap.size ≤ q) → (q ≠ b ∧ q ≠ w.heap.size ∧ q ≠ bm) := fun q hq => by
          rcases hq with hq | hq
          · exact hq.1
          · have hq' : wr.heap.size ≤ q := hq
            omega
        have Q5 := blk_new w4 (.cells #[.int .i64 (pn : Int), .slice A4 N4 c4] 27)
        have h5 := h4.alloc (.cells #[.int .i64 (pn : Int), .slice A4 N4 c4] 27)
        have v5 := (hv4.alloc (.cells #[.int .i64 (pn : Int), .slice A4 N4 c4] 27)).mono hPm
        have F5 := blk_alloc (wr_blk k5 Fk (by omega)) (.cells #[.int .i64 (pn : Int), .slice A4 N4 c4] 27)
        have E5 := blk_alloc (wr_blk k5 Ek (by omega)) (.cells #[.int .i64 (pn : Int), .slice A4 N4 c4] 27)
        have H5 := k6.alloc (by have := k5.size; omega) (.cells #[.int .i64 (pn : Int), .slice A4 N4 c4] 27)
        have z6 := k5.size
        have hne : w4.heap.size ≠ bm := by omega
        generalize w4.alloc (.cells #[.int .i64 (pn : Int), .slice A4 N4 c4] 27) = W5 at *
        clear hHeld t0 t1 t0' t1' a0 a1 a2 a0' a1' a2' h4 hv4
        have t0 := blk_cell F5 0
        have t1 := blk_cell F5 1
        have f0 := blk_frozen F5 0
        have f1 := blk_frozen F5 1
        have q0 := blk_cell Q5 0
        have q1 := blk_cell Q5 1
        have z5b := blk_lt F5
        go_wp2_with fail
        go_roundw
        case rel =>
          have e1 : ((W5.setCell ⟨bm, 0, none⟩ (.int .i64 (pn : Int))).setCell ⟨bm, 1, none⟩ (.slice A4 N4 c4)).heap[bm]? = some (.cells #[.int .i64 (pn : Int), .slice A4 N4 c4] 27 (0, 0)) := blk_put (blk_put F5 0 _ rfl) 1 _ rfl
          refine ⟨k + 1, A4, N4, c4, by simp, by omega, ?_, e1, ?_, ?_, ?_⟩
          · rw [hsn'.out]
            exact h5.keep ((Below.heap_setCell _ _ _ _ (by simp; omega)).trans (Below.heap_setCell _ _ _ _ (by simp; omega))) ((Below.heap_setCell _ _ _ _ (by simp; omega)).trans (Below.heap_setCell _ _ _ _ (by simp; omega)))
          · rw [hsn'.out]
            exact RefP.far (RefP.far v5 (fun q hq => by simp only; omega) _) (fun q hq => by simp only; omega) _
          · exact (Below.heap_setCell _ _ _ _ (by simp; omega)).trans ((Below.heap_setCell _ _ _ _ (by simp; omega)).trans E5)
          · exact (H5.setCell (p := ⟨bm, 0, none⟩) (by simp; omega) _).setCell (p := ⟨bm, 1, none⟩) (by simp; omega) _
        case measure => simp [intOf]; omega
      · rename_i hHeld
        have z5 := hCk.blt
        have k6 : Below w.heap.size w w4 := Hk.trans (k5.1.mono (by omega))
        have hPm : ∀ q, (((q ≠ b ∧ q ≠ w.heap.size ∧ q ≠ bm) ∧ q < wr.heap.size) ∨ (wr.alloc (.cells #[.int .i64 0, .slice none 0 0] 27)).drew.heap.size ≤ q) → (q ≠ b ∧ q ≠ w.heap.size ∧ q ≠ bm) := fun q hq => by
          rcases hq with hq | hq
          · exact hq.1
          · have hq' : wr.heap.size ≤ q := by have h9 : (wr.alloc (.cells #[.int .i64 0, .slice none 0 0] 27)).heap.size ≤ q := hq; rw [World.size_alloc] at h9; omega
            omega
        have Q5 : ((w4.setCell ⟨wr.heap.size, 0, none⟩ (.int .i64 (pn : Int))).setCell ⟨wr.heap.size, 1, none⟩ (.slice A4 N4 c4)).heap[wr.heap.size]? = some (.cells #[.int .i64 (pn : Int), .slice A4 N4 c4] 27 (0, 0)) := blk_put (blk_put m0 0 _ rfl) 1 _ rfl
        have hnq : ∀ q, (((q ≠ b ∧ q ≠ w.heap.size ∧ q ≠ bm) ∧ q < wr.heap.size) ∨ (wr.alloc (.cells #[.int .i64 0, .slice none 0 0] 27)).drew.heap.size ≤ q) → q ≠ wr.heap.size := fun q hq => by
          rcases hq with hq | hq
          · omega
          · have h9 : (wr.alloc (.cells #[.int .i64 0, .slice none 0 0] 27)).heap.size ≤ q := hq
            rw [World.size_alloc] at h9
            omega
        have zg := hCk.glt
        have h5 : Chn ((w4.setCell ⟨wr.heap.size, 0, none⟩ (.int .i64 (pn : Int))).setCell ⟨wr.heap.size, 1, none⟩ (.slice A4 N4 c4)) g b pn (mDo pn (mActs pn R (ls.take k)) (rd_T33 ls k).f0 (rd_T33 ls k).f1 (rd_T33 ls k).f2) :=
          h4.keep ((Below.heap_setCell _ _ _ _ (by simp; omega)).trans (Below.heap_setCell _ _ _ _ (by simp; omega))) ((Below.heap_setCell _ _ _ _ (by simp; omega)).trans (Below.heap_setCell _ _ _ _ (by simp; omega)))
        have v5 := (RefP.far (RefP.far hv4 (q := ⟨wr.heap.size, 0, none⟩) hnq (.int .i64 (pn : Int))) (q := ⟨wr.heap.size, 1, none⟩) hnq (.slice A4 N4 c4)).mono hPm
        have F5 : ((w4.setCell ⟨wr.heap.size, 0, none⟩ (.int .i64 (pn : Int))).setCell ⟨wr.heap.size, 1, none⟩ (.slice A4 N4 c4)).heap[bm]? = some (.cells #[.int .i64 (pn : Int), .slice A' N' c'] 27 (0, 0)) := (Below.heap_setCell _ _ _ _ (by simp; omega)).trans ((Below.heap_setCell _ _ _ _ (by simp; omega)).trans (wr_blk k5 Fk (by omega)))
        have E5 : ((w4.setCell ⟨wr.heap.size, 0, none⟩ (.int .i64 (pn : Int))).setCell ⟨wr.heap.size, 1, none⟩ (.slice A4 N4 c4)).heap[w.heap.size]? = some (.cells #[.int .i64 0, .slice none 0 0] 27 (0, 0)) := (Below.heap_setCell _ _ _ _ (by simp; omega)).trans ((Below.heap_setCell _ _ _ _ (by simp; omega)).trans (wr_blk k5 Ek (by omega)))
        have H5 : Below w.heap.size w ((w4.setCell ⟨wr.heap.size, 0, none⟩ (.int .i64 (pn : Int))).setCell ⟨wr.heap.size, 1, none⟩ (.slice A4 N4 c4)) := (k6.setCell (p := ⟨wr.heap.size, 0, none⟩) (by simp; omega) _).setCell (p := ⟨wr.heap.size, 1, none⟩) (by simp; omega) _
        have hne : wr.heap.size ≠ bm := by omega
        clear m0 m1 m2 m3 m4 n0 n1 n2 n3 n4 hnq
        generalize (w4.setCell ⟨wr.heap.size, 0, none⟩ (.int .i64 (pn : Int))).setCell ⟨wr.heap.size, 1, none⟩ (.slice A4 N4 c4) = W5 at *
        clear hHeld t0 t1 t0' t1' a0 a1 a2 a0' a1' a2' h4 hv4
        have t0 := blk_cell F5 0
        have t1 := blk_cell F5 1
        have f0 := blk_frozen F5 0
        have f1 := blk_frozen F5 1
        have q0 := blk_cell Q5 0
        have q1 := blk_cell Q5 1
        have z5b := blk_lt F5
        go_wp2_with fail
        go_roundw
        case rel =>
          have e1 : ((W5.setCell ⟨bm, 0, none⟩ (.int .i64 (pn : Int))).setCell ⟨bm, 1, none⟩ (.slice A4 N4 c4)).heap[bm]? = some (.cells #[.int .i64 (pn : Int), .slice A4 N4 c4] 27 (0, 0)) := blk_put (blk_put F5 0 _ rfl) 1 _ rfl
          refine ⟨k + 1, A4, N4, c4, by simp, by omega, ?_, e1, ?_, ?_, ?_⟩
          · rw [hsn'.out]
            exact h5.keep ((Below.heap_setCell _ _ _ _ (by simp; omega)).trans (Below.heap_setCell _ _ _ _ (by simp; omega))) ((Below.heap_setCell _ _ _ _ (by simp; omega)).trans (Below.heap_setCell _ _ _ _ (by simp; omega)))
          · rw [hsn'.out]
            exact RefP.far (RefP.far v5 (fun q hq => by simp only; omega) _) (fun q hq => by simp only; omega) _
          · exact (Below.heap_setCell _ _ _ _ (by simp; omega)).trans ((Below.heap_setCell _ _ _ _ (by simp; omega)).trans E5)
          · exact (H5.setCell (p := ⟨bm, 0, none⟩) (by simp; omega) _).setCell (p := ⟨bm, 1, none⟩) (by simp; omega) _
        case measure => simp [intOf]; omega
    · have d0 : decide ((k : Int) < (ls.length : Int)) = false := decide_eq_false (by omega)
      obtain rfl : k = ls.length := by omega
      have t0 := blk_cell Fk 0
      have t1 := blk_cell Fk 1
      have r0 := blk_cell Ek 0
      have r1 := blk_cell Ek 1
      have f0 := blk_frozen Ek 0
      have f1 := blk_frozen Ek 1
      have e0 : (wr.setCell ⟨w.heap.size, 0, none⟩ (.int .i64 (pn : Int))).heap[w.heap.size]? = some (.cells #[.int .i64 (pn : Int), .slice none 0 0] 27 (0, 0)) := blk_put Ek 0 _ rfl
      have e1 : ((wr.setCell ⟨w.heap.size, 0, none⟩ (.int .i64 (pn : Int))).setCell ⟨w.heap.size, 1, none⟩ (.slice A' N' c')).heap[w.heap.size]? = some (.cells #[.int .i64 (pn : Int), .slice A' N' c'] 27 (0, 0)) := blk_put e0 1 _ rfl
      have x0 := blk_cell e1 0
      have x1 := blk_cell e1 1
      have y0 := blk_cell e0 1
      rw [List.take_length] at hCk hvk
      go_wp2_with fail
      go_region
      go_wp2_with fail
      refine bodyPost_ret (v := .tuple #[.pointer (some ⟨g, 0, none⟩), .agg #[.int .i64 (pn : Int), .slice A' N' c'], .bool true]) (by simp [results, Try.results9, go_sem, x0, x1]) rfl ?_
      rw [← hR'.out]
      refine ⟨g, b, _, rfl, ?_, ?_, by omega, by omega, ((Hk.setCell (p := ⟨w.heap.size, 0, none⟩) (by simp) _).setCell (p := ⟨w.heap.size, 1, none⟩) (by simp) _).drew⟩
      · rw [Int.toNat_natCast]
        exact Chn.drew (hCk.keep ((Below.heap_setCell _ _ _ _ (by simp; omega)).trans (Below.heap_setCell _ _ _ _ (by simp; omega))) ((Below.heap_setCell _ _ _ _ (by simp; omega)).trans (Below.heap_setCell _ _ _ _ (by simp; omega))))
      · rw [Int.toNat_natCast]
        exact RefP.mono (RefP.far (RefP.far hvk (fun q hq => by simp only; omega) _) (fun q hq => by simp only; omega) _) (fun q hq => hq.1)
end Go.Proofs.Ytfnppjhkhdfmdaa.ChainT
