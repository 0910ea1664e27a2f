/-
  Chains: the law's do.
  No condition.
-/
import Derived.Test.YtfnppjhkhdfmdaaChainP
namespace Go.Proofs.Ytfnppjhkhdfmdaa.ChainQ
open Go.RowKit Go.Proofs.Ytfnppjhkhdfmdaa.ChainA Go.Proofs.Ytfnppjhkhdfmdaa.ChainM Go.Proofs.Ytfnppjhkhdfmdaa.ChainN Go.Proofs.Ytfnppjhkhdfmdaa.ChainF Go.Proofs.Ytfnppjhkhdfmdaa.ChainG Go.Proofs.Ytfnppjhkhdfmdaa.ChainP Go.Proofs.Ytfnppjhkhdfmdaa.GChainPlays Go.Proofs.YtfnppjhkhdfmdaaW.PrintWords Go.Proofs.YtfnppjhkhdfmdaaW.PrintLast Go.Proofs.YtfnppjhkhdfmdaaW.PrintMore
set_option linter.unusedVariables false
set_option linter.unusedSimpArgs false
/-- The document's lists in memory, in these blocks. -/
def RefP (w : World) (P : Nat → Prop) (v : Value) (L : List (List Nat)) : Prop := Kd.V (Kd.slice 3 (Kd.int .i64)) 36 w w.heap.size P v (LI L)
/-- The same, apart from block b. -/
def RefAt (w : World) (b : Nat) (v : Value) (L : List (List Nat)) : Prop := RefP w (fun k => k ≠ b) v L
section
variable {w w' : World} {b : Nat} {v : Value} {L : List (List Nat)} {P Q : Nat → Prop}
theorem RefP.wr (h : RefP w P v L) (k : Wr b w w') (hP : ∀ k, P k → k ≠ b) : RefP w' P v L := Kd.V_step h (fun q hq hlt => k.2.2 q hlt (hP q hq) (by simp))
theorem RefAt.wr (h : RefAt w b v L) (k : Wr b w w') : RefAt w' b v L := RefP.wr h k (fun _ hk => hk)
theorem RefP.below (h : RefP w P v L) (k : Below w.heap.size w w') : RefP w' P v L := Kd.V_below h k
theorem RefAt.below (h : RefAt w b v L) (k : Below w.heap.size w w') : RefAt w' b v L := RefP.below h k
theorem RefP.alloc (h : RefP w P v L) (o : Obj) : RefP (w.alloc o) P v L := Kd.V_alloc h o
theorem RefAt.alloc (h : RefAt w b v L) (o : Obj) : RefAt (w.alloc o) b v L := RefP.alloc h o
theorem RefP.slice (h : RefP w P v L) : ∃ A c, v = .slice A (LI L).length c := Kd.V_slice h
theorem RefAt.slice (h : RefAt w b v L) : ∃ A c, v = .slice A (LI L).length c := RefP.slice h
theorem RefP.mono (h : RefP w P v L) (hP : ∀ k, P k → Q k) : RefP w Q v L := Kd.V_mono h hP
theorem RefP.bound (h : RefP w P v L) : RefP w (fun k => P k ∧ k < w.heap.size) v L := Kd.V_bound h
theorem RefP.far (h : RefP w P v L) {q : Addr} (hP : ∀ k, P k → k ≠ q.block) (u : Value) : RefP (w.setCell q u) P v L := Kd.V_far h hP u
theorem RefP.out {n : Nat} (h : Kd.V (Kd.slice 3 (Kd.int .i64)) 36 w n P v (LI L)) : RefP w P v L := Kd.V_mono h (fun _ hk => hk)
end
theorem wr_far {b : Nat} {w W : World} (h : Wr b w W) {p : Addr} (hp : w.heap.size ≤ p.block) (hb : b ≤ p.block) (u : Value) : Wr b w (W.setCell p u) := ⟨h.1.setCell hb u, keep_far h.2 hp u⟩
theorem wr_alloc {b : Nat} {w W : World} (h : Wr b w W) (hb : b < w.heap.size) (o : Obj) : Wr b w (W.alloc o) := h.trans (Wr.of_below (by have := h.size; omega) ((Below.refl _ _).alloc (Nat.le_refl _) _))
theorem wr_blk {b : Nat} {W W' : World} (k : Wr b W W') {q : Nat} {o : Obj} (h : W.heap[q]? = some o) (hne : q ≠ b) : W'.heap[q]? = some o := (k.2.2 q (blk_lt h) hne (by simp)).trans h
theorem below_blk {n : Nat} {W W' : World} (k : Below n W W') {q : Nat} {o : Obj} (h : W.heap[q]? = some o) (hn : q < n) : W'.heap[q]? = some o := (k.block q hn).trans h
theorem mem_getD {L : List (List Nat)} {l : List Nat} (h : l ∈ L) : ∃ j : Nat, L[j]? = some l := by
  obtain ⟨j, hj, e⟩ := List.getElem_of_mem h
  exact ⟨j, by rw [List.getElem?_eq_getElem hj, e]⟩
theorem chn_fits {w : World} {g b p : Nat} {L : List (List Nat)} (h : Chn w g b p L) : Fits p L := by
  have h1 := chn_small h
  refine ⟨by omega, by omega, fun l hl => ?_⟩
  obtain ⟨j, hj⟩ := mem_getD hl
  have := chn_len h (j : Int)
  rw [atL_nat, getD_of hj] at this
  omega
/-- What an act makes of the lists. -/
def mDo (p : Nat) (L : List (List Nat)) (k x y : Int) : List (List Nat) :=
  if k = 0 then (mApp p L x y).1 else if k = 1 then (mIns p L x y).1 else if k = 2 then (mDrop p L x).1 else if k = 3 then (mSpl L x y).1 else L
theorem refApp_calls {P : Nat → Prop} {p : Nat} (x y : Int) {L : List (List Nat)} {v : Value} {w : World} (hf : Fits p L) (hm : RefP w P v L) :
    Calls Try.prog 26 #[.agg #[.int .i64 (p : Int), v], .int .i64 x, .int .i64 y] w fun e w' => ∃ v', e = .returned (.tuple #[.agg #[.int .i64 (p : Int), v'], .int .i64 (mApp p L x y).2]) ∧ RefP w' (fun k => P k ∨ w.heap.size ≤ k) v' (mApp p L x y).1 ∧ Below w.heap.size w w' := by
  obtain ⟨A, c, rfl⟩ := hm.slice
  refine (complineref06_Append.calls 6000 p P A c (LI L) x y _ _ _ w hm (append_f hf x y 6000 (by omega))).mono ?_
  rintro e w' ⟨v', rfl, h1, h2⟩
  exact ⟨v', rfl, RefP.out h1, h2⟩
theorem refIns_calls {P : Nat → Prop} {p : Nat} (x y : Int) {L : List (List Nat)} {v : Value} {w : World} (hf : Fits p L) (hm : RefP w P v L) :
    Calls Try.prog 27 #[.agg #[.int .i64 (p : Int), v], .int .i64 x, .int .i64 y] w fun e w' => ∃ v', e = .returned (.tuple #[.agg #[.int .i64 (p : Int), v'], .int .i64 (mIns p L x y).2]) ∧ RefP w' (fun k => P k ∨ w.heap.size ≤ k) v' (mIns p L x y).1 ∧ Below w.heap.size w w' := by
  obtain ⟨A, c, rfl⟩ := hm.slice
  refine (complineref06_Insert.calls 6000 p P A c (LI L) x y _ _ _ w hm (insert_f hf x y 6000 (by omega))).mono ?_
  rintro e w' ⟨v', rfl, h1, h2⟩
  exact ⟨v', rfl, RefP.out h1, h2⟩
theorem refDrop_calls {P : Nat → Prop} {p : Nat} (x : Int) {L : List (List Nat)} {v : Value} {w : World} (hf : Fits p L) (hm : RefP w P v L) :
    Calls Try.prog 28 #[.agg #[.int .i64 (p : Int), v], .int .i64 x] w fun e w' => ∃ v', e = .returned (.tuple #[.agg #[.int .i64 (p : Int), v'], .int .i64 (mDrop p L x).2]) ∧ RefP w' (fun k => P k ∨ w.heap.size ≤ k) v' (mDrop p L x).1 ∧ Below w.heap.size w w' := by
  obtain ⟨A, c, rfl⟩ := hm.slice
  refine (complineref06_Drop.calls 6000 p P A c (LI L) x _ _ _ w hm (drop_f hf x 6000 (by omega))).mono ?_
  rintro e w' ⟨v', rfl, h1, h2⟩
  exact ⟨v', rfl, RefP.out h1, h2⟩
theorem refSpl_calls {P : Nat → Prop} {p : Nat} (x y : Int) {L : List (List Nat)} {v : Value} {w : World} (hf : Fits p L) (hm : RefP w P v L) :
    Calls Try.prog 29 #[.agg #[.int .i64 (p : Int), v], .int .i64 x, .int .i64 y] w fun e w' => ∃ v', e = .returned (.tuple #[.agg #[.int .i64 (p : Int), v'], .int .i64 (mSpl L x y).2]) ∧ RefP w' (fun k => P k ∨ w.heap.size ≤ k) v' (mSpl L x y).1 ∧ Below w.heap.size w w' := by
  obtain ⟨A, c, rfl⟩ := hm.slice
  refine (complineref06_Splice.calls 6000 p P A c (LI L) x y _ _ _ w hm (splice_f hf x y 6000 (by omega))).mono ?_
  rintro e w' ⟨v', rfl, h1, h2⟩
  exact ⟨v', rfl, RefP.out h1, h2⟩
/-- What an act of both leaves. -/
def DoPost (g b p : Nat) (P : Nat → Prop) (L : List (List Nat)) (w : World) (e : Ending) (w' : World) : Prop := ∃ v', e = .returned (.tuple #[.agg #[.int .i64 (p : Int), v'], .bool true]) ∧ Chn w' g b p L ∧ RefP w' (fun k => P k ∨ w.heap.size ≤ k) v' L ∧ Wr b w w'
set_option maxRecDepth 100000 in
set_option maxHeartbeats 4000000 in
theorem do0_calls (g b p : Nat) (x y : Int) (L : List (List Nat)) (v : Value) (w : World) (P : Nat → Prop) (h : Chn w g b p L) (hm : RefP w P v L) (hP : ∀ k, P k → k ≠ b) :
    Calls Try.prog 10 #[.pointer (some ⟨g, 0, none⟩), .agg #[.int .i64 (p : Int), v], .agg #[.int .i64 0, .int .i64 x, .int .i64 y]] w (DoPost g b p P (mApp p L x y).1 w) := by
  have hu27 := Try.underlying27
  have hu33 := Try.underlying33
  have hbw := h.blt
  have hfit := chn_fits h
  obtain ⟨A, c, rfl⟩ := hm.slice
  obtain ⟨N, hN⟩ : ∃ N, N = (LI L).length := ⟨_, rfl⟩
  rw [← hN] at hm ⊢
  have B0 := blk_alloc (blk_alloc (blk_new w (.cells #[.int .i64 (p : Int), .slice A N c] 27)) (.cells #[.int .i64 0, .int .i64 x, .int .i64 y] 33)) (.cells #[.int .i64 0, .slice none 0 0] 27)
  have B1 := blk_alloc (blk_new (w.alloc (.cells #[.int .i64 (p : Int), .slice A N c] 27)) (.cells #[.int .i64 0, .int .i64 x, .int .i64 y] 33)) (.cells #[.int .i64 0, .slice none 0 0] 27)
  have B2 := blk_new ((w.alloc (.cells #[.int .i64 (p : Int), .slice A N c] 27)).alloc (.cells #[.int .i64 0, .int .i64 x, .int .i64 y] 33)) (.cells #[.int .i64 0, .slice none 0 0] 27)
  simp only [World.size_alloc] at B1 B2
  have hC0 := ((h.alloc (.cells #[.int .i64 (p : Int), .slice A N c] 27)).alloc (.cells #[.int .i64 0, .int .i64 x, .int .i64 y] 33)).alloc (.cells #[.int .i64 0, .slice none 0 0] 27)
  have hm0 := ((hm.bound.alloc (.cells #[.int .i64 (p : Int), .slice A N c] 27)).alloc (.cells #[.int .i64 0, .int .i64 x, .int .i64 y] 33)).alloc (.cells #[.int .i64 0, .slice none 0 0] 27)
  have hW0 : Wr b w (((w.alloc (.cells #[.int .i64 (p : Int), .slice A N c] 27)).alloc (.cells #[.int .i64 0, .int .i64 x, .int .i64 y] 33)).alloc (.cells #[.int .i64 0, .slice none 0 0] 27)) :=
    Wr.of_below (by omega) ((((Below.refl _ w).alloc (Nat.le_refl _) _).alloc (by simp) _).alloc (by simp; omega) _)
  clear hN
  go_enter Try.func10, Try.ntmps10
  go_wp2_with fail
  generalize ((w.alloc (.cells #[.int .i64 (p : Int), .slice A N c] 27)).alloc (.cells #[.int .i64 0, .int .i64 x, .int .i64 y] 33)).alloc (.cells #[.int .i64 0, .slice none 0 0] 27) = W0 at *
  refine (app_calls y x hC0).mono ?_
  rintro e w1 ⟨rfl, h1, k1⟩
  have D0 := wr_blk k1 B0 (by omega)
  have D1 := wr_blk k1 B1 (by omega)
  have D2 := wr_blk k1 B2 (by omega)
  have hm1 := hm0.wr k1 (fun _ hk => hP _ hk.1)
  have z1 := blk_lt D2
  clear B0 B1 B2 hm0 hC0
  have c0 := blk_cell D0 0
  have c1 := blk_cell D0 1
  have c2 := blk_cell D1 1
  have c3 := blk_cell D1 2
  simp only []
  go_wp2_with fail
  refine (refApp_calls x y hfit hm1).mono ?_
  rintro e w2 ⟨v', rfl, hm2, k2⟩
  have h2 := h1.below k2
  have E2 := below_blk k2 D2 (by omega)
  have z2 := k2.size
  have hW2 : Wr b w w2 := (hW0.trans k1).trans (Wr.of_below (by omega) k2)
  obtain ⟨A', c', rfl⟩ := hm2.slice
  obtain ⟨N', hN'⟩ : ∃ N', N' = (LI (mApp p L x y).1).length := ⟨_, rfl⟩
  rw [← hN'] at hm2 ⊢
  clear hN' c0 c1 c2 c3 D0 D1 D2 hm1
  have r0 := blk_cell E2 0
  have r1 := blk_cell E2 1
  have f0 := blk_frozen E2 0
  have f1 := blk_frozen E2 1
  have hz : w.heap.size + 1 + 1 < w2.heap.size := by omega
  generalize hv : (mApp p L x y).2 = ev at *
  have hv' := Lib.hid hv
  clear hv
  simp only []
  go_wp2_with fail
  have hres : (((w2.setCell ⟨w.heap.size + 1 + 1, 0, none⟩ (.int .i64 (p : Int))).setCell ⟨w.heap.size + 1 + 1, 1, none⟩ (.slice A' N' c')).alloc (.cells #[.int .i64 (p : Int), .slice A' N' c'] 27)).heap[w.heap.size + 1 + 1]? = some (.cells #[.int .i64 (p : Int), .slice A' N' c'] 27 (0, 0)) := blk_alloc (blk_put (blk_put E2 0 _ rfl) 1 _ rfl) _
  have x0 := blk_cell hres 0
  have x1 := blk_cell hres 1
  refine bodyPost_ret (v := .tuple #[.agg #[.int .i64 (p : Int), .slice A' N' c'], .bool true]) (by simp [results, Try.results10, go_sem, x0, x1]) rfl ?_
  refine ⟨_, rfl, ?_, ?_, ?_⟩
  · have hg := h.glt
    refine Chn.alloc (h2.keep ?_ ?_) _
    · exact (Below.heap_setCell _ _ _ _ (by simp; omega)).trans (Below.heap_setCell _ _ _ _ (by simp; omega))
    · exact (Below.heap_setCell _ _ _ _ (by simp; omega)).trans (Below.heap_setCell _ _ _ _ (by simp; omega))
  · refine RefP.alloc (RefP.mono (RefP.far (RefP.far hm2 ?_ _) ?_ _) ?_) _
    · intro k hk
      simp only
      rcases hk with hk | hk <;> omega
    · intro k hk
      simp only
      rcases hk with hk | hk <;> omega
    · intro k hk
      rcases hk with hk | hk
      · exact .inl hk.1
      · exact .inr (by omega)
  · exact wr_alloc (wr_far (wr_far hW2 (by simp; omega) (by simp; omega) _) (by simp; omega) (by simp; omega) _) hbw _
set_option maxRecDepth 100000 in
set_option maxHeartbeats 4000000 in
theorem do1_calls (g b p : Nat) (x y : Int) (L : List (List Nat)) (v : Value) (w : World) (P : Nat → Prop) (h : Chn w g b p L) (hm : RefP w P v L) (hP : ∀ k, P k → k ≠ b) :
    Calls Try.prog 10 #[.pointer (some ⟨g, 0, none⟩), .agg #[.int .i64 (p : Int), v], .agg #[.int .i64 1, .int .i64 x, .int .i64 y]] w (DoPost g b p P (mIns p L x y).1 w) := by
  have hu27 := Try.underlying27
  have hu33 := Try.underlying33
  have hbw := h.blt
  have hfit := chn_fits h
  obtain ⟨A, c, rfl⟩ := hm.slice
  obtain ⟨N, hN⟩ : ∃ N, N = (LI L).length := ⟨_, rfl⟩
  rw [← hN] at hm ⊢
  have B0 := blk_alloc (blk_alloc (blk_new w (.cells #[.int .i64 (p : Int), .slice A N c] 27)) (.cells #[.int .i64 1, .int .i64 x, .int .i64 y] 33)) (.cells #[.int .i64 0, .slice none 0 0] 27)
  have B1 := blk_alloc (blk_new (w.alloc (.cells #[.int .i64 (p : Int), .slice A N c] 27)) (.cells #[.int .i64 1, .int .i64 x, .int .i64 y] 33)) (.cells #[.int .i64 0, .slice none 0 0] 27)
  have B2 := blk_new ((w.alloc (.cells #[.int .i64 (p : Int), .slice A N c] 27)).alloc (.cells #[.int .i64 1, .int .i64 x, .int .i64 y] 33)) (.cells #[.int .i64 0, .slice none 0 0] 27)
  simp only [World.size_alloc] at B1 B2
  have hC0 := ((h.alloc (.cells #[.int .i64 (p : Int), .slice A N c] 27)).alloc (.cells #[.int .i64 1, .int .i64 x, .int .i64 y] 33)).alloc (.cells #[.int .i64 0, .slice none 0 0] 27)
  have hm0 := ((hm.bound.alloc (.cells #[.int .i64 (p : Int), .slice A N c] 27)).alloc (.cells #[.int .i64 1, .int .i64 x, .int .i64 y] 33)).alloc (.cells #[.int .i64 0, .slice none 0 0] 27)
  have hW0 : Wr b w (((w.alloc (.cells #[.int .i64 (p : Int), .slice A N c] 27)).alloc (.cells #[.int .i64 1, .int .i64 x, .int .i64 y] 33)).alloc (.cells #[.int .i64 0, .slice none 0 0] 27)) :=
    Wr.of_below (by omega) ((((Below.refl _ w).alloc (Nat.le_refl _) _).alloc (by simp) _).alloc (by simp; omega) _)
  clear hN
  go_enter Try.func10, Try.ntmps10
  go_wp2_with fail
  generalize ((w.alloc (.cells #[.int .i64 (p : Int), .slice A N c] 27)).alloc (.cells #[.int .i64 1, .int .i64 x, .int .i64 y] 33)).alloc (.cells #[.int .i64 0, .slice none 0 0] 27) = W0 at *
  refine (ins_calls x y hC0).mono ?_
  rintro e w1 ⟨rfl, h1, k1⟩
  have D0 := wr_blk k1 B0 (by omega)
  have D1 := wr_blk k1 B1 (by omega)
  have D2 := wr_blk k1 B2 (by omega)
  have hm1 := hm0.wr k1 (fun _ hk => hP _ hk.1)
  have z1 := blk_lt D2
  clear B0 B1 B2 hm0 hC0
  have c0 := blk_cell D0 0
  have c1 := blk_cell D0 1
  have c2 := blk_cell D1 1
  have c3 := blk_cell D1 2
  simp only []
  go_wp2_with fail
  refine (refIns_calls x y hfit hm1).mono ?_
  rintro e w2 ⟨v', rfl, hm2, k2⟩
  have h2 := h1.below k2
  have E2 := below_blk k2 D2 (by omega)
  have z2 := k2.size
  have hW2 : Wr b w w2 := (hW0.trans k1).trans (Wr.of_below (by omega) k2)
  obtain ⟨A', c', rfl⟩ := hm2.slice
  obtain ⟨N', hN'⟩ : ∃ N', N' = (LI (mIns p L x y).1).length := ⟨_, rfl⟩
  rw [← hN'] at hm2 ⊢
  clear hN' c0 c1 c2 c3 D0 D1 D2 hm1
  have r0 := blk_cell E2 0
  have r1 := blk_cell E2 1
  have f0 := blk_frozen E2 0
  have f1 := blk_frozen E2 1
  have hz : w.heap.size + 1 + 1 < w2.heap.size := by omega
  generalize hv : (mIns p L x y).2 = ev at *
  have hv' := Lib.hid hv
  clear hv
  simp only []
  go_wp2_with fail
  have hres : (((w2.setCell ⟨w.heap.size + 1 + 1, 0, none⟩ (.int .i64 (p : Int))).setCell ⟨w.heap.size + 1 + 1, 1, none⟩ (.slice A' N' c')).alloc (.cells #[.int .i64 (p : Int), .slice A' N' c'] 27)).heap[w.heap.size + 1 + 1]? = some (.cells #[.int .i64 (p : Int), .slice A' N' c'] 27 (0, 0)) := blk_alloc (blk_put (blk_put E2 0 _ rfl) 1 _ rfl) _
  have x0 := blk_cell hres 0
  have x1 := blk_cell hres 1
  refine bodyPost_ret (v := .tuple #[.agg #[.int .i64 (p : Int), .slice A' N' c'], .bool true]) (by simp [results, Try.results10, go_sem, x0, x1]) rfl ?_
  refine ⟨_, rfl, ?_, ?_, ?_⟩
  · have hg := h.glt
    refine Chn.alloc (h2.keep ?_ ?_) _
    · exact (Below.heap_setCell _ _ _ _ (by simp; omega)).trans (Below.heap_setCell _ _ _ _ (by simp; omega))
    · exact (Below.heap_setCell _ _ _ _ (by simp; omega)).trans (Below.heap_setCell _ _ _ _ (by simp; omega))
  · refine RefP.alloc (RefP.mono (RefP.far (RefP.far hm2 ?_ _) ?_ _) ?_) _
    · intro k hk
      simp only
      rcases hk with hk | hk <;> omega
    · intro k hk
      simp only
      rcases hk with hk | hk <;> omega
    · intro k hk
      rcases hk with hk | hk
      · exact .inl hk.1
      · exact .inr (by omega)
  · exact wr_alloc (wr_far (wr_far hW2 (by simp; omega) (by simp; omega) _) (by simp; omega) (by simp; omega) _) hbw _
set_option maxRecDepth 100000 in
set_option maxHeartbeats 4000000 in
theorem do2_calls (g b p : Nat) (x y : Int) (L : List (List Nat)) (v : Value) (w : World) (P : Nat → Prop) (h : Chn w g b p L) (hm : RefP w P v L) (hP : ∀ k, P k → k ≠ b) :
    Calls Try.prog 10 #[.pointer (some ⟨g, 0, none⟩), .agg #[.int .i64 (p : Int), v], .agg #[.int .i64 2, .int .i64 x, .int .i64 y]] w (DoPost g b p P (mDrop p L x).1 w) := by
  have hu27 := Try.underlying27
  have hu33 := Try.underlying33
  have hbw := h.blt
  have hfit := chn_fits h
  obtain ⟨A, c, rfl⟩ := hm.slice
  obtain ⟨N, hN⟩ : ∃ N, N = (LI L).length := ⟨_, rfl⟩
  rw [← hN] at hm ⊢
  have B0 := blk_alloc (blk_alloc (blk_new w (.cells #[.int .i64 (p : Int), .slice A N c] 27)) (.cells #[.int .i64 2, .int .i64 x, .int .i64 y] 33)) (.cells #[.int .i64 0, .slice none 0 0] 27)
  have B1 := blk_alloc (blk_new (w.alloc (.cells #[.int .i64 (p : Int), .slice A N c] 27)) (.cells #[.int .i64 2, .int .i64 x, .int .i64 y] 33)) (.cells #[.int .i64 0, .slice none 0 0] 27)
  have B2 := blk_new ((w.alloc (.cells #[.int .i64 (p : Int), .slice A N c] 27)).alloc (.cells #[.int .i64 2, .int .i64 x, .int .i64 y] 33)) (.cells #[.int .i64 0, .slice none 0 0] 27)
  simp only [World.size_alloc] at B1 B2
  have hC0 := ((h.alloc (.cells #[.int .i64 (p : Int), .slice A N c] 27)).alloc (.cells #[.int .i64 2, .int .i64 x, .int .i64 y] 33)).alloc (.cells #[.int .i64 0, .slice none 0 0] 27)
  have hm0 := ((hm.bound.alloc (.cells #[.int .i64 (p : Int), .slice A N c] 27)).alloc (.cells #[.int .i64 2, .int .i64 x, .int .i64 y] 33)).alloc (.cells #[.int .i64 0, .slice none 0 0] 27)
  have hW0 : Wr b w (((w.alloc (.cells #[.int .i64 (p : Int), .slice A N c] 27)).alloc (.cells #[.int .i64 2, .int .i64 x, .int .i64 y] 33)).alloc (.cells #[.int .i64 0, .slice none 0 0] 27)) :=
    Wr.of_below (by omega) ((((Below.refl _ w).alloc (Nat.le_refl _) _).alloc (by simp) _).alloc (by simp; omega) _)
  clear hN
  go_enter Try.func10, Try.ntmps10
  go_wp2_with fail
  generalize ((w.alloc (.cells #[.int .i64 (p : Int), .slice A N c] 27)).alloc (.cells #[.int .i64 2, .int .i64 x, .int .i64 y] 33)).alloc (.cells #[.int .i64 0, .slice none 0 0] 27) = W0 at *
  refine (dr_calls x hC0).mono ?_
  rintro e w1 ⟨rfl, h1, k1⟩
  have D0 := wr_blk k1 B0 (by omega)
  have D1 := wr_blk k1 B1 (by omega)
  have D2 := wr_blk k1 B2 (by omega)
  have hm1 := hm0.wr k1 (fun _ hk => hP _ hk.1)
  have z1 := blk_lt D2
  clear B0 B1 B2 hm0 hC0
  have c0 := blk_cell D0 0
  have c1 := blk_cell D0 1
  have c2 := blk_cell D1 1
  have c3 := blk_cell D1 2
  simp only []
  go_wp2_with fail
  refine (refDrop_calls x hfit hm1).mono ?_
  rintro e w2 ⟨v', rfl, hm2, k2⟩
  have h2 := h1.below k2
  have E2 := below_blk k2 D2 (by omega)
  have z2 := k2.size
  have hW2 : Wr b w w2 := (hW0.trans k1).trans (Wr.of_below (by omega) k2)
  obtain ⟨A', c', rfl⟩ := hm2.slice
  obtain ⟨N', hN'⟩ : ∃ N', N' = (LI (mDrop p L x).1).length := ⟨_, rfl⟩
  rw [← hN'] at hm2 ⊢
  clear hN' c0 c1 c2 c3 D0 D1 D2 hm1
  have r0 := blk_cell E2 0
  have r1 := blk_cell E2 1
  have f0 := blk_frozen E2 0
  have f1 := blk_frozen E2 1
  have hz : w.heap.size + 1 + 1 < w2.heap.size := by omega
  generalize hv : (mDrop p L x).2 = ev at *
  have hv' := Lib.hid hv
  clear hv
  simp only []
  go_wp2_with fail
  have hres : (((w2.setCell ⟨w.heap.size + 1 + 1, 0, none⟩ (.int .i64 (p : Int))).setCell ⟨w.heap.size + 1 + 1, 1, none⟩ (.slice A' N' c')).alloc (.cells #[.int .i64 (p : Int), .slice A' N' c'] 27)).heap[w.heap.size + 1 + 1]? = some (.cells #[.int .i64 (p : Int), .slice A' N' c'] 27 (0, 0)) := blk_alloc (blk_put (blk_put E2 0 _ rfl) 1 _ rfl) _
  have x0 := blk_cell hres 0
  have x1 := blk_cell hres 1
  refine bodyPost_ret (v := .tuple #[.agg #[.int .i64 (p : Int), .slice A' N' c'], .bool true]) (by simp [results, Try.results10, go_sem, x0, x1]) rfl ?_
  refine ⟨_, rfl, ?_, ?_, ?_⟩
  · have hg := h.glt
    refine Chn.alloc (h2.keep ?_ ?_) _
    · exact (Below.heap_setCell _ _ _ _ (by simp; omega)).trans (Below.heap_setCell _ _ _ _ (by simp; omega))
    · exact (Below.heap_setCell _ _ _ _ (by simp; omega)).trans (Below.heap_setCell _ _ _ _ (by simp; omega))
  · refine RefP.alloc (RefP.mono (RefP.far (RefP.far hm2 ?_ _) ?_ _) ?_) _
    · intro k hk
      simp only
      rcases hk with hk | hk <;> omega
    · intro k hk
      simp only
      rcases hk with hk | hk <;> omega
    · intro k hk
      rcases hk with hk | hk
      · exact .inl hk.1
      · exact .inr (by omega)
  · exact wr_alloc (wr_far (wr_far hW2 (by simp; omega) (by simp; omega) _) (by simp; omega) (by simp; omega) _) hbw _
set_option maxRecDepth 100000 in
set_option maxHeartbeats 4000000 in
theorem do3_calls (g b p : Nat) (x y : Int) (L : List (List Nat)) (v : Value) (w : World) (P : Nat → Prop) (h : Chn w g b p L) (hm : RefP w P v L) (hP : ∀ k, P k → k ≠ b) :
    Calls Try.prog 10 #[.pointer (some ⟨g, 0, none⟩), .agg #[.int .i64 (p : Int), v], .agg #[.int .i64 3, .int .i64 x, .int .i64 y]] w (DoPost g b p P (mSpl L x y).1 w) := by
  have hu27 := Try.underlying27
  have hu33 := Try.underlying33
  have hbw := h.blt
  have hfit := chn_fits h
  obtain ⟨A, c, rfl⟩ := hm.slice
  obtain ⟨N, hN⟩ : ∃ N, N = (LI L).length := ⟨_, rfl⟩
  rw [← hN] at hm ⊢
  have B0 := blk_alloc (blk_alloc (blk_new w (.cells #[.int .i64 (p : Int), .slice A N c] 27)) (.cells #[.int .i64 3, .int .i64 x, .int .i64 y] 33)) (.cells #[.int .i64 0, .slice none 0 0] 27)
  have B1 := blk_alloc (blk_new (w.alloc (.cells #[.int .i64 (p : Int), .slice A N c] 27)) (.cells #[.int .i64 3, .int .i64 x, .int .i64 y] 33)) (.cells #[.int .i64 0, .slice none 0 0] 27)
  have B2 := blk_new ((w.alloc (.cells #[.int .i64 (p : Int), .slice A N c] 27)).alloc (.cells #[.int .i64 3, .int .i64 x, .int .i64 y] 33)) (.cells #[.int .i64 0, .slice none 0 0] 27)
  simp only [World.size_alloc] at B1 B2
  have hC0 := ((h.alloc (.cells #[.int .i64 (p : Int), .slice A N c] 27)).alloc (.cells #[.int .i64 3, .int .i64 x, .int .i64 y] 33)).alloc (.cells #[.int .i64 0, .slice none 0 0] 27)
  have hm0 := ((hm.bound.alloc (.cells #[.int .i64 (p : Int), .slice A N c] 27)).alloc (.cells #[.int .i64 3, .int .i64 x, .int .i64 y] 33)).alloc (.cells #[.int .i64 0, .slice none 0 0] 27)
  have hW0 : Wr b w (((w.alloc (.cells #[.int .i64 (p : Int), .slice A N c] 27)).alloc (.cells #[.int .i64 3, .int .i64 x, .int .i64 y] 33)).alloc (.cells #[.int .i64 0, .slice none 0 0] 27)) :=
    Wr.of_below (by omega) ((((Below.refl _ w).alloc (Nat.le_refl _) _).alloc (by simp) _).alloc (by simp; omega) _)
  clear hN
  go_enter Try.func10, Try.ntmps10
  go_wp2_with fail
  generalize ((w.alloc (.cells #[.int .i64 (p : Int), .slice A N c] 27)).alloc (.cells #[.int .i64 3, .int .i64 x, .int .i64 y] 33)).alloc (.cells #[.int .i64 0, .slice none 0 0] 27) = W0 at *
  refine (spl_calls g b p x y L _ hC0).mono ?_
  rintro e w1 ⟨rfl, h1, k1⟩
  have D0 := wr_blk k1 B0 (by omega)
  have D1 := wr_blk k1 B1 (by omega)
  have D2 := wr_blk k1 B2 (by omega)
  have hm1 := hm0.wr k1 (fun _ hk => hP _ hk.1)
  have z1 := blk_lt D2
  clear B0 B1 B2 hm0 hC0
  have c0 := blk_cell D0 0
  have c1 := blk_cell D0 1
  have c2 := blk_cell D1 1
  have c3 := blk_cell D1 2
  simp only []
  go_wp2_with fail
  refine (refSpl_calls x y hfit hm1).mono ?_
  rintro e w2 ⟨v', rfl, hm2, k2⟩
  have h2 := h1.below k2
  have E2 := below_blk k2 D2 (by omega)
  have z2 := k2.size
  have hW2 : Wr b w w2 := (hW0.trans k1).trans (Wr.of_below (by omega) k2)
  obtain ⟨A', c', rfl⟩ := hm2.slice
  obtain ⟨N', hN'⟩ : ∃ N', N' = (LI (mSpl L x y).1).length := ⟨_, rfl⟩
  rw [← hN'] at hm2 ⊢
  clear hN' c0 c1 c2 c3 D0 D1 D2 hm1
  have r0 := blk_cell E2 0
  have r1 := blk_cell E2 1
  have f0 := blk_frozen E2 0
  have f1 := blk_frozen E2 1
  have hz : w.heap.size + 1 + 1 < w2.heap.size := by omega
  generalize hv : (mSpl L x y).2 = ev at *
  have hv' := Lib.hid hv
  clear hv
  simp only []
  go_wp2_with fail
  have hres : (((w2.setCell ⟨w.heap.size + 1 + 1, 0, none⟩ (.int .i64 (p : Int))).setCell ⟨w.heap.size + 1 + 1, 1, none⟩ (.slice A' N' c')).alloc (.cells #[.int .i64 (p : Int), .slice A' N' c'] 27)).heap[w.heap.size + 1 + 1]? = some (.cells #[.int .i64 (p : Int), .slice A' N' c'] 27 (0, 0)) := blk_alloc (blk_put (blk_put E2 0 _ rfl) 1 _ rfl) _
  have x0 := blk_cell hres 0
  have x1 := blk_cell hres 1
  refine bodyPost_ret (v := .tuple #[.agg #[.int .i64 (p : Int), .slice A' N' c'], .bool true]) (by simp [results, Try.results10, go_sem, x0, x1]) rfl ?_
  refine ⟨_, rfl, ?_, ?_, ?_⟩
  · have hg := h.glt
    refine Chn.alloc (h2.keep ?_ ?_) _
    · exact (Below.heap_setCell _ _ _ _ (by simp; omega)).trans (Below.heap_setCell _ _ _ _ (by simp; omega))
    · exact (Below.heap_setCell _ _ _ _ (by simp; omega)).trans (Below.heap_setCell _ _ _ _ (by simp; omega))
  · refine RefP.alloc (RefP.mono (RefP.far (RefP.far hm2 ?_ _) ?_ _) ?_) _
    · intro k hk
      simp only
      rcases hk with hk | hk <;> omega
    · intro k hk
      simp only
      rcases hk with hk | hk <;> omega
    · intro k hk
      rcases hk with hk | hk
      · exact .inl hk.1
      · exact .inr (by omega)
  · exact wr_alloc (wr_far (wr_far hW2 (by simp; omega) (by simp; omega) _) (by simp; omega) (by simp; omega) _) hbw _
set_option maxRecDepth 100000 in
set_option maxHeartbeats 4000000 in
theorem do9_calls (g b p : Nat) (kd x y : Int) (L : List (List Nat)) (v : Value) (w : World) (P : Nat → Prop) (h : Chn w g b p L) (hm : RefP w P v L) (hP : ∀ k, P k → k ≠ b) (h0 : kd ≠ 0) (h1 : kd ≠ 1) (h2 : kd ≠ 2) (h3 : kd ≠ 3) :
    Calls Try.prog 10 #[.pointer (some ⟨g, 0, none⟩), .agg #[.int .i64 (p : Int), v], .agg #[.int .i64 kd, .int .i64 x, .int .i64 y]] w (DoPost g b p P L w) := by
  have hu27 := Try.underlying27
  have hu33 := Try.underlying33
  have hbw := h.blt
  have hg := h.glt
  obtain ⟨A, c, rfl⟩ := hm.slice
  obtain ⟨N, hN⟩ : ∃ N, N = (LI L).length := ⟨_, rfl⟩
  rw [← hN] at hm ⊢
  have b0 : (kd == 0) = false := beq_eq_false_iff_ne.mpr h0
  have b1 : (kd == 1) = false := beq_eq_false_iff_ne.mpr h1
  have b2 : (kd == 2) = false := beq_eq_false_iff_ne.mpr h2
  have b3 : (kd == 3) = false := beq_eq_false_iff_ne.mpr h3
  clear hN h0 h1 h2 h3
  go_enter Try.func10, Try.ntmps10
  go_wp2_with fail
  refine bodyPost_ret (v := .tuple #[.agg #[.int .i64 (p : Int), .slice A N c], .bool true]) (by simp [results, Try.results10, go_sem]) rfl ?_
  refine ⟨_, rfl, ?_, ?_, ?_⟩
  · exact ((h.alloc _).alloc _).alloc _
  · exact (((hm.alloc _).alloc _).alloc _).mono (fun _ hk => .inl hk)
  · exact wr_alloc (wr_alloc (wr_alloc (Wr.refl _ _) hbw _) hbw _) hbw _
theorem do_calls (g b p : Nat) (kd x y : Int) (L : List (List Nat)) (v : Value) (w : World) (P : Nat → Prop) (h : Chn w g b p L) (hm : RefP w P v L) (hP : ∀ k, P k → k ≠ b) :
    Calls Try.prog 10 #[.pointer (some ⟨g, 0, none⟩), .agg #[.int .i64 (p : Int), v], .agg #[.int .i64 kd, .int .i64 x, .int .i64 y]] w (DoPost g b p P (mDo p L kd x y) w) := by
  unfold mDo
  by_cases h0 : kd = 0
  · subst h0; rw [if_pos rfl]; exact do0_calls g b p x y L v w P h hm hP
  rw [if_neg h0]
  by_cases h1 : kd = 1
  · subst h1; rw [if_pos rfl]; exact do1_calls g b p x y L v w P h hm hP
  rw [if_neg h1]
  by_cases h2 : kd = 2
  · subst h2; rw [if_pos rfl]; exact do2_calls g b p x y L v w P h hm hP
  rw [if_neg h2]
  by_cases h3 : kd = 3
  · subst h3; rw [if_pos rfl]; exact do3_calls g b p x y L v w P h hm hP
  rw [if_neg h3]
  exact do9_calls g b p kd x y L v w P h hm hP h0 h1 h2 h3
end Go.Proofs.Ytfnppjhkhdfmdaa.ChainQ
