/-
  Chains in memory: what their cells hold, and join.
  No condition.
-/
import Derived.Test.YtokhbiaaaflphaaGListqPlaysx0
import Derived.OwnWalkIn
import Derived.TacticsInMore
import Derived.RegionTactic
import Derived.BigRegion
import Derived.ChangeAlike
namespace Go.Proofs.Ytokhbiaaaflphaa.ChainA
open Go.RowKit Go.Proofs.Ytokhbiaaaflphaa.GListqPlays Go.Proofs.YtokhbiaaaflphaaW.PrintWords Go.Proofs.YtokhbiaaaflphaaW.PrintLast Go.Proofs.YtokhbiaaaflphaaW.PrintMore
set_option linter.unusedVariables false
set_option linter.unusedSimpArgs false
/-- The cells of the nodes. -/
def cl : List S94 → List Value
  | [] => []
  | x :: xs => .int .i64 x.f0.f0 :: .int .i64 x.f0.f1 :: .int .i64 x.f1 :: cl xs
theorem cl_len : ∀ ns, (cl ns).length = 3 * ns.length
  | [] => rfl
  | x :: xs => by simp only [cl, List.length_cons, cl_len xs]; omega
def nd (ns : List S94) (i : Nat) : S94 := ns.getD i z94
theorem cl_0 : ∀ (ns : List S94) (i : Nat), i < ns.length → (cl ns)[i * 3]? = some (.int .i64 (nd ns i).f0.f0)
  | [], _, h => by simp at h
  | x :: xs, 0, _ => rfl
  | x :: xs, i + 1, h => by
    have := cl_0 xs i (by simpa using h)
    rw [show (i + 1) * 3 = i * 3 + 1 + 1 + 1 by omega]; simpa [cl, nd] using this
theorem cl_1 : ∀ (ns : List S94) (i : Nat), i < ns.length → (cl ns)[i * 3 + 1]? = some (.int .i64 (nd ns i).f0.f1)
  | [], _, h => by simp at h
  | x :: xs, 0, _ => rfl
  | x :: xs, i + 1, h => by
    have := cl_1 xs i (by simpa using h)
    rw [show (i + 1) * 3 + 1 = i * 3 + 1 + 1 + 1 + 1 by omega]; simpa [cl, nd] using this
theorem cl_2 : ∀ (ns : List S94) (i : Nat), i < ns.length → (cl ns)[i * 3 + 2]? = some (.int .i64 (nd ns i).f1)
  | [], _, h => by simp at h
  | x :: xs, 0, _ => rfl
  | x :: xs, i + 1, h => by
    have := cl_2 xs i (by simpa using h)
    rw [show (i + 1) * 3 + 2 = i * 3 + 2 + 1 + 1 + 1 by omega]; simpa [cl, nd] using this
def sNext (ns : List S94) (i : Nat) (v : Int) : List S94 := ns.set i ⟨⟨v, (nd ns i).f0.f1⟩, (nd ns i).f1⟩
def sPrev (ns : List S94) (i : Nat) (v : Int) : List S94 := ns.set i ⟨⟨(nd ns i).f0.f0, v⟩, (nd ns i).f1⟩
def sIn (ns : List S94) (i : Nat) (v : Int) : List S94 := ns.set i ⟨(nd ns i).f0, v⟩
theorem cl_s0 (v : Int) : ∀ (ns : List S94) (i : Nat), i < ns.length → (cl ns).set (i * 3) (.int .i64 v) = cl (sNext ns i v)
  | [], _, h => by simp at h
  | x :: xs, 0, _ => rfl
  | x :: xs, i + 1, h => by
    have := cl_s0 v xs i (by simpa using h)
    rw [show (i + 1) * 3 = i * 3 + 1 + 1 + 1 by omega]; simp only [cl, List.set_cons_succ, this]; rfl
theorem cl_s1 (v : Int) : ∀ (ns : List S94) (i : Nat), i < ns.length → (cl ns).set (i * 3 + 1) (.int .i64 v) = cl (sPrev ns i v)
  | [], _, h => by simp at h
  | x :: xs, 0, _ => rfl
  | x :: xs, i + 1, h => by
    have := cl_s1 v xs i (by simpa using h)
    rw [show (i + 1) * 3 + 1 = i * 3 + 1 + 1 + 1 + 1 by omega]; simp only [cl, List.set_cons_succ, this]; rfl
theorem cl_s2 (v : Int) : ∀ (ns : List S94) (i : Nat), i < ns.length → (cl ns).set (i * 3 + 2) (.int .i64 v) = cl (sIn ns i v)
  | [], _, h => by simp at h
  | x :: xs, 0, _ => rfl
  | x :: xs, i + 1, h => by
    have := cl_s2 v xs i (by simpa using h)
    rw [show (i + 1) * 3 + 2 = i * 3 + 2 + 1 + 1 + 1 by omega]; simp only [cl, List.set_cons_succ, this]; rfl
/-- Chains in memory. -/
def Ch (w : World) (g b : Nat) (p l : Int) (ns : List S94) : Prop :=
  w.heap[g]? = some (.cells #[.int .i64 p, .int .i64 l, .slice (some ⟨b, 0, none⟩) ns.length ns.length] 97 (0, 0)) ∧ w.heap[b]? = some (.cells (cl ns).toArray 94 (0, 0)) ∧ g ≠ b ∧ ns.length ≤ 2048
theorem adz (b m : Nat) : (⟨b, 0, none⟩ : Addr).add m = ⟨b, m, none⟩ := by
  unfold Addr.add
  by_cases h : m = 0
  · subst h; simp
  · simp [h]
theorem sNext_len (ns i v) : (sNext ns i v).length = ns.length := by simp [sNext]
theorem sPrev_len (ns i v) : (sPrev ns i v).length = ns.length := by simp [sPrev]
theorem sIn_len (ns i v) : (sIn ns i v).length = ns.length := by simp [sIn]
theorem Ch.c0 {w g b p l ns} (h : Ch w g b p l ns) : w.cell? ⟨g, 0, none⟩ = some (.int .i64 p) := blk_cell h.1 0
theorem Ch.c1 {w g b p l ns} (h : Ch w g b p l ns) : w.cell? ⟨g, 1, none⟩ = some (.int .i64 l) := blk_cell h.1 1
theorem Ch.c2 {w g b p l ns} (h : Ch w g b p l ns) : w.cell? ⟨g, 2, none⟩ = some (.slice (some ⟨b, 0, none⟩) ns.length ns.length) := blk_cell h.1 2
theorem Ch.n0 {w g b p l ns} (h : Ch w g b p l ns) (i : Nat) (hi : i < ns.length) : w.cell? ⟨b, i * 3, none⟩ = some (.int .i64 (nd ns i).f0.f0) := (blk_cell h.2.1 (i * 3)).trans (by rw [List.getElem?_toArray]; exact cl_0 ns i hi)
theorem Ch.n1 {w g b p l ns} (h : Ch w g b p l ns) (i : Nat) (hi : i < ns.length) : w.cell? ⟨b, i * 3 + 1, none⟩ = some (.int .i64 (nd ns i).f0.f1) := (blk_cell h.2.1 (i * 3 + 1)).trans (by rw [List.getElem?_toArray]; exact cl_1 ns i hi)
theorem Ch.n2 {w g b p l ns} (h : Ch w g b p l ns) (i : Nat) (hi : i < ns.length) : w.cell? ⟨b, i * 3 + 2, none⟩ = some (.int .i64 (nd ns i).f1) := (blk_cell h.2.1 (i * 3 + 2)).trans (by rw [List.getElem?_toArray]; exact cl_2 ns i hi)
theorem Ch.put {w g b p l ns} (h : Ch w g b p l ns) (j : Nat) (u : Value) (ns' : List S94) (hl : ns'.length = ns.length) (e : (cl ns).set j u = cl ns') : Ch (w.setCell ⟨b, j, none⟩ u) g b p l ns' := by
  obtain ⟨h1, h2, h3, h4⟩ := h
  refine ⟨?_, blk_put h2 j u ?_, h3, by omega⟩
  · rw [Below.heap_setCell _ ⟨b, j, none⟩ _ g h3, h1, hl]
  · rw [List.setIfInBounds_toArray, e]
theorem Ch.s0 {w g b p l ns} (h : Ch w g b p l ns) (i : Nat) (hi : i < ns.length) (v : Int) : Ch (w.setCell ⟨b, i * 3, none⟩ (.int .i64 v)) g b p l (sNext ns i v) := h.put _ _ _ (sNext_len ..) (cl_s0 v ns i hi)
theorem Ch.s1 {w g b p l ns} (h : Ch w g b p l ns) (i : Nat) (hi : i < ns.length) (v : Int) : Ch (w.setCell ⟨b, i * 3 + 1, none⟩ (.int .i64 v)) g b p l (sPrev ns i v) := h.put _ _ _ (sPrev_len ..) (cl_s1 v ns i hi)
theorem Ch.s2 {w g b p l ns} (h : Ch w g b p l ns) (i : Nat) (hi : i < ns.length) (v : Int) : Ch (w.setCell ⟨b, i * 3 + 2, none⟩ (.int .i64 v)) g b p l (sIn ns i v) := h.put _ _ _ (sIn_len ..) (cl_s2 v ns i hi)
theorem Ch.keep {w w' g b p l ns} (h : Ch w g b p l ns) (hg : w'.heap[g]? = w.heap[g]?) (hb : w'.heap[b]? = w.heap[b]?) : Ch w' g b p l ns := ⟨hg.trans h.1, hb.trans h.2.1, h.2.2⟩
theorem Ch.drew {w g b p l ns} (h : Ch w g b p l ns) : Ch w.drew g b p l ns := h
theorem Ch.drewN {w g b p l ns} (h : Ch w g b p l ns) (m : Nat) : Ch (w.drewN m) g b p l ns := h
theorem Ch.alloc {w g b p l ns} (h : Ch w g b p l ns) (o : Obj) : Ch (w.alloc o) g b p l ns := h.keep (Below.heap_alloc _ _ _ (blk_lt h.1)) (Below.heap_alloc _ _ _ (blk_lt h.2.1))
theorem Ch.below {w w' g b p l ns} (h : Ch w g b p l ns) (hb : Below w.heap.size w w') : Ch w' g b p l ns := h.keep (hb.block _ (blk_lt h.1)) (hb.block _ (blk_lt h.2.1))
/-- What a write does: block b alone of what there was is written. -/
def Wr (b : Nat) (w w' : World) : Prop := Below b w w' ∧ KeepBut w w' b none
theorem Wr.refl (b : Nat) (w : World) : Wr b w w := ⟨Below.refl b w, KeepBut.refl w b none⟩
theorem Wr.set {b w w'} (h : Wr b w w') (j : Nat) (u : Value) : Wr b w (w'.setCell ⟨b, j, none⟩ u) := ⟨h.1.setCell (p := ⟨b, j, none⟩) (Nat.le_refl b) u, h.2.set_ j u⟩
theorem Wr.drew {b w w'} (h : Wr b w w') : Wr b w w'.drew := ⟨h.1.drew, h.2⟩
theorem Wr.drewN {b w w'} (h : Wr b w w') (m : Nat) : Wr b w (w'.drewN m) := ⟨⟨h.1.os, h.1.tape, h.1.output, h.1.size, h.1.block⟩, h.2⟩
theorem Wr.trans {b w w1 w2} (h : Wr b w w1) (k : Wr b w1 w2) : Wr b w w2 := ⟨h.1.trans k.1, h.2.trans k.2 (.inl rfl)⟩
theorem Wr.size {b w w'} (h : Wr b w w') : w.heap.size ≤ w'.heap.size := h.2.1
theorem Wr.of_below {b w w'} (hb : b ≤ w.heap.size) (h : Below w.heap.size w w') : Wr b w w' := ⟨h.mono hb, KeepBut.of_below h b none⟩
theorem Wr.below {b w w1 w2} (hb : b < w.heap.size) (h : Wr b w w1) (k : Below w1.heap.size w1 w2) : Wr b w w2 := h.trans (Wr.of_below (by have := h.size; omega) k)
theorem Ch.blt {w g b p l ns} (h : Ch w g b p l ns) : b < w.heap.size := blk_lt h.2.1
set_option maxRecDepth 100000 in
set_option maxHeartbeats 4000000 in
theorem join_calls (g b : Nat) (p l : Int) (ns : List S94) (x y : Nat) (w : World) (hx : x < ns.length) (hy : y < ns.length) (h : Ch w g b p l ns) :
    Calls Try.prog 46 #[.pointer (some ⟨g, 0, none⟩), .int .i64 x, .int .i64 y] w fun e w' => e = .returned undef ∧ Ch w' g b p l (sPrev (sNext ns x y) y x) ∧ Wr b w w' := by
  have c2 := h.c2
  have hn := h.2.2.2
  have a1 := h.n0 x hx
  have b1 := h.n1 y hy
  have k1 := blk_frozen h.2.1 (x * 3)
  have k2 := blk_frozen h.2.1 (y * 3 + 1)
  go_enter Try.func46, Try.ntmps46
  go_wp2
  go_region
  go_end0
  exact ⟨rfl, ((h.s0 x hx y).s1 y (by rw [sNext_len]; exact hy) x).drew, (((Wr.refl b w).set _ _).set _ _).drew⟩
/-- Behind put. -/
def putN (ns : List S94) (x y q : Nat) (j : Int) : List S94 := sIn (sPrev (sNext (sPrev (sNext ns q x) x q) x y) y x) x j
theorem putN_len (ns x y q j) : (putN ns x y q j).length = ns.length := by simp only [putN, sIn_len, sPrev_len, sNext_len]
set_option maxRecDepth 100000 in
set_option maxHeartbeats 4000000 in
theorem put_calls (g b : Nat) (p l : Int) (ns : List S94) (x y q : Nat) (j : Int) (w : World) (hx : x < ns.length) (hy : y < ns.length) (hq : q < ns.length) (hp : (nd ns y).f0.f1 = q) (h : Ch w g b p l ns) :
    Calls Try.prog 54 #[.pointer (some ⟨g, 0, none⟩), .int .i64 x, .int .i64 y, .int .i64 j] w fun e w' => e = .returned undef ∧ Ch w' g b p l (putN ns x y q j) ∧ Wr b w w' := by
  have c2 := h.c2
  have hn := h.2.2.2
  have b1 := h.n1 y hy
  rw [hp] at b1
  go_enter Try.func54, Try.ntmps54
  go_wp2_with fail
  go_at_call 46
  refine (join_calls g b p l ns q x _ hq hx h).mono ?_
  rintro e w1 ⟨rfl, h1, k1⟩
  clear c2 b1 h hp
  simp only []
  go_wp2_with fail
  go_at_call 46
  refine (join_calls g b p l _ x y _ (by simp only [sNext_len, sPrev_len]; exact hx) (by simp only [sNext_len, sPrev_len]; exact hy) h1).mono ?_
  rintro e w2 ⟨rfl, h2, k2⟩
  simp only []
  have d2 := h2.c2
  simp only [sNext_len, sPrev_len] at d2
  have e2 := h2.n2 x (by simp only [sNext_len, sPrev_len]; exact hx)
  have f2 := blk_frozen h2.2.1 (x * 3 + 2)
  go_wp2_with fail
  go_end0
  exact ⟨rfl, h2.s2 x (by simp only [sNext_len, sPrev_len]; exact hx) j, (k1.trans k2).set _ _⟩
/-! What only reads. -/
set_option maxRecDepth 100000 in
set_option maxHeartbeats 4000000 in
theorem place_yes (g b : Nat) (p l i : Int) (ns : List S94) (w : World) (h : Ch w g b p l ns) (h0 : 0 ≤ i) (h1 : i < p) :
    Calls Try.prog 45 #[.pointer (some ⟨g, 0, none⟩), .int .i64 i] w fun e w' => e = .returned (.bool true) ∧ w' = w := by
  have c0 := h.c0
  have d0 : decide (0 ≤ i) = true := decide_eq_true h0
  have d1 : decide (i < p) = true := decide_eq_true h1
  go_enter Try.func45, Try.ntmps45
  go_wp2
  go_ret
  exact ⟨rfl, rfl⟩
set_option maxRecDepth 100000 in
set_option maxHeartbeats 4000000 in
theorem place_no (g b : Nat) (p l i : Int) (ns : List S94) (w : World) (h : Ch w g b p l ns) (hn : ¬ (0 ≤ i ∧ i < p)) :
    Calls Try.prog 45 #[.pointer (some ⟨g, 0, none⟩), .int .i64 i] w fun e w' => e = .returned (.bool false) ∧ w' = w := by
  have c0 := h.c0
  by_cases h0 : 0 ≤ i
  · have d0 : decide (0 ≤ i) = true := decide_eq_true h0
    have d1 : decide (i < p) = false := decide_eq_false (fun q => hn ⟨h0, q⟩)
    go_enter Try.func45, Try.ntmps45
    go_wp2
    go_ret
    exact ⟨rfl, rfl⟩
  · have d0 : decide (0 ≤ i) = false := decide_eq_false h0
    go_enter Try.func45, Try.ntmps45
    go_wp2
    go_ret
    exact ⟨rfl, rfl⟩
set_option maxRecDepth 100000 in
set_option maxHeartbeats 4000000 in
theorem list_yes (g b : Nat) (p l i : Int) (ns : List S94) (w : World) (h : Ch w g b p l ns) (h0 : 0 ≤ i) (h1 : i < l) :
    Calls Try.prog 53 #[.pointer (some ⟨g, 0, none⟩), .int .i64 i] w fun e w' => e = .returned (.bool true) ∧ w' = w := by
  have c0 := h.c1
  have d0 : decide (0 ≤ i) = true := decide_eq_true h0
  have d1 : decide (i < l) = true := decide_eq_true h1
  go_enter Try.func53, Try.ntmps53
  go_wp2
  go_ret
  exact ⟨rfl, rfl⟩
set_option maxRecDepth 100000 in
set_option maxHeartbeats 4000000 in
theorem list_no (g b : Nat) (p l i : Int) (ns : List S94) (w : World) (h : Ch w g b p l ns) (hn : ¬ (0 ≤ i ∧ i < l)) :
    Calls Try.prog 53 #[.pointer (some ⟨g, 0, none⟩), .int .i64 i] w fun e w' => e = .returned (.bool false) ∧ w' = w := by
  have c0 := h.c1
  by_cases h0 : 0 ≤ i
  · have d0 : decide (0 ≤ i) = true := decide_eq_true h0
    have d1 : decide (i < l) = false := decide_eq_false (fun q => hn ⟨h0, q⟩)
    go_enter Try.func53, Try.ntmps53
    go_wp2
    go_ret
    exact ⟨rfl, rfl⟩
  · have d0 : decide (0 ≤ i) = false := decide_eq_false h0
    go_enter Try.func53, Try.ntmps53
    go_wp2
    go_ret
    exact ⟨rfl, rfl⟩
set_option maxRecDepth 100000 in
set_option maxHeartbeats 4000000 in
theorem told_yes (g b : Nat) (p l i : Int) (ns : List S94) (w : World) (h : Ch w g b p l ns) (h0 : 0 ≤ i) (h1 : i < p) :
    Calls Try.prog 60 #[.pointer (some ⟨g, 0, none⟩), .int .i64 i] w fun e w' => e = .returned (.tuple #[.int .i64 i, .bool true]) ∧ w' = w := by
  go_enter Try.func60, Try.ntmps60
  go_wp2_with (go_at_call 45; with_reducible refine (place_yes g b p l i ns w h h0 h1).mono ?_; rintro e w1 ⟨rfl, rfl⟩)
  go_ret2
  exact ⟨rfl, rfl⟩
set_option maxRecDepth 100000 in
set_option maxHeartbeats 4000000 in
theorem told_no (g b : Nat) (p l i : Int) (ns : List S94) (w : World) (h : Ch w g b p l ns) (hn : ¬ (0 ≤ i ∧ i < p)) :
    Calls Try.prog 60 #[.pointer (some ⟨g, 0, none⟩), .int .i64 i] w fun e w' => e = .returned (.tuple #[.int .i64 0, .bool false]) ∧ w' = w := by
  go_enter Try.func60, Try.ntmps60
  go_wp2_with (go_at_call 45; with_reducible refine (place_no g b p l i ns w h hn).mono ?_; rintro e w1 ⟨rfl, rfl⟩)
  go_ret2
  exact ⟨rfl, rfl⟩
set_option maxRecDepth 100000 in
set_option maxHeartbeats 4000000 in
theorem append_ok (g b : Nat) (p l : Nat) (x j : Nat) (ns : List S94) (w : World) (h : Ch w g b p l ns) (hl : ns.length = p + l) (hx : x < p) (hj : j < l) (hin : (nd ns x).f1 = -1) (q : Nat) (hq : q < ns.length) (hp : (nd ns (p + j)).f0.f1 = q) :
    Calls Try.prog 35 #[.pointer (some ⟨g, 0, none⟩), .int .i64 j, .int .i64 x] w fun e w' => e = .returned (.int .i64 0) ∧ Ch w' g b p l (putN ns x (p + j) q j) ∧ Wr b w w' := by
  have c0 := h.c0
  have c2 := h.c2
  have a2 := h.n2 x (by omega)
  have hn := h.2.2.2
  rw [hin] at a2
  go_enter Try.func35, Try.ntmps35
  go_wp2_with (first | (go_at_call 53; with_reducible refine (list_yes g b p l j ns _ h (by omega) (by omega)).mono ?_; rintro e w1 ⟨rfl, rfl⟩) | (go_at_call 45; with_reducible refine (place_yes g b p l x ns _ h (by omega) (by omega)).mono ?_; rintro e w2 ⟨rfl, rfl⟩))
  rw [show ((p : Int) + (j : Int)) = ((p + j : Nat) : Int) by omega]
  refine (put_calls g b p l ns x (p + j) q j _ (by omega) (by omega) hq hp h).mono ?_
  rintro e w3 ⟨rfl, h3, k3⟩
  simp only []
  go_wp2_with fail
  go_ret
  exact ⟨rfl, h3, k3⟩
set_option maxRecDepth 100000 in
set_option maxHeartbeats 4000000 in
theorem append_arg (g b : Nat) (p l : Int) (x j : Int) (ns : List S94) (w : World) (h : Ch w g b p l ns) (hn : ¬ (0 ≤ j ∧ j < l) ∨ ¬ (0 ≤ x ∧ x < p)) :
    Calls Try.prog 35 #[.pointer (some ⟨g, 0, none⟩), .int .i64 j, .int .i64 x] w fun e w' => e = .returned (.int .i64 1) ∧ w' = w := by
  by_cases hj : 0 ≤ j ∧ j < l
  · have hx : ¬ (0 ≤ x ∧ x < p) := hn.resolve_left (fun q => q hj)
    go_enter Try.func35, Try.ntmps35
    go_wp2_with (first | (go_at_call 53; with_reducible refine (list_yes g b p l j ns _ h hj.1 hj.2).mono ?_; rintro e w1 ⟨rfl, rfl⟩) | (go_at_call 45; with_reducible refine (place_no g b p l x ns _ h hx).mono ?_; rintro e w2 ⟨rfl, rfl⟩))
    go_ret
    exact ⟨rfl, rfl⟩
  · go_enter Try.func35, Try.ntmps35
    go_wp2_with (go_at_call 53; with_reducible refine (list_no g b p l j ns _ h hj).mono ?_; rintro e w1 ⟨rfl, rfl⟩)
    go_ret
    exact ⟨rfl, rfl⟩
set_option maxRecDepth 100000 in
set_option maxHeartbeats 4000000 in
theorem append_twice (g b : Nat) (p l : Nat) (x j : Nat) (ns : List S94) (w : World) (h : Ch w g b p l ns) (hl : ns.length = p + l) (hx : x < p) (hj : j < l) (hin : (nd ns x).f1 ≠ -1) :
    Calls Try.prog 35 #[.pointer (some ⟨g, 0, none⟩), .int .i64 j, .int .i64 x] w fun e w' => e = .returned (.int .i64 4) ∧ w' = w := by
  have c2 := h.c2
  have a2 := h.n2 x (by omega)
  have hn := h.2.2.2
  have hb : ((nd ns x).f1 != -1) = true := bne_iff_ne.mpr hin
  go_enter Try.func35, Try.ntmps35
  go_wp2_with (first | (go_at_call 53; with_reducible refine (list_yes g b p l j ns _ h (by omega) (by omega)).mono ?_; rintro e w1 ⟨rfl, rfl⟩) | (go_at_call 45; with_reducible refine (place_yes g b p l x ns _ h (by omega) (by omega)).mono ?_; rintro e w2 ⟨rfl, rfl⟩))
  go_ret
  exact ⟨rfl, rfl⟩
set_option maxRecDepth 100000 in
set_option maxHeartbeats 4000000 in
theorem prev_yes (g b : Nat) (p l : Nat) (x : Nat) (ns : List S94) (w : World) (h : Ch w g b p l ns) (hl : ns.length = p + l) (hx : x < p) (hin : (nd ns x).f1 ≠ -1) (q : Nat) (hq : (nd ns x).f0.f1 = q) (hqp : q < p) :
    Calls Try.prog 49 #[.pointer (some ⟨g, 0, none⟩), .int .i64 x] w fun e w' => e = .returned (.tuple #[.int .i64 q, .bool true]) ∧ w' = w := by
  have c2 := h.c2
  have a2 := h.n2 x (by omega)
  have a0 := h.n1 x (by omega)
  have hn := h.2.2.2
  rw [hq] at a0
  have hb : ((nd ns x).f1 == -1) = false := beq_eq_false_iff_ne.mpr hin
  go_enter Try.func49, Try.ntmps49
  go_wp2_with (first | (go_at_call 45; with_reducible refine (place_yes g b p l x ns _ h (by omega) (by omega)).mono ?_; rintro e w2 ⟨rfl, rfl⟩) | (go_at_call 60; with_reducible refine (told_yes g b p l q ns _ h (by omega) (by omega)).mono ?_; rintro e w2 ⟨rfl, rfl⟩))
  go_ret2
  exact ⟨rfl, rfl⟩
set_option maxRecDepth 100000 in
set_option maxHeartbeats 4000000 in
theorem prev_end (g b : Nat) (p l : Nat) (x : Nat) (ns : List S94) (w : World) (h : Ch w g b p l ns) (hl : ns.length = p + l) (hx : x < p) (hin : (nd ns x).f1 ≠ -1) (q : Nat) (hq : (nd ns x).f0.f1 = q) (hqp : p ≤ q) :
    Calls Try.prog 49 #[.pointer (some ⟨g, 0, none⟩), .int .i64 x] w fun e w' => e = .returned (.tuple #[.int .i64 0, .bool false]) ∧ w' = w := by
  have c2 := h.c2
  have a2 := h.n2 x (by omega)
  have a0 := h.n1 x (by omega)
  have hn := h.2.2.2
  rw [hq] at a0
  have hb : ((nd ns x).f1 == -1) = false := beq_eq_false_iff_ne.mpr hin
  go_enter Try.func49, Try.ntmps49
  go_wp2_with (first | (go_at_call 45; with_reducible refine (place_yes g b p l x ns _ h (by omega) (by omega)).mono ?_; rintro e w2 ⟨rfl, rfl⟩) | (go_at_call 60; with_reducible refine (told_no g b p l q ns _ h (by omega)).mono ?_; rintro e w2 ⟨rfl, rfl⟩))
  go_ret2
  exact ⟨rfl, rfl⟩
set_option maxRecDepth 100000 in
set_option maxHeartbeats 4000000 in
theorem prev_none (g b : Nat) (p l : Nat) (x : Int) (ns : List S94) (w : World) (h : Ch w g b p l ns) (hl : ns.length = p + l) (hno : ¬ (0 ≤ x ∧ x < p) ∨ (nd ns x.toNat).f1 = -1) :
    Calls Try.prog 49 #[.pointer (some ⟨g, 0, none⟩), .int .i64 x] w fun e w' => e = .returned (.tuple #[.int .i64 0, .bool false]) ∧ w' = w := by
  by_cases hx : 0 ≤ x ∧ x < p
  · obtain ⟨m, rfl⟩ : ∃ m : Nat, x = m := ⟨x.toNat, by omega⟩
    have hin : (nd ns m).f1 = -1 := hno.resolve_left (fun q => q hx)
    have c2 := h.c2
    have a2 := h.n2 m (by omega)
    have hn := h.2.2.2
    rw [hin] at a2
    go_enter Try.func49, Try.ntmps49
    go_wp2_with (go_at_call 45; with_reducible refine (place_yes g b p l m ns _ h (by omega) (by omega)).mono ?_; rintro e w2 ⟨rfl, rfl⟩)
    go_ret2
    exact ⟨rfl, rfl⟩
  · go_enter Try.func49, Try.ntmps49
    go_wp2_with (go_at_call 45; with_reducible refine (place_no g b p l x ns _ h hx).mono ?_; rintro e w2 ⟨rfl, rfl⟩)
    go_ret2
    exact ⟨rfl, rfl⟩
set_option maxRecDepth 100000 in
set_option maxHeartbeats 4000000 in
theorem which_yes (g b : Nat) (p l : Nat) (x : Nat) (ns : List S94) (w : World) (h : Ch w g b p l ns) (hl : ns.length = p + l) (hx : x < p) (hin : (nd ns x).f1 ≠ -1) :
    Calls Try.prog 44 #[.pointer (some ⟨g, 0, none⟩), .int .i64 x] w fun e w' => e = .returned (.tuple #[.int .i64 (nd ns x).f1, .bool true]) ∧ w' = w := by
  have c2 := h.c2
  have a2 := h.n2 x (by omega)
  have hn := h.2.2.2
  have hb : ((nd ns x).f1 == -1) = false := beq_eq_false_iff_ne.mpr hin
  go_enter Try.func44, Try.ntmps44
  go_wp2_with (go_at_call 45; with_reducible refine (place_yes g b p l x ns _ h (by omega) (by omega)).mono ?_; rintro e w2 ⟨rfl, rfl⟩)
  go_ret2
  exact ⟨rfl, rfl⟩
set_option maxRecDepth 100000 in
set_option maxHeartbeats 4000000 in
theorem which_none (g b : Nat) (p l : Nat) (x : Int) (ns : List S94) (w : World) (h : Ch w g b p l ns) (hl : ns.length = p + l) (hno : ¬ (0 ≤ x ∧ x < p) ∨ (nd ns x.toNat).f1 = -1) :
    Calls Try.prog 44 #[.pointer (some ⟨g, 0, none⟩), .int .i64 x] w fun e w' => e = .returned (.tuple #[.int .i64 0, .bool false]) ∧ w' = w := by
  by_cases hx : 0 ≤ x ∧ x < p
  · obtain ⟨m, rfl⟩ : ∃ m : Nat, x = m := ⟨x.toNat, by omega⟩
    have hin : (nd ns m).f1 = -1 := hno.resolve_left (fun q => q hx)
    have c2 := h.c2
    have a2 := h.n2 m (by omega)
    have hn := h.2.2.2
    rw [hin] at a2
    go_enter Try.func44, Try.ntmps44
    go_wp2_with (go_at_call 45; with_reducible refine (place_yes g b p l m ns _ h (by omega) (by omega)).mono ?_; rintro e w2 ⟨rfl, rfl⟩)
    go_ret2
    exact ⟨rfl, rfl⟩
  · go_enter Try.func44, Try.ntmps44
    go_wp2_with (go_at_call 45; with_reducible refine (place_no g b p l x ns _ h hx).mono ?_; rintro e w2 ⟨rfl, rfl⟩)
    go_ret2
    exact ⟨rfl, rfl⟩
end Go.Proofs.Ytokhbiaaaflphaa.ChainA
