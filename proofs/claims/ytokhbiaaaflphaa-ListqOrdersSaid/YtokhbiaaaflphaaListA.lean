/-
  Queues in memory: the timers' cells, a queue's blocks, what is kept; at, Len.
  No condition.
-/
import Derived.Test.YtokhbiaaaflphaaListM
import Derived.Test.YtokhbiaaaflphaaChainF
namespace Go.Proofs.Ytokhbiaaaflphaa.ListA
open Go.RowKit Go.Proofs.Ytokhbiaaaflphaa.ChainA Go.Proofs.Ytokhbiaaaflphaa.ChainM Go.Proofs.Ytokhbiaaaflphaa.ChainN Go.Proofs.Ytokhbiaaaflphaa.ListM Go.Proofs.Ytokhbiaaaflphaa.GListqPlays Go.Proofs.YtokhbiaaaflphaaW.PrintWords Go.Proofs.YtokhbiaaaflphaaW.PrintLast Go.Proofs.YtokhbiaaaflphaaW.PrintMore
set_option linter.unusedVariables false
set_option linter.unusedSimpArgs false
def tc : List S38 → List Value
  | [] => []
  | x :: ns => .int .u64 x.f0 :: .int .u64 x.f1 :: .int .i64 x.f2 :: tc ns
theorem tc_len : ∀ ns, (tc ns).length = 3 * ns.length
  | [] => rfl
  | x :: ns => by simp only [tc, List.length_cons, tc_len ns]; omega
def tn (ns : List S38) (i : Nat) : S38 := ns.getD i z38
/-- A timer as a value. -/
def tv (t : S38) : Value := .agg #[.int .u64 t.f0, .int .u64 t.f1, .int .i64 t.f2]
theorem tc_0 : ∀ (ns : List S38) (i : Nat), i < ns.length → (tc ns)[i * 3]? = some (.int .u64 (tn ns i).f0)
  | [], i, h => absurd h (Nat.not_lt_zero _)
  | x :: ns, 0, h => rfl
  | x :: ns, i + 1, h => by
    rw [show (i + 1) * 3 = i * 3 + 1 + 1 + 1 by omega]
    simpa [tc, tn] using tc_0 ns i (by simpa using h)
theorem tc_1 : ∀ (ns : List S38) (i : Nat), i < ns.length → (tc ns)[i * 3 + 1]? = some (.int .u64 (tn ns i).f1)
  | [], i, h => absurd h (Nat.not_lt_zero _)
  | x :: ns, 0, h => rfl
  | x :: ns, i + 1, h => by
    rw [show (i + 1) * 3 + 1 = i * 3 + 1 + 1 + 1 + 1 by omega]
    simpa [tc, tn] using tc_1 ns i (by simpa using h)
theorem tc_2 : ∀ (ns : List S38) (i : Nat), i < ns.length → (tc ns)[i * 3 + 2]? = some (.int .i64 (tn ns i).f2)
  | [], i, h => absurd h (Nat.not_lt_zero _)
  | x :: ns, 0, h => rfl
  | x :: ns, i + 1, h => by
    rw [show (i + 1) * 3 + 2 = i * 3 + 2 + 1 + 1 + 1 by omega]
    simpa [tc, tn] using tc_2 ns i (by simpa using h)
theorem tc_set (t : S38) : ∀ (ns : List S38) (i : Nat), i < ns.length → (((tc ns).set (i * 3) (.int .u64 t.f0)).set (i * 3 + 1) (.int .u64 t.f1)).set (i * 3 + 2) (.int .i64 t.f2) = tc (ns.set i t)
  | [], i, h => absurd h (Nat.not_lt_zero _)
  | x :: ns, 0, h => rfl
  | x :: ns, i + 1, h => by
    have := tc_set t ns i (by simpa using h)
    rw [show (i + 1) * 3 = i * 3 + 1 + 1 + 1 by omega, show i * 3 + 1 + 1 + 1 + 1 = i * 3 + 1 + 1 + 1 + 1 from rfl, show i * 3 + 1 + 1 + 1 + 2 = i * 3 + 2 + 1 + 1 + 1 by omega]
    simp only [tc, List.set_cons_succ, this]
/-- The blocks of a queue: its own, its timers', its chains' two. -/
structure QB (w : World) (q gT g b p : Nat) (ts : List S38) (l : List Nat) : Prop where
  hq : w.heap[q]? = some (.cells #[.slice (some ⟨gT, 0, none⟩) p p, .pointer (some ⟨g, 0, none⟩), .int .i64 (l.length : Int)] 70 (0, 0))
  hT : w.heap[gT]? = some (.cells (tc ts).toArray 38 (0, 0))
  ht : ts.length = p
  hC : Chn w g b p [l]
  n1 : q ≠ gT
  n2 : q ≠ g
  n3 : q ≠ b
  n4 : gT ≠ g
  n5 : gT ≠ b
/-- A queue in which just these timers pend. -/
structure QL (w : World) (q gT g b p : Nat) (ts : List S38) (l : List Nat) (T : List S38) : Prop where
  bl : QB w q gT g b p ts l
  eT : T = l.map (tn ts)
  eF : ∀ i, i ∈ l → (tn ts i).f2 = (i : Int)
  hQ : QI p T
def QS (w : World) (q gT g b p : Nat) (T : List S38) : Prop := ∃ ts l, QL w q gT g b p ts l T
/-- Nothing but a queue's own blocks is written. -/
structure Fr (q gT b : Nat) (w w' : World) : Prop where
  os : w'.os = w.os
  tape : w'.tape = w.tape
  output : w'.output = w.output
  size : w.heap.size ≤ w'.heap.size
  block : ∀ k, k < w.heap.size → k ≠ q → k ≠ gT → k ≠ b → w'.heap[k]? = w.heap[k]?
theorem Fr.refl (q gT b : Nat) (w : World) : Fr q gT b w w := ⟨rfl, rfl, rfl, Nat.le_refl _, fun _ _ _ _ _ => rfl⟩
theorem Fr.trans {q gT b : Nat} {w w1 w2 : World} (h : Fr q gT b w w1) (k : Fr q gT b w1 w2) : Fr q gT b w w2 :=
  ⟨k.os.trans h.os, k.tape.trans h.tape, k.output.trans h.output, Nat.le_trans h.size k.size, fun i h1 h2 h3 h4 => (k.block i (by have := h.size; omega) h2 h3 h4).trans (h.block i h1 h2 h3 h4)⟩
theorem Fr.of_wr {q gT b : Nat} {w w' : World} (h : Wr b w w') : Fr q gT b w w' := ⟨h.1.os, h.1.tape, h.1.output, h.size, fun k h1 _ _ h4 => h.2.2 k h1 h4 (by simp)⟩
theorem Fr.of_below {q gT b : Nat} {w w' : World} (h : Below w.heap.size w w') : Fr q gT b w w' := ⟨h.os, h.tape, h.output, h.size, fun k h1 _ _ _ => h.block k h1⟩
theorem Fr.setq {q gT b : Nat} {w w' : World} (h : Fr q gT b w w') (j : Nat) (u : Value) : Fr q gT b w (w'.setCell ⟨q, j, none⟩ u) :=
  ⟨h.os, h.tape, h.output, by rw [World.size_setCell]; exact h.size, fun k h1 h2 h3 h4 => (Below.heap_setCell _ _ _ k h2).trans (h.block k h1 h2 h3 h4)⟩
theorem Fr.setT {q gT b : Nat} {w w' : World} (h : Fr q gT b w w') (j : Nat) (u : Value) : Fr q gT b w (w'.setCell ⟨gT, j, none⟩ u) :=
  ⟨h.os, h.tape, h.output, by rw [World.size_setCell]; exact h.size, fun k h1 h2 h3 h4 => (Below.heap_setCell _ _ _ k h3).trans (h.block k h1 h2 h3 h4)⟩
theorem Fr.far {q gT b : Nat} {w w' : World} (h : Fr q gT b w w') {p : Addr} (hp : w.heap.size ≤ p.block) (u : Value) : Fr q gT b w (w'.setCell p u) :=
  ⟨h.os, h.tape, h.output, by rw [World.size_setCell]; exact h.size, fun k h1 h2 h3 h4 => (Below.heap_setCell _ _ _ k (by omega)).trans (h.block k h1 h2 h3 h4)⟩
theorem Fr.alloc {q gT b : Nat} {w w' : World} (h : Fr q gT b w w') (o : Obj) : Fr q gT b w (w'.alloc o) := h.trans (Fr.of_below ((Below.refl _ _).alloc (Nat.le_refl _) _))
theorem Fr.drew {q gT b : Nat} {w w' : World} (h : Fr q gT b w w') : Fr q gT b w w'.drew := ⟨h.os, h.tape, h.output, h.size, h.block⟩
theorem Fr.below {q gT b m : Nat} {w w' : World} (h : Fr q gT b w w') (h0 : m ≤ w.heap.size) (h1 : m ≤ q) (h2 : m ≤ gT) (h3 : m ≤ b) : Below m w w' :=
  ⟨h.os, h.tape, h.output, h.size, fun k hk => h.block k (by omega) (by omega) (by omega) (by omega)⟩
theorem QB.keep {w w' : World} {q gT g b p : Nat} {ts : List S38} {l : List Nat} (h : QB w q gT g b p ts l) (k : ∀ i, i = q ∨ i = gT ∨ i = g ∨ i = b → w'.heap[i]? = w.heap[i]?) : QB w' q gT g b p ts l :=
  ⟨(k q (by simp)).trans h.hq, (k gT (by simp)).trans h.hT, h.ht, h.hC.keep (k g (by simp)) (k b (by simp)), h.n1, h.n2, h.n3, h.n4, h.n5⟩
theorem QB.lq {w : World} {q gT g b p : Nat} {ts : List S38} {l : List Nat} (h : QB w q gT g b p ts l) : q < w.heap.size := blk_lt h.hq
theorem QB.lT {w : World} {q gT g b p : Nat} {ts : List S38} {l : List Nat} (h : QB w q gT g b p ts l) : gT < w.heap.size := blk_lt h.hT
theorem QB.below {w w' : World} {q gT g b p : Nat} {ts : List S38} {l : List Nat} (h : QB w q gT g b p ts l) (k : Below w.heap.size w w') : QB w' q gT g b p ts l :=
  h.keep (fun i hi => k.block i (by have := h.lq; have := h.lT; have := h.hC.glt; have := h.hC.blt; omega))
theorem QL.below {w w' : World} {q gT g b p : Nat} {ts T : List S38} {l : List Nat} (h : QL w q gT g b p ts l T) (k : Below w.heap.size w w') : QL w' q gT g b p ts l T := ⟨h.bl.below k, h.eT, h.eF, h.hQ⟩
theorem QS.below {w w' : World} {q gT g b p : Nat} {T : List S38} (h : QS w q gT g b p T) (k : Below w.heap.size w w') : QS w' q gT g b p T := by
  obtain ⟨ts, l, h⟩ := h; exact ⟨ts, l, h.below k⟩
theorem QS.alloc {w : World} {q gT g b p : Nat} {T : List S38} (h : QS w q gT g b p T) (o : Obj) : QS (w.alloc o) q gT g b p T := h.below ((Below.refl _ _).alloc (Nat.le_refl _) _)
theorem QB.lb {w : World} {q gT g b p : Nat} {ts : List S38} {l : List Nat} (h : QB w q gT g b p ts l) : g < w.heap.size ∧ b < w.heap.size ∧ l.length ≤ p ∧ p ≤ 2048 := by
  have h1 := ChainF.chn_small h.hC
  have h2 := ChainF.chn_len h.hC 0
  refine ⟨h.hC.glt, h.hC.blt, h2, ?_⟩
  omega
/-- Another queue, of whose blocks none is one of this one's. -/
theorem QS.fr {w w' : World} {q gT g b p q2 gT2 b2 : Nat} {T : List S38} (h : QS w q gT g b p T) (k : Fr q2 gT2 b2 w w') (hn : ∀ i, i = q ∨ i = gT ∨ i = g ∨ i = b → i ≠ q2 ∧ i ≠ gT2 ∧ i ≠ b2) : QS w' q gT g b p T := by
  obtain ⟨ts, l, h⟩ := h
  refine ⟨ts, l, h.bl.keep (fun i hi => ?_), h.eT, h.eF, h.hQ⟩
  have := hn i hi
  exact k.block i (by have := h.bl.lq; have := h.bl.lT; have := h.bl.lb; omega) this.1 this.2.1 this.2.2
theorem below_blk {n : Nat} {W W' : World} (k : Below n W W') {q : Nat} {o : Obj} (h : W.heap[q]? = some o) (hn : q < n) : W'.heap[q]? = some o := (k.block q hn).trans h
theorem wr_blk {b : Nat} {W W' : World} (k : Wr b W W') {q : Nat} {o : Obj} (h : W.heap[q]? = some o) (hne : q ≠ b) : W'.heap[q]? = some o := (k.2.2 q (blk_lt h) hne (by simp)).trans h
theorem put3 {W : World} {k : Nat} {x y z : Value} {t : TypeId} (h : W.heap[k]? = some (.cells #[x, y, z] t (0, 0))) (a b c : Value) : (((W.setCell ⟨k, 0, none⟩ a).setCell ⟨k, 1, none⟩ b).setCell ⟨k, 2, none⟩ c).heap[k]? = some (.cells #[a, b, c] t (0, 0)) :=
  blk_put (blk_put (blk_put h 0 a rfl) 1 b rfl) 2 c rfl
theorem cell_of3 {W : World} {k : Nat} {x y z : Value} {t : TypeId} (h : W.heap[k]? = some (.cells #[x, y, z] t (0, 0))) : (W.cell? ⟨k, 0, none⟩ = some x ∧ W.cell? ⟨k, 1, none⟩ = some y) ∧ W.cell? ⟨k, 2, none⟩ = some z := ⟨⟨blk_cell h 0, blk_cell h 1⟩, blk_cell h 2⟩
theorem below_put3 {m k : Nat} {w W : World} (h : Below m w W) (hk : m ≤ k) (a b c : Value) : Below m w (((W.setCell ⟨k, 0, none⟩ a).setCell ⟨k, 1, none⟩ b).setCell ⟨k, 2, none⟩ c) :=
  ((h.setCell (p := ⟨k, 0, none⟩) hk a).setCell (p := ⟨k, 1, none⟩) hk b).setCell (p := ⟨k, 2, none⟩) hk c
theorem cell_new3 (w : World) (a b c : Value) (t : TypeId) : ((w.alloc (.cells #[a, b, c] t)).cell? ⟨w.heap.size, 0, none⟩ = some a ∧ (w.alloc (.cells #[a, b, c] t)).cell? ⟨w.heap.size, 1, none⟩ = some b) ∧ (w.alloc (.cells #[a, b, c] t)).cell? ⟨w.heap.size, 2, none⟩ = some c := by
  have h := World.alloc_heap_new w (.cells #[a, b, c] t)
  exact ⟨⟨blk_cell h 0, blk_cell h 1⟩, blk_cell h 2⟩
set_option maxRecDepth 100000 in
set_option maxHeartbeats 4000000 in
theorem at_calls (q gT g b p i : Nat) (ts : List S38) (l : List Nat) (w : World) (h : QB w q gT g b p ts l) (hi : i < p) :
    Calls Try.prog 27 #[.pointer (some ⟨q, 0, none⟩), .int .i64 (i : Int)] w fun e w' => e = .returned (tv (tn ts i)) ∧ Below w.heap.size w w' := by
  have b0 := blk_cell h.hq 0
  have hl : i < ts.length := by have := h.ht; omega
  have z0 : w.cell? ⟨gT, i * 3, none⟩ = some (.int .u64 (tn ts i).f0) := (blk_cell h.hT (i * 3)).trans (by rw [List.getElem?_toArray]; exact tc_0 ts i hl)
  have z1 : w.cell? ⟨gT, i * 3 + 1, none⟩ = some (.int .u64 (tn ts i).f1) := (blk_cell h.hT (i * 3 + 1)).trans (by rw [List.getElem?_toArray]; exact tc_1 ts i hl)
  have z2 : w.cell? ⟨gT, i * 3 + 2, none⟩ = some (.int .i64 (tn ts i).f2) := (blk_cell h.hT (i * 3 + 2)).trans (by rw [List.getElem?_toArray]; exact tc_2 ts i hl)
  have hb := h.lb
  have hq := h.lq
  have hT := h.lT
  have g1 : (i : Int) < (p : Int) := by omega
  go_enter Try.func27, Try.ntmps27
  go_wp2_with fail
  have x0 := cell_new3 w (.int .u64 (tn ts i).f0) (.int .u64 (tn ts i).f1) (.int .i64 (tn ts i).f2) 38
  refine bodyPost_ret (v := tv (tn ts i)) (by simp [results, Try.f27, go_sem, x0, tv]) rfl ?_
  exact ⟨rfl, (Below.refl _ _).alloc (Nat.le_refl _) _⟩
set_option maxRecDepth 100000 in
set_option maxHeartbeats 4000000 in
theorem len_calls (q gT g b p : Nat) (ts : List S38) (l : List Nat) (w : World) (h : QB w q gT g b p ts l) :
    Calls Try.prog 20 #[.pointer (some ⟨q, 0, none⟩)] w fun e w' => e = .returned (.int .i64 (l.length : Int)) ∧ w' = w := by
  have b2 := blk_cell h.hq 2
  go_enter Try.func20, Try.ntmps20
  go_wp2_with fail
  go_ret
  exact ⟨rfl, rfl⟩
set_option maxRecDepth 100000 in
set_option maxHeartbeats 4000000 in
theorem pends_calls (q gT g b p : Nat) (x : Int) (ts : List S38) (l : List Nat) (w : World) (h : QB w q gT g b p ts l) :
    Calls Try.prog 30 #[.pointer (some ⟨q, 0, none⟩), .int .i64 x] w fun e w' => e = .returned (.bool (mWhich p [l] x).2) ∧ w' = w := by
  have b1 := blk_cell h.hq 1
  go_enter Try.func30, Try.ntmps30
  go_wp2_with fail
  go_at_call 44
  refine (which_calls x h.hC).mono ?_
  rintro e w' ⟨rfl, rfl⟩
  simp only []
  go_wp2_with fail
  go_ret
  exact ⟨rfl, rfl⟩
set_option maxRecDepth 100000 in
set_option maxHeartbeats 4000000 in
theorem get_no (q gT g b p : Nat) (x : Int) (ts : List S38) (l : List Nat) (w : World) (h : QB w q gT g b p ts l) (hm : (mWhich p [l] x).2 = false) :
    Calls Try.prog 14 #[.pointer (some ⟨q, 0, none⟩), .int .i64 x] w fun e w' => e = .returned (.tuple #[tv z38, .bool false]) ∧ Below w.heap.size w w' := by
  go_enter Try.func14, Try.ntmps14
  go_wp2_with fail
  go_at_call 30
  refine (pends_calls q gT g b p x ts l _ (h.below ((Below.refl _ _).alloc (Nat.le_refl _) _))).mono ?_
  rintro e w' ⟨rfl, rfl⟩
  rw [hm]
  simp only []
  go_wp2_with fail
  have x0 := cell_new3 w (.int .u64 0) (.int .u64 0) (.int .i64 0) 38
  refine bodyPost_ret (v := .tuple #[tv z38, .bool false]) (by simp [results, Try.f14, go_sem, x0, tv, z38]) rfl ?_
  exact ⟨rfl, (Below.refl _ _).alloc (Nat.le_refl _) _⟩
set_option maxRecDepth 100000 in
set_option maxHeartbeats 4000000 in
theorem get_yes (q gT g b p i : Nat) (ts : List S38) (l : List Nat) (w : World) (h : QB w q gT g b p ts l) (hm : (mWhich p [l] (i : Int)).2 = true) (hi : i < p) :
    Calls Try.prog 14 #[.pointer (some ⟨q, 0, none⟩), .int .i64 (i : Int)] w fun e w' => e = .returned (.tuple #[tv (tn ts i), .bool true]) ∧ Below w.heap.size w w' := by
  have b0 := blk_cell h.hq 0
  have hl : i < ts.length := by have := h.ht; omega
  have z0 : w.cell? ⟨gT, i * 3, none⟩ = some (.int .u64 (tn ts i).f0) := (blk_cell h.hT (i * 3)).trans (by rw [List.getElem?_toArray]; exact tc_0 ts i hl)
  have z1 : w.cell? ⟨gT, i * 3 + 1, none⟩ = some (.int .u64 (tn ts i).f1) := (blk_cell h.hT (i * 3 + 1)).trans (by rw [List.getElem?_toArray]; exact tc_1 ts i hl)
  have z2 : w.cell? ⟨gT, i * 3 + 2, none⟩ = some (.int .i64 (tn ts i).f2) := (blk_cell h.hT (i * 3 + 2)).trans (by rw [List.getElem?_toArray]; exact tc_2 ts i hl)
  have hb := h.lb
  have hq := h.lq
  have hT := h.lT
  have g1 : (i : Int) < (p : Int) := by omega
  go_enter Try.func14, Try.ntmps14
  go_wp2_with fail
  go_at_call 30
  refine (pends_calls q gT g b p i ts l _ (h.below ((Below.refl _ _).alloc (Nat.le_refl _) _))).mono ?_
  rintro e w' ⟨rfl, rfl⟩
  rw [hm]
  simp only []
  go_wp2_with fail
  have x0 := cell_new3 w (.int .u64 (tn ts i).f0) (.int .u64 (tn ts i).f1) (.int .i64 (tn ts i).f2) 38
  refine bodyPost_ret (v := .tuple #[tv (tn ts i), .bool true]) (by simp [results, Try.f14, go_sem, x0, tv]) rfl ?_
  exact ⟨rfl, (Below.refl _ _).alloc (Nat.le_refl _) _⟩
set_option maxRecDepth 100000 in
set_option maxHeartbeats 4000000 in
theorem min_no (q gT g b p : Nat) (ts : List S38) (w : World) (h : QB w q gT g b p ts []) :
    Calls Try.prog 15 #[.pointer (some ⟨q, 0, none⟩)] w fun e w' => e = .returned (.tuple #[tv z38, .bool false]) ∧ Below w.heap.size w w' := by
  have b1 := blk_cell h.hq 1
  have hq := h.lq
  have hB0 : Below w.heap.size w (w.alloc (.cells #[.int .u64 0, .int .u64 0, .int .i64 0] 38)) := (Below.refl _ w).alloc (Nat.le_refl _) _
  have hR0 := World.alloc_heap_new w (.cells #[.int .u64 0, .int .u64 0, .int .i64 0] 38)
  go_enter Try.func15, Try.ntmps15
  go_wp2_with fail
  go_at_call 31
  refine (ChainF.first_calls g b p 0 [[]] _ (h.hC.alloc _)).mono ?_
  rintro e w' ⟨rfl, hb⟩
  have hB := hB0.trans (hb.mono (by simp))
  have hR := below_blk hb hR0 (by simp)
  have m := show (hdP (atL [[]] 0)) = (0, false) from rfl
  rw [m]
  generalize w.alloc (.cells #[.int .u64 0, .int .u64 0, .int .i64 0] 38) = W0 at *
  have c0 := blk_cell hR 0
  have c1 := blk_cell hR 1
  have c2 := blk_cell hR 2
  have f0 := blk_frozen hR 0
  have f1 := blk_frozen hR 1
  have f2 := blk_frozen hR 2
  simp only []
  go_wp2_with fail
  have x0 := cell_of3 (put3 hR (.int .u64 0) (.int .u64 0) (.int .i64 0))
  refine bodyPost_ret (v := .tuple #[tv z38, .bool false]) (by simp [results, Try.f15, go_sem, x0, tv, z38]) rfl ?_
  exact ⟨rfl, below_put3 hB (Nat.le_refl _) _ _ _⟩
set_option maxRecDepth 100000 in
set_option maxHeartbeats 4000000 in
theorem min_yes (q gT g b p i : Nat) (r : List Nat) (ts : List S38) (w : World) (h : QB w q gT g b p ts (i :: r)) :
    Calls Try.prog 15 #[.pointer (some ⟨q, 0, none⟩)] w fun e w' => e = .returned (.tuple #[tv (tn ts i), .bool true]) ∧ Below w.heap.size w w' := by
  have hi : i < p := ChainF.chn_lt h.hC 0 i List.mem_cons_self
  have hl : i < ts.length := by have := h.ht; omega
  have hq := h.lq
  have hT := h.lT
  have hb := h.lb
  have b1 := blk_cell h.hq 1
  have hB0 : Below w.heap.size w (w.alloc (.cells #[.int .u64 0, .int .u64 0, .int .i64 0] 38)) := (Below.refl _ w).alloc (Nat.le_refl _) _
  have hR0 := World.alloc_heap_new w (.cells #[.int .u64 0, .int .u64 0, .int .i64 0] 38)
  have g1 : (i : Int) < (p : Int) := by omega
  go_enter Try.func15, Try.ntmps15
  go_wp2_with fail
  go_at_call 31
  refine (ChainF.first_calls g b p 0 [i :: r] _ (h.hC.alloc _)).mono ?_
  rintro e w' ⟨rfl, hb⟩
  have hB := hB0.trans (hb.mono (by simp))
  have hR := below_blk hb hR0 (by simp)
  have m := show (hdP (atL [i :: r] 0)) = ((i : Int), true) from rfl
  rw [m]
  have hq' := (h.below hB).hq
  have hT' := (h.below hB).hT
  generalize w.alloc (.cells #[.int .u64 0, .int .u64 0, .int .i64 0] 38) = W0 at *
  have c0 := blk_cell hR 0
  have c1 := blk_cell hR 1
  have c2 := blk_cell hR 2
  have f0 := blk_frozen hR 0
  have f1 := blk_frozen hR 1
  have f2 := blk_frozen hR 2
  have b0 := blk_cell hq' 0
  have z0 : w'.cell? ⟨gT, i * 3, none⟩ = some (.int .u64 (tn ts i).f0) := (blk_cell hT' (i * 3)).trans (by rw [List.getElem?_toArray]; exact tc_0 ts i hl)
  have z1 : w'.cell? ⟨gT, i * 3 + 1, none⟩ = some (.int .u64 (tn ts i).f1) := (blk_cell hT' (i * 3 + 1)).trans (by rw [List.getElem?_toArray]; exact tc_1 ts i hl)
  have z2 : w'.cell? ⟨gT, i * 3 + 2, none⟩ = some (.int .i64 (tn ts i).f2) := (blk_cell hT' (i * 3 + 2)).trans (by rw [List.getElem?_toArray]; exact tc_2 ts i hl)
  simp only []
  go_wp2_with fail
  have x0 := cell_of3 (put3 hR (.int .u64 (tn ts i).f0) (.int .u64 (tn ts i).f1) (.int .i64 (tn ts i).f2))
  refine bodyPost_ret (v := .tuple #[tv (tn ts i), .bool true]) (by simp [results, Try.f15, go_sem, x0, tv]) rfl ?_
  exact ⟨rfl, below_put3 hB (Nat.le_refl _) _ _ _⟩
theorem QB.of_wr {w w' : World} {q gT g b p : Nat} {ts : List S38} {l l' : List Nat} (h : QB w q gT g b p ts l) (k : Wr b w w') (hC : Chn w' g b p [l']) (e : l'.length = l.length) : QB w' q gT g b p ts l' :=
  ⟨by rw [e]; exact wr_blk k h.hq h.n3, wr_blk k h.hT h.n5, h.ht, hC, h.n1, h.n2, h.n3, h.n4, h.n5⟩
set_option maxRecDepth 100000 in
set_option maxHeartbeats 4000000 in
theorem can_no (q gT g b p : Nat) (x c : Int) (ts : List S38) (l : List Nat) (w : World) (h : QB w q gT g b p ts l) (hm : mDrop p [l] x = ([l], c)) (hc : c ≠ 0) :
    Calls Try.prog 17 #[.pointer (some ⟨q, 0, none⟩), .int .i64 x] w fun e w' => e = .returned (.tuple #[tv z38, .int .i64 c]) ∧ QB w' q gT g b p ts l ∧ Fr q gT b w w' := by
  have b1 := blk_cell h.hq 1
  have hq := h.lq
  have hlb := h.lb
  have h0 := h.below ((Below.refl _ w).alloc (Nat.le_refl _) (.cells #[.int .u64 0, .int .u64 0, .int .i64 0] 38))
  have hF0 := (Fr.refl q gT b w).alloc (.cells #[.int .u64 0, .int .u64 0, .int .i64 0] 38)
  have hR0 := World.alloc_heap_new w (.cells #[.int .u64 0, .int .u64 0, .int .i64 0] 38)
  have d0 : (c != 0) = true := bne_iff_ne.mpr hc
  go_enter Try.func17, Try.ntmps17
  go_wp2_with fail
  go_at_call 32
  refine (dr_calls x h0.hC).mono ?_
  rintro e w' ⟨rfl, hC, hk⟩
  rw [hm] at hC ⊢
  have h1 := h0.of_wr hk hC rfl
  have hF := hF0.trans (Fr.of_wr hk)
  have hR := wr_blk hk hR0 (by omega)
  generalize w.alloc (.cells #[.int .u64 0, .int .u64 0, .int .i64 0] 38) = W0 at *
  obtain ⟨⟨c0, c1⟩, c2⟩ := cell_of3 hR
  have f0 := blk_frozen hR 0
  have f1 := blk_frozen hR 1
  have f2 := blk_frozen hR 2
  simp only []
  go_wp2_with fail
  have x0 := cell_of3 (put3 hR (.int .u64 0) (.int .u64 0) (.int .i64 0))
  refine bodyPost_ret (v := .tuple #[tv z38, .int .i64 c]) (by simp [results, Try.f17, go_sem, x0, tv, z38]) rfl ?_
  have hs := h1.lq
  refine ⟨rfl, h1.keep (fun i hi => ?_), ((hF.far (p := ⟨w.heap.size, 0, none⟩) (Nat.le_refl _) _).far (p := ⟨w.heap.size, 1, none⟩) (Nat.le_refl _) _).far (p := ⟨w.heap.size, 2, none⟩) (Nat.le_refl _) _⟩
  have h2 := h.lT
  have hi' : i ≠ w.heap.size := by omega
  rw [Below.heap_setCell _ _ _ i hi', Below.heap_setCell _ _ _ i hi', Below.heap_setCell _ _ _ i hi']
set_option maxRecDepth 100000 in
set_option maxHeartbeats 4000000 in
theorem can_yes (q gT g b p i : Nat) (ts : List S38) (l l' : List Nat) (w : World) (h : QB w q gT g b p ts l) (hm : mDrop p [l] (i : Int) = ([l'], 0)) (hi : i < p) (hll : l.length = l'.length + 1) :
    Calls Try.prog 17 #[.pointer (some ⟨q, 0, none⟩), .int .i64 (i : Int)] w fun e w' => e = .returned (.tuple #[tv (tn ts i), .int .i64 0]) ∧ QB w' q gT g b p ts l' ∧ Fr q gT b w w' := by
  have b1 := blk_cell h.hq 1
  have hq := h.lq
  have hT := h.lT
  have hlb := h.lb
  have hl : i < ts.length := by have := h.ht; omega
  have h0 := h.below ((Below.refl _ w).alloc (Nat.le_refl _) (.cells #[.int .u64 0, .int .u64 0, .int .i64 0] 38))
  have hF0 := (Fr.refl q gT b w).alloc (.cells #[.int .u64 0, .int .u64 0, .int .i64 0] 38)
  have hR0 := World.alloc_heap_new w (.cells #[.int .u64 0, .int .u64 0, .int .i64 0] 38)
  have g1 : (i : Int) < (p : Int) := by omega
  go_enter Try.func17, Try.ntmps17
  go_wp2_with fail
  go_at_call 32
  refine (dr_calls i h0.hC).mono ?_
  rintro e w' ⟨rfl, hC, hk⟩
  rw [hm] at hC ⊢
  have hq1 := wr_blk hk h0.hq h.n3
  have hT1 := wr_blk hk h0.hT h.n5
  have hF := hF0.trans (Fr.of_wr hk)
  have hR := wr_blk hk hR0 (by omega)
  have hs : w.heap.size < w'.heap.size := blk_lt hR
  generalize w.alloc (.cells #[.int .u64 0, .int .u64 0, .int .i64 0] 38) = W0 at *
  have c0 := blk_cell hR 0
  have c1 := blk_cell hR 1
  have c2 := blk_cell hR 2
  have f0 := blk_frozen hR 0
  have f1 := blk_frozen hR 1
  have f2 := blk_frozen hR 2
  have q0 := blk_cell hq1 0
  have q2 := blk_cell hq1 2
  have qf := blk_frozen hq1 2
  have z0 : w'.cell? ⟨gT, i * 3, none⟩ = some (.int .u64 (tn ts i).f0) := (blk_cell hT1 (i * 3)).trans (by rw [List.getElem?_toArray]; exact tc_0 ts i hl)
  have z1 : w'.cell? ⟨gT, i * 3 + 1, none⟩ = some (.int .u64 (tn ts i).f1) := (blk_cell hT1 (i * 3 + 1)).trans (by rw [List.getElem?_toArray]; exact tc_1 ts i hl)
  have z2 : w'.cell? ⟨gT, i * 3 + 2, none⟩ = some (.int .i64 (tn ts i).f2) := (blk_cell hT1 (i * 3 + 2)).trans (by rw [List.getElem?_toArray]; exact tc_2 ts i hl)
  have n1 := h.n1
  have hqn : q ≠ w.heap.size := by omega
  have hTn : gT ≠ w.heap.size := by omega
  simp only []
  go_wp2_with fail
  have hq2 := blk_put hq1 2 (.int .i64 (l'.length : Int)) rfl
  have hR2 := blk_far hR (p := ⟨q, 2, none⟩) (by simpa using hqn.symm) (.int .i64 (l'.length : Int))
  have x0 := cell_of3 (put3 hR2 (.int .u64 (tn ts i).f0) (.int .u64 (tn ts i).f1) (.int .i64 (tn ts i).f2))
  refine bodyPost_ret (v := .tuple #[tv (tn ts i), .int .i64 0]) (by simp [results, Try.f17, go_sem, x0, tv]) rfl ?_
  refine ⟨rfl, ?_, (((hF.setq 2 _).far (p := ⟨w.heap.size, 0, none⟩) (Nat.le_refl _) _).far (p := ⟨w.heap.size, 1, none⟩) (Nat.le_refl _) _).far (p := ⟨w.heap.size, 2, none⟩) (Nat.le_refl _) _⟩
  have hfar : ∀ j : Nat, j < w.heap.size → ((((w'.setCell ⟨q, 2, none⟩ (.int .i64 (l'.length : Int))).setCell ⟨w.heap.size, 0, none⟩ (.int .u64 (tn ts i).f0)).setCell ⟨w.heap.size, 1, none⟩ (.int .u64 (tn ts i).f1)).setCell ⟨w.heap.size, 2, none⟩ (.int .i64 (tn ts i).f2)).heap[j]? = (w'.setCell ⟨q, 2, none⟩ (.int .i64 (l'.length : Int))).heap[j]? := by
    intro j hj
    have hi' : j ≠ w.heap.size := by omega
    rw [Below.heap_setCell _ _ _ j hi', Below.heap_setCell _ _ _ j hi', Below.heap_setCell _ _ _ j hi']
  exact ⟨(hfar q hq).trans hq2, ((hfar gT hT).trans (Below.heap_setCell _ _ _ gT (Ne.symm h.n1))).trans hT1, h.ht, hC.keep ((hfar g hlb.1).trans (Below.heap_setCell _ _ _ g (Ne.symm h.n2))) ((hfar b hlb.2.1).trans (Below.heap_setCell _ _ _ b (Ne.symm h.n3))), h.n1, h.n2, h.n3, h.n4, h.n5⟩
end Go.Proofs.Ytokhbiaaaflphaa.ListA
