/-
  Queues in memory: an act, at the queue and at the document's own.
  No condition.
-/
import Derived.Test.YtokhbiaaaflphaaListR
namespace Go.Proofs.Ytokhbiaaaflphaa.ListG
open Go.RowKit Go.Shelf Go.Proofs.Ytokhbiaaaflphaa.ChainA Go.Proofs.Ytokhbiaaaflphaa.ListM Go.Proofs.Ytokhbiaaaflphaa.ListA Go.Proofs.Ytokhbiaaaflphaa.ListB Go.Proofs.Ytokhbiaaaflphaa.ListE Go.Proofs.Ytokhbiaaaflphaa.ListF Go.Proofs.Ytokhbiaaaflphaa.ListR Go.Proofs.Ytokhbiaaaflphaa.GListqPlays Go.Proofs.YtokhbiaaaflphaaW.PrintWords Go.Proofs.YtokhbiaaaflphaaW.PrintLast Go.Proofs.YtokhbiaaaflphaaW.PrintMore
set_option linter.unusedVariables false
set_option linter.unusedSimpArgs false
variable {w : World} {q gT g b p : Nat} {P : Nat → Prop} {T : List S38} {v : Value}
/-- An act as a value; what was told. -/
def acv (k : Int) (t : S38) (nw : Int) : Value := .agg #[.int .i64 k, .int .u64 t.f0, .int .u64 t.f1, .int .i64 t.f2, .int .u64 nw]
def tov (e : Int) (t : S38) (v : Value) : Value := .agg #[.int .i64 e, .int .u64 t.f0, .int .u64 t.f1, .int .i64 t.f2, v]
structure Td where
  T : List S38
  e : Int
  t : S38
  d : List S38
/-- What an act comes to. -/
def mDo (p : Nat) (T : List S38) (k : Int) (t : S38) (nw : Int) : Td :=
  if k = 0 then ⟨(ListM.mIn p T t).1, (ListM.mIn p T t).2, z38, []⟩
  else if k = 1 then ⟨(ListM.mCan p T t.f2).1, (ListM.mCan p T t.f2).2.2, (ListM.mCan p T t.f2).2.1, []⟩
  else if k = 2 then ⟨(ListM.mMov p T t).1, (ListM.mMov p T t).2, z38, []⟩
  else if k = 3 then ⟨restT T nw, 0, z38, dueT T nw⟩
  else ⟨T, 0, z38, []⟩
theorem put5 {W : World} {k : Nat} {x y z u r : Value} {t : TypeId} (h : W.heap[k]? = some (.cells #[x, y, z, u, r] t (0, 0))) (a b c d e : Value) : (((((W.setCell ⟨k, 0, none⟩ a).setCell ⟨k, 1, none⟩ b).setCell ⟨k, 2, none⟩ c).setCell ⟨k, 3, none⟩ d).setCell ⟨k, 4, none⟩ e).heap[k]? = some (.cells #[a, b, c, d, e] t (0, 0)) :=
  blk_put (blk_put (blk_put (blk_put (blk_put h 0 a rfl) 1 b rfl) 2 c rfl) 3 d rfl) 4 e rfl
theorem cell_of5 {W : World} {k : Nat} {x y z u r : Value} {t : TypeId} (h : W.heap[k]? = some (.cells #[x, y, z, u, r] t (0, 0))) : (((W.cell? ⟨k, 0, none⟩ = some x ∧ W.cell? ⟨k, 1, none⟩ = some y) ∧ W.cell? ⟨k, 2, none⟩ = some z) ∧ W.cell? ⟨k, 3, none⟩ = some u) ∧ W.cell? ⟨k, 4, none⟩ = some r := ⟨⟨⟨⟨blk_cell h 0, blk_cell h 1⟩, blk_cell h 2⟩, blk_cell h 3⟩, blk_cell h 4⟩
theorem froz5 {W : World} {k : Nat} {cs : Array Value} {t : TypeId} (h : W.heap[k]? = some (.cells cs t (0, 0))) : (((W.frozen? ⟨k, 0, none⟩ = false ∧ W.frozen? ⟨k, 1, none⟩ = false) ∧ W.frozen? ⟨k, 2, none⟩ = false) ∧ W.frozen? ⟨k, 3, none⟩ = false) ∧ W.frozen? ⟨k, 4, none⟩ = false := ⟨⟨⟨⟨blk_frozen h 0, blk_frozen h 1⟩, blk_frozen h 2⟩, blk_frozen h 3⟩, blk_frozen h 4⟩
theorem far5 {W : World} {k i : Nat} (hi : i ≠ k) (a b c d e : Value) : (((((W.setCell ⟨k, 0, none⟩ a).setCell ⟨k, 1, none⟩ b).setCell ⟨k, 2, none⟩ c).setCell ⟨k, 3, none⟩ d).setCell ⟨k, 4, none⟩ e).heap[i]? = W.heap[i]? := by
  rw [Below.heap_setCell _ _ _ i hi, Below.heap_setCell _ _ _ i hi, Below.heap_setCell _ _ _ i hi, Below.heap_setCell _ _ _ i hi, Below.heap_setCell _ _ _ i hi]
theorem below5 {W : World} {k m : Nat} (h : Below m w W) (hk : m ≤ k) (a b c d e : Value) : Below m w (((((W.setCell ⟨k, 0, none⟩ a).setCell ⟨k, 1, none⟩ b).setCell ⟨k, 2, none⟩ c).setCell ⟨k, 3, none⟩ d).setCell ⟨k, 4, none⟩ e) :=
  ((((h.setCell (p := ⟨k, 0, none⟩) hk a).setCell (p := ⟨k, 1, none⟩) hk b).setCell (p := ⟨k, 2, none⟩) hk c).setCell (p := ⟨k, 3, none⟩) hk d).setCell (p := ⟨k, 4, none⟩) hk e
theorem rp5 {W : World} {k : Nat} (h : RP W P v T) (hk : ∀ i, P i → i ≠ k) (a b c d e : Value) : RP (((((W.setCell ⟨k, 0, none⟩ a).setCell ⟨k, 1, none⟩ b).setCell ⟨k, 2, none⟩ c).setCell ⟨k, 3, none⟩ d).setCell ⟨k, 4, none⟩ e) P v T :=
  rp_far (rp_far (rp_far (rp_far (rp_far h hk 0 a) hk 1 b) hk 2 c) hk 3 d) hk 4 e
theorem rp_nil (w : World) (P : Nat → Prop) : RP w P (.slice none 0 0) [] := Kd.V_nil _ _ _ _ _
def A2 (w : World) (k f0 f1 f2 nw : Int) : World := (w.alloc (.cells #[.int .i64 k, .int .u64 f0, .int .u64 f1, .int .i64 f2, .int .u64 nw] 59)).alloc (.cells #[.int .i64 0, .int .u64 0, .int .u64 0, .int .i64 0, .slice none 0 0] 56)
theorem A2_ok (w : World) (k f0 f1 f2 nw : Int) : (A2 w k f0 f1 f2 nw).heap[w.heap.size]? = some (.cells #[.int .i64 k, .int .u64 f0, .int .u64 f1, .int .i64 f2, .int .u64 nw] 59 (0, 0)) ∧
    (A2 w k f0 f1 f2 nw).heap[w.heap.size + 1]? = some (.cells #[.int .i64 0, .int .u64 0, .int .u64 0, .int .i64 0, .slice none 0 0] 56 (0, 0)) ∧ Below w.heap.size w (A2 w k f0 f1 f2 nw) ∧ (A2 w k f0 f1 f2 nw).heap.size = w.heap.size + 1 + 1 := by
  have y0 := World.alloc_heap_new w (.cells #[.int .i64 k, .int .u64 f0, .int .u64 f1, .int .i64 f2, .int .u64 nw] 59)
  have y1 := World.alloc_heap_new (w.alloc (.cells #[.int .i64 k, .int .u64 f0, .int .u64 f1, .int .i64 f2, .int .u64 nw] 59)) (.cells #[.int .i64 0, .int .u64 0, .int .u64 0, .int .i64 0, .slice none 0 0] 56)
  simp only [World.size_alloc] at y1
  exact ⟨blk_alloc y0 _, y1, ((Below.refl _ w).alloc (Nat.le_refl _) _).alloc (by simp) _, by simp [A2]⟩
def DoPost (q gT g b p : Nat) (w : World) (r : Td) (e : Ending) (w' : World) : Prop := ∃ v, e = .returned (tov r.e r.t v) ∧ RP w' (fun k => w.heap.size ≤ k) v r.d ∧ QS w' q gT g b p r.T ∧ Fr q gT b w w'
theorem qs_keep {w' : World} (h : QS w q gT g b p T) (k : ∀ i, i = q ∨ i = gT ∨ i = g ∨ i = b → w'.heap[i]? = w.heap[i]?) : QS w' q gT g b p T := by
  obtain ⟨ts, l, h⟩ := h
  exact ⟨ts, l, h.bl.keep k, h.eT, h.eF, h.hQ⟩
set_option maxRecDepth 100000 in
set_option maxHeartbeats 4000000 in
theorem do0 (k : Int) (t : S38) (nw : Int) (h : QS w q gT g b p T) (hk0 : k = 0) : Calls Try.prog 22 #[.pointer (some ⟨q, 0, none⟩), acv k t nw] w (DoPost q gT g b p w (mDo p T k t nw)) := by
  obtain ⟨f0, f1, f2⟩ := t
  have hln := (qs_lens h).2
  subst hk0
  obtain ⟨y0, y1, hB, hs⟩ := A2_ok w 0 f0 f1 f2 nw
  have h2 := h.below hB
  simp only [acv]
  go_enter Try.func22, Try.ntmps22
  go_wp2_with fail
  go_at_call 18
  refine (ins_T ⟨f0, f1, f2⟩ h2).mono ?_
  rintro e w1 ⟨rfl, h1, hk⟩
  have hF1 := (Fr.of_below (q := q) (gT := gT) (b := b) hB).trans hk
  have z1 := (hk.block (w.heap.size + 1) (by omega) (by omega) (by omega) (by omega)).trans y1
  have hmd : mDo p T 0 ⟨f0, f1, f2⟩ nw = ⟨(ListM.mIn p T ⟨f0, f1, f2⟩).1, (ListM.mIn p T ⟨f0, f1, f2⟩).2, z38, []⟩ := rfl
  generalize hgm : ListM.mIn p T ⟨f0, f1, f2⟩ = rr at *
  obtain ⟨⟨⟨⟨a0, a1⟩, a2⟩, a3⟩, a4⟩ := cell_of5 z1
  obtain ⟨⟨⟨⟨b0, b1⟩, b2⟩, b3⟩, b4⟩ := froz5 z1
  have hle : w.heap.size ≤ w.heap.size + 1 := by omega
  clear hB hs y0 y1 h2
  generalize A2 w _ f0 f1 f2 nw = W0 at *
  simp only [tv]
  go_wp2_with fail
  have xx := cell_of5 (put5 z1 (.int .i64 rr.2) (.int .u64 0) (.int .u64 0) (.int .i64 0) (.slice none 0 0))
  refine bodyPost_ret (v := tov rr.2 ⟨0, 0, 0⟩ (.slice none 0 0)) (by simp [results, Try.f22, go_sem, xx, tov]) rfl ?_
  try rw [hmd]
  refine ⟨_, rfl, rp_nil _ _, qs_keep h1 (fun i hi => far5 (by omega) _ _ _ _ _), ((((hF1.far (p := ⟨w.heap.size + 1, 0, none⟩) hle _).far (p := ⟨w.heap.size + 1, 1, none⟩) hle _).far (p := ⟨w.heap.size + 1, 2, none⟩) hle _).far (p := ⟨w.heap.size + 1, 3, none⟩) hle _).far (p := ⟨w.heap.size + 1, 4, none⟩) hle _⟩
set_option maxRecDepth 100000 in
set_option maxHeartbeats 4000000 in
theorem do1 (k : Int) (t : S38) (nw : Int) (h : QS w q gT g b p T) (hk0 : k = 1) : Calls Try.prog 22 #[.pointer (some ⟨q, 0, none⟩), acv k t nw] w (DoPost q gT g b p w (mDo p T k t nw)) := by
  obtain ⟨f0, f1, f2⟩ := t
  have hln := (qs_lens h).2
  subst hk0
  obtain ⟨y0, y1, hB, hs⟩ := A2_ok w 1 f0 f1 f2 nw
  have h2 := h.below hB
  simp only [acv]
  go_enter Try.func22, Try.ntmps22
  go_wp2_with fail
  go_at_call 17
  refine (can_T f2 h2).mono ?_
  rintro e w1 ⟨rfl, h1, hk⟩
  have hF1 := (Fr.of_below (q := q) (gT := gT) (b := b) hB).trans hk
  have z1 := (hk.block (w.heap.size + 1) (by omega) (by omega) (by omega) (by omega)).trans y1
  have hmd : mDo p T 1 ⟨f0, f1, f2⟩ nw = ⟨(ListM.mCan p T f2).1, (ListM.mCan p T f2).2.2, (ListM.mCan p T f2).2.1, []⟩ := rfl
  generalize hgm : ListM.mCan p T f2 = rr at *
  obtain ⟨rT, ⟨r0, r1, r2⟩, rc⟩ := rr
  replace z1 := blk_alloc z1 (.cells #[.int .u64 r0, .int .u64 r1, .int .i64 r2] 38)
  replace hF1 := hF1.alloc (.cells #[.int .u64 r0, .int .u64 r1, .int .i64 r2] 38)
  replace h1 := h1.alloc (.cells #[.int .u64 r0, .int .u64 r1, .int .i64 r2] 38)
  obtain ⟨⟨⟨⟨a0, a1⟩, a2⟩, a3⟩, a4⟩ := cell_of5 z1
  obtain ⟨⟨⟨⟨b0, b1⟩, b2⟩, b3⟩, b4⟩ := froz5 z1
  have hle : w.heap.size ≤ w.heap.size + 1 := by omega
  clear hB hs y0 y1 h2
  generalize A2 w _ f0 f1 f2 nw = W0 at *
  simp only [tv]
  go_wp2_with fail
  have xx := cell_of5 (put5 z1 (.int .i64 rc) (.int .u64 r0) (.int .u64 r1) (.int .i64 r2) (.slice none 0 0))
  refine bodyPost_ret (v := tov rc ⟨r0, r1, r2⟩ (.slice none 0 0)) (by simp [results, Try.f22, go_sem, xx, tov]) rfl ?_
  try rw [hmd]
  refine ⟨_, rfl, rp_nil _ _, qs_keep h1 (fun i hi => far5 (by omega) _ _ _ _ _), ((((hF1.far (p := ⟨w.heap.size + 1, 0, none⟩) hle _).far (p := ⟨w.heap.size + 1, 1, none⟩) hle _).far (p := ⟨w.heap.size + 1, 2, none⟩) hle _).far (p := ⟨w.heap.size + 1, 3, none⟩) hle _).far (p := ⟨w.heap.size + 1, 4, none⟩) hle _⟩
set_option maxRecDepth 100000 in
set_option maxHeartbeats 4000000 in
theorem do2 (k : Int) (t : S38) (nw : Int) (h : QS w q gT g b p T) (hk0 : k = 2) : Calls Try.prog 22 #[.pointer (some ⟨q, 0, none⟩), acv k t nw] w (DoPost q gT g b p w (mDo p T k t nw)) := by
  obtain ⟨f0, f1, f2⟩ := t
  have hln := (qs_lens h).2
  subst hk0
  obtain ⟨y0, y1, hB, hs⟩ := A2_ok w 2 f0 f1 f2 nw
  have h2 := h.below hB
  simp only [acv]
  go_enter Try.func22, Try.ntmps22
  go_wp2_with fail
  go_at_call 16
  refine (mov_T ⟨f0, f1, f2⟩ h2).mono ?_
  rintro e w1 ⟨rfl, h1, hk⟩
  have hF1 := (Fr.of_below (q := q) (gT := gT) (b := b) hB).trans hk
  have z1 := (hk.block (w.heap.size + 1) (by omega) (by omega) (by omega) (by omega)).trans y1
  have hmd : mDo p T 2 ⟨f0, f1, f2⟩ nw = ⟨(ListM.mMov p T ⟨f0, f1, f2⟩).1, (ListM.mMov p T ⟨f0, f1, f2⟩).2, z38, []⟩ := rfl
  generalize hgm : ListM.mMov p T ⟨f0, f1, f2⟩ = rr at *
  obtain ⟨⟨⟨⟨a0, a1⟩, a2⟩, a3⟩, a4⟩ := cell_of5 z1
  obtain ⟨⟨⟨⟨b0, b1⟩, b2⟩, b3⟩, b4⟩ := froz5 z1
  have hle : w.heap.size ≤ w.heap.size + 1 := by omega
  clear hB hs y0 y1 h2
  generalize A2 w _ f0 f1 f2 nw = W0 at *
  simp only [tv]
  go_wp2_with fail
  have xx := cell_of5 (put5 z1 (.int .i64 rr.2) (.int .u64 0) (.int .u64 0) (.int .i64 0) (.slice none 0 0))
  refine bodyPost_ret (v := tov rr.2 ⟨0, 0, 0⟩ (.slice none 0 0)) (by simp [results, Try.f22, go_sem, xx, tov]) rfl ?_
  try rw [hmd]
  refine ⟨_, rfl, rp_nil _ _, qs_keep h1 (fun i hi => far5 (by omega) _ _ _ _ _), ((((hF1.far (p := ⟨w.heap.size + 1, 0, none⟩) hle _).far (p := ⟨w.heap.size + 1, 1, none⟩) hle _).far (p := ⟨w.heap.size + 1, 2, none⟩) hle _).far (p := ⟨w.heap.size + 1, 3, none⟩) hle _).far (p := ⟨w.heap.size + 1, 4, none⟩) hle _⟩
set_option maxRecDepth 100000 in
set_option maxHeartbeats 4000000 in
theorem do3 (k : Int) (t : S38) (nw : Int) (h : QS w q gT g b p T) (hk0 : k = 3) : Calls Try.prog 22 #[.pointer (some ⟨q, 0, none⟩), acv k t nw] w (DoPost q gT g b p w (mDo p T k t nw)) := by
  obtain ⟨f0, f1, f2⟩ := t
  have hln := (qs_lens h).2
  subst hk0
  obtain ⟨y0, y1, hB, hs⟩ := A2_ok w 3 f0 f1 f2 nw
  have h2 := h.below hB
  simp only [acv]
  go_enter Try.func22, Try.ntmps22
  go_wp2_with fail
  go_at_call 11
  refine (due_T nw h2).mono ?_
  rintro e w1 ⟨vd, rfl, hrt, h1, hk⟩
  have hF1 := (Fr.of_below (q := q) (gT := gT) (b := b) hB).trans hk
  have z1 := (hk.block (w.heap.size + 1) (by omega) (by omega) (by omega) (by omega)).trans y1
  have hmd : mDo p T 3 ⟨f0, f1, f2⟩ nw = ⟨restT T nw, 0, z38, dueT T nw⟩ := rfl
  have hrp : RP w1 (fun k => w.heap.size + 1 + 1 ≤ k) vd (dueT T nw) := rp_mono (show RP w1 (fun k => (A2 w 3 f0 f1 f2 nw).heap.size ≤ k) vd (dueT T nw) from hrt) (fun k hk => by rw [hs] at hk; exact hk)
  obtain ⟨Ad, cd, rfl⟩ := rp_slice hrp
  obtain ⟨⟨⟨⟨a0, a1⟩, a2⟩, a3⟩, a4⟩ := cell_of5 z1
  obtain ⟨⟨⟨⟨b0, b1⟩, b2⟩, b3⟩, b4⟩ := froz5 z1
  have hle : w.heap.size ≤ w.heap.size + 1 := by omega
  clear hB hs y0 y1 h2
  generalize A2 w _ f0 f1 f2 nw = W0 at *
  simp only [tv]
  go_wp2_with fail
  have xx := cell_of5 (put5 z1 (.int .i64 0) (.int .u64 0) (.int .u64 0) (.int .i64 0) (.slice Ad (dueT T nw).length cd))
  refine bodyPost_ret (v := tov 0 ⟨0, 0, 0⟩ (.slice Ad (dueT T nw).length cd)) (by simp [results, Try.f22, go_sem, xx, tov]) rfl ?_
  try rw [hmd]
  refine ⟨_, rfl, rp_mono (rp5 hrp (fun i hi => by omega) _ _ _ _ _) (fun i hi => by omega), qs_keep h1 (fun i hi => far5 (by omega) _ _ _ _ _), ((((hF1.far (p := ⟨w.heap.size + 1, 0, none⟩) hle _).far (p := ⟨w.heap.size + 1, 1, none⟩) hle _).far (p := ⟨w.heap.size + 1, 2, none⟩) hle _).far (p := ⟨w.heap.size + 1, 3, none⟩) hle _).far (p := ⟨w.heap.size + 1, 4, none⟩) hle _⟩
set_option maxRecDepth 100000 in
set_option maxHeartbeats 4000000 in
theorem do9 (k : Int) (t : S38) (nw : Int) (h : QS w q gT g b p T) (h0 : k ≠ 0) (h1 : k ≠ 1) (h2' : k ≠ 2) (h3 : k ≠ 3) : Calls Try.prog 22 #[.pointer (some ⟨q, 0, none⟩), acv k t nw] w (DoPost q gT g b p w (mDo p T k t nw)) := by
  obtain ⟨f0, f1, f2⟩ := t
  have hln := (qs_lens h).2
  have d0 : (k == 0) = false := beq_eq_false_iff_ne.mpr h0
  have d1 : (k == 1) = false := beq_eq_false_iff_ne.mpr h1
  have d2 : (k == 2) = false := beq_eq_false_iff_ne.mpr h2'
  have d3 : (k == 3) = false := beq_eq_false_iff_ne.mpr h3
  obtain ⟨y0, y1, hB, hs⟩ := A2_ok w k f0 f1 f2 nw
  have h2 := h.below hB
  simp only [acv]
  go_enter Try.func22, Try.ntmps22
  go_wp2_with fail
  have hmd : mDo p T k ⟨f0, f1, f2⟩ nw = ⟨T, 0, z38, []⟩ := by unfold mDo; rw [if_neg h0, if_neg h1, if_neg h2', if_neg h3]
  have xx := cell_of5 y1
  refine bodyPost_ret (v := tov 0 z38 (.slice none 0 0)) (by simp [results, Try.f22, go_sem, show (w.alloc (.cells #[.int .i64 k, .int .u64 f0, .int .u64 f1, .int .i64 f2, .int .u64 nw] 59)).alloc (.cells #[.int .i64 0, .int .u64 0, .int .u64 0, .int .i64 0, .slice none 0 0] 56) = A2 w k f0 f1 f2 nw from rfl, xx, tov, z38]) rfl ?_
  try rw [hmd]
  exact ⟨_, rfl, rp_nil _ _, h2, Fr.of_below hB⟩
theorem do_T (k : Int) (t : S38) (nw : Int) (h : QS w q gT g b p T) : Calls Try.prog 22 #[.pointer (some ⟨q, 0, none⟩), acv k t nw] w (DoPost q gT g b p w (mDo p T k t nw)) := by
  by_cases h0 : k = 0
  · exact do0 k t nw h h0
  by_cases h1 : k = 1
  · exact do1 k t nw h h1
  by_cases h2 : k = 2
  · exact do2 k t nw h h2
  by_cases h3 : k = 3
  · exact do3 k t nw h h3
  exact do9 k t nw h h0 h1 h2 h3
end Go.Proofs.Ytokhbiaaaflphaa.ListG
