-- Walks of the statement and of what it calls; made by a program of this workplace out of the translation.
import Derived.Test.YtkbodakmfllnpaaGPolicyStaysx0
import Derived.Test.YtkbodakmfllnpaaGPolicyStaysx1
import Derived.Test.YtkbodakmfllnpaaGPolicyStaysx2
namespace Go.Proofs.Ytkbodakmfllnpaa.GPolicyStays
open Go.RowKit Go.Proofs.YtkbodakmfllnpaaW.PrintWords Go.Proofs.YtkbodakmfllnpaaW.PrintLast Go.Proofs.YtkbodakmfllnpaaW.PrintMore
attribute [local go_sem] max2_int min2_int max_two min_two max_three min_three max_four min_four   -- for this text's walks alone
set_option linter.unusedVariables false
set_option linter.unusedSimpArgs false

/-! ### policy_Run: function 16, by hand -/
section
attribute [local go_sem] Oper.semAt_some
/-- What the rounds come to. -/
def run_go (k : Nat) (p0 : Bool) (p1 p2 p3 p4 : Int) : Int → Int → Int → List S25 → List Int → Option (List Int × Int)
  | _, _, _, [], out => some (out, 0)
  | now, mw, mf, t :: ts, out => (policy_Step.f k p0 p1 p2 p3 p4 mw mf now t.f0 t.f1 t.f2 t.f3 t.f4).bind fun q =>
    if q.2.2.2 = 0 then run_go k p0 p1 p2 p3 p4 (if q.2.2.1 = true then q.1 else now) q.1 q.2.1 ts (out ++ [if q.2.2.1 = true then q.1 else now]) else some ([], q.2.2.2)
theorem drop_at (l : List S25) (j : Nat) (h : j < l.length) : l.drop j = rd_T25 l (j : Int) :: l.drop (j + 1) := by
  rw [List.drop_eq_getElem_cons h]
  unfold rd_T25
  rw [Int.toNat_natCast, List.getD_eq_getElem?_getD, List.getElem?_eq_getElem h]; rfl
/-- What has come when the rounds are over. -/
def KindsPost (J : List Int → World → Prop) (Jx : Int → World → Prop) (r1 : List Int) (r2 : Int) (e : Ending) (W' : World) : Prop := (∃ v, e = .returned v) ∧ ((J r1 W' ∧ r2 = 0) ∨ (Jx r2 W' ∧ r1 = [] ∧ r2 ≠ 0))
theorem after_call {wr w1 : World} {o : Obj} (hb1 : Below (wr.alloc o).heap.size (wr.alloc o) w1) {q : Nat} {x : Obj} (h : wr.heap[q]? = some x) : w1.heap[q]? = some x := by
  have hq := (Array.getElem?_eq_some_iff.1 h).1
  exact (hb1.block q (by simp; omega)).trans ((Below.heap_alloc _ _ _ hq).trans h)
theorem ne_size {w1 : World} {q : Nat} {x : Obj} (h : w1.heap[q]? = some x) : w1.heap.size ≠ q ∧ q ≠ w1.heap.size := by
  have := (Array.getElem?_eq_some_iff.1 h).1
  omega
theorem alloc_cell {w1 : World} {q : Nat} {cs : Array Value} {t : TypeId} (h : w1.heap[q]? = some (.cells cs t (0, 0))) (i : Nat) : ∀ o, (w1.alloc o).cell? ⟨q, i, none⟩ = cs[i]? :=
  fun o => blk_cell ((Below.heap_alloc _ _ _ (Array.getElem?_eq_some_iff.1 h).1).trans h) i
theorem alloc_frozen {w1 : World} {q : Nat} {cs : Array Value} {t : TypeId} (h : w1.heap[q]? = some (.cells cs t (0, 0))) (i : Nat) : ∀ o, (w1.alloc o).frozen? ⟨q, i, none⟩ = false :=
  fun o => blk_frozen ((Below.heap_alloc _ _ _ (Array.getElem?_eq_some_iff.1 h).1).trans h) i
theorem kinds_heap1 {b : Nat} {wr w1 : World} {o : Obj} (hb1 : Below (wr.alloc o).heap.size (wr.alloc o) w1) (hs : b + 10 ≤ wr.heap.size) (o2 : Obj) (x y z : Int) {n0 m0 f0 : Int}
    (g5 : wr.heap[b + 5]? = some (.cells #[.int .i64 n0] 3 (0, 0))) (g9 : wr.heap[b + 9]? = some (.cells #[.int .i64 m0, .int .i64 f0] 33 (0, 0))) :
    (∀ q u, q ≠ b + 5 → q ≠ b + 9 → wr.heap[q]? = some u → ((((w1.alloc o2).setCell ⟨b + 5, 0, none⟩ (.int .i64 x)).setCell ⟨b + 9, 0, none⟩ (.int .i64 y)).setCell ⟨b + 9, 1, none⟩ (.int .i64 z)).heap[q]? = some u) ∧
    ((((w1.alloc o2).setCell ⟨b + 5, 0, none⟩ (.int .i64 x)).setCell ⟨b + 9, 0, none⟩ (.int .i64 y)).setCell ⟨b + 9, 1, none⟩ (.int .i64 z)).heap[b + 5]? = some (.cells #[.int .i64 x] 3 (0, 0)) ∧
    ((((w1.alloc o2).setCell ⟨b + 5, 0, none⟩ (.int .i64 x)).setCell ⟨b + 9, 0, none⟩ (.int .i64 y)).setCell ⟨b + 9, 1, none⟩ (.int .i64 z)).heap[b + 9]? = some (.cells #[.int .i64 y, .int .i64 z] 33 (0, 0)) ∧
    Below b wr ((((w1.alloc o2).setCell ⟨b + 5, 0, none⟩ (.int .i64 x)).setCell ⟨b + 9, 0, none⟩ (.int .i64 y)).setCell ⟨b + 9, 1, none⟩ (.int .i64 z)) ∧
    wr.heap.size ≤ ((((w1.alloc o2).setCell ⟨b + 5, 0, none⟩ (.int .i64 x)).setCell ⟨b + 9, 0, none⟩ (.int .i64 y)).setCell ⟨b + 9, 1, none⟩ (.int .i64 z)).heap.size := by
  have hs1 := hb1.size
  simp at hs1
  have far : ∀ (w : World) (q g i : Nat) (v : Value), q ≠ g → (w.setCell ⟨g, i, none⟩ v).heap[q]? = w.heap[q]? := fun w q g i v h => Below.heap_setCell w ⟨g, i, none⟩ v q h
  have up : ∀ q u, wr.heap[q]? = some u → (w1.alloc o2).heap[q]? = some u := fun q u h => (Below.heap_alloc _ _ _ (Array.getElem?_eq_some_iff.1 (after_call hb1 h)).1).trans (after_call hb1 h)
  refine ⟨fun q u h5 h9 h => ?_, ?_, ?_, ?_, ?_⟩
  · rw [far _ _ _ _ _ h9, far _ _ _ _ _ h9, far _ _ _ _ _ h5]; exact up _ _ h
  · rw [far _ _ _ _ _ (by omega), far _ _ _ _ _ (by omega)]
    exact blk_put (up _ _ g5) 0 _ rfl
  · refine blk_put (cs := #[.int .i64 y, .int .i64 f0]) ?_ 1 _ rfl
    refine blk_put (cs := #[.int .i64 m0, .int .i64 f0]) ?_ 0 _ rfl
    rw [far _ _ _ _ _ (by omega)]; exact up _ _ g9
  · exact (((((((Below.refl b wr).alloc (by omega) _).trans (hb1.mono (by simp; omega))).alloc (by omega) _).setCell (p := ⟨b + 5, 0, none⟩) (by simp) _).setCell (p := ⟨b + 9, 0, none⟩) (by simp) _).setCell (p := ⟨b + 9, 1, none⟩) (by simp) _)
  · simp [World.setCell]; omega
theorem kinds_J1 {b : Nat} (J : List Int → World → Prop) (hJ : ∀ out X Y, J out X → Kept X Y (fun q => q = b + 5 ∨ q = b + 9) → Below b X Y → J out Y) {out : List Int} {wr w1 : World} {o : Obj} (hJo : J out wr) (hs : b + 10 ≤ wr.heap.size)
    (hb1 : Below (wr.alloc o).heap.size (wr.alloc o) w1) (o2 : Obj) (x y z : Value) : J out ((((w1.alloc o2).setCell ⟨b + 5, 0, none⟩ x).setCell ⟨b + 9, 0, none⟩ y).setCell ⟨b + 9, 1, none⟩ z) := by
  have hs1 := hb1.size
  simp at hs1
  refine hJ _ _ _ hJo ?_ ?_
  · exact (((((((Kept.refl wr _).alloc _).below hb1).alloc _).setCell (p := ⟨b + 5, 0, none⟩) (.inl (.inl rfl)) _).setCell (p := ⟨b + 9, 0, none⟩) (.inl (.inr rfl)) _).setCell (p := ⟨b + 9, 1, none⟩) (.inl (.inr rfl)) _)
  · exact (((((((Below.refl b wr).alloc (by omega) _).trans (hb1.mono (by simp; omega))).alloc (by omega) _).setCell (p := ⟨b + 5, 0, none⟩) (by simp) _).setCell (p := ⟨b + 9, 0, none⟩) (by simp) _).setCell (p := ⟨b + 9, 1, none⟩) (by simp) _)
theorem kinds_heap0 {b : Nat} {wr w1 : World} {o : Obj} (hb1 : Below (wr.alloc o).heap.size (wr.alloc o) w1) (hs : b + 10 ≤ wr.heap.size) (o2 : Obj) (y z : Int) {n0 m0 f0 : Int}
    (g5 : wr.heap[b + 5]? = some (.cells #[.int .i64 n0] 3 (0, 0))) (g9 : wr.heap[b + 9]? = some (.cells #[.int .i64 m0, .int .i64 f0] 33 (0, 0))) :
    (∀ q u, q ≠ b + 5 → q ≠ b + 9 → wr.heap[q]? = some u → (((w1.alloc o2).setCell ⟨b + 9, 0, none⟩ (.int .i64 y)).setCell ⟨b + 9, 1, none⟩ (.int .i64 z)).heap[q]? = some u) ∧
    (((w1.alloc o2).setCell ⟨b + 9, 0, none⟩ (.int .i64 y)).setCell ⟨b + 9, 1, none⟩ (.int .i64 z)).heap[b + 5]? = some (.cells #[.int .i64 n0] 3 (0, 0)) ∧
    (((w1.alloc o2).setCell ⟨b + 9, 0, none⟩ (.int .i64 y)).setCell ⟨b + 9, 1, none⟩ (.int .i64 z)).heap[b + 9]? = some (.cells #[.int .i64 y, .int .i64 z] 33 (0, 0)) ∧
    Below b wr (((w1.alloc o2).setCell ⟨b + 9, 0, none⟩ (.int .i64 y)).setCell ⟨b + 9, 1, none⟩ (.int .i64 z)) ∧
    wr.heap.size ≤ (((w1.alloc o2).setCell ⟨b + 9, 0, none⟩ (.int .i64 y)).setCell ⟨b + 9, 1, none⟩ (.int .i64 z)).heap.size := by
  have hs1 := hb1.size
  simp at hs1
  have far : ∀ (w : World) (q g i : Nat) (v : Value), q ≠ g → (w.setCell ⟨g, i, none⟩ v).heap[q]? = w.heap[q]? := fun w q g i v h => Below.heap_setCell w ⟨g, i, none⟩ v q h
  have up : ∀ q u, wr.heap[q]? = some u → (w1.alloc o2).heap[q]? = some u := fun q u h => (Below.heap_alloc _ _ _ (Array.getElem?_eq_some_iff.1 (after_call hb1 h)).1).trans (after_call hb1 h)
  refine ⟨fun q u h5 h9 h => ?_, ?_, ?_, ?_, ?_⟩
  · rw [far _ _ _ _ _ h9, far _ _ _ _ _ h9]; exact up _ _ h
  · rw [far _ _ _ _ _ (by omega), far _ _ _ _ _ (by omega)]
    exact up _ _ g5
  · refine blk_put (cs := #[.int .i64 y, .int .i64 f0]) ?_ 1 _ rfl
    refine blk_put (cs := #[.int .i64 m0, .int .i64 f0]) ?_ 0 _ rfl
    exact up _ _ g9
  · exact ((((((Below.refl b wr).alloc (by omega) _).trans (hb1.mono (by simp; omega))).alloc (by omega) _).setCell (p := ⟨b + 9, 0, none⟩) (by simp) _).setCell (p := ⟨b + 9, 1, none⟩) (by simp) _)
  · simp [World.setCell]; omega
theorem kinds_J0 {b : Nat} (J : List Int → World → Prop) (hJ : ∀ out X Y, J out X → Kept X Y (fun q => q = b + 5 ∨ q = b + 9) → Below b X Y → J out Y) {out : List Int} {wr w1 : World} {o : Obj} (hJo : J out wr) (hs : b + 10 ≤ wr.heap.size)
    (hb1 : Below (wr.alloc o).heap.size (wr.alloc o) w1) (o2 : Obj) (y z : Value) : J out (((w1.alloc o2).setCell ⟨b + 9, 0, none⟩ y).setCell ⟨b + 9, 1, none⟩ z) := by
  have hs1 := hb1.size
  simp at hs1
  refine hJ _ _ _ hJo ?_ ?_
  · exact ((((((Kept.refl wr _).alloc _).below hb1).alloc _).setCell (p := ⟨b + 9, 0, none⟩) (.inl (.inr rfl)) _).setCell (p := ⟨b + 9, 1, none⟩) (.inl (.inr rfl)) _)
  · exact ((((((Below.refl b wr).alloc (by omega) _).trans (hb1.mono (by simp; omega))).alloc (by omega) _).setCell (p := ⟨b + 9, 0, none⟩) (by simp) _).setCell (p := ⟨b + 9, 1, none⟩) (by simp) _)
set_option maxRecDepth 100000 in
set_option maxHeartbeats 4000000 in
theorem kinds1_in (k : Nat) (p0 : Bool) (p1 p2 p3 p4 now0 : Int) (b L : Nat) (w0 W : World) (hb : w0.heap.size = b) (hW : W.heap.size = b + 9) (hB0 : Below b w0 W) (A : Option Addr) (cap : Nat) (l : List S25)
    (hC : Kd.C k25 w0 A l.length l) (hcap : l.length ≤ cap)
    (h4 : W.heap[b + 4]? = some (.cells #[.bool p0, .int .i64 p1, .int .i64 p2, .int .i64 p3, .int .i64 p4] 23 (0, 0)))
    (h5 : W.heap[b + 5]? = some (.cells #[.int .i64 now0] 3 (0, 0)))
    (h6 : W.heap[b + 6]? = some (.cells #[.slice A l.length cap] 37 (0, 0)))
    (J : List Int → World → Prop) (Jx : Int → World → Prop)
    (hJ : ∀ out X Y, J out X → Kept X Y (fun q => q = b + 5 ∨ q = b + 9) → Below b X Y → J out Y)
    (hY : ∀ out x e W1, J out W1 → out.length < l.length → YieldAt Fence.wide 2 Try.prog L #[.int .i64 x, .int .i64 e] W1 fun en W' =>
      (en = .returned (.bool true) ∧ e = 0 ∧ J (out ++ [x]) W' ∧ Kept W1 W' (fun q => q = b + 3 ∨ q = b + 8 ∨ b + 10 ≤ q) ∧ Below b W1 W') ∨ (en = .returned (.bool false) ∧ e ≠ 0 ∧ Jx e W'))
    (h0 : J [] W) (r1 : List Int) (r2 : Int) (hrun : run_go k p0 p1 p2 p3 p4 now0 0 0 l [] = some (r1, r2)) :
    CallsIn Fence.wide 3 Try.prog 24 #[.func (.yield L) #[] #[], .pointer (some ⟨b + 6, 0, none⟩), .pointer (some ⟨b + 4, 0, none⟩), .pointer (some ⟨b + 5, 0, none⟩)] W
      (KindsPost J Jx r1 r2) := by
  have hu25 := Try.underlying25
  have hu33 := Try.underlying33
  have hu23 := Try.underlying23
  have hc6 : W.cell? ⟨b + 6, 0, none⟩ = some (.slice A l.length cap) := blk_cell h6 0
  have hlen : l.length ≤ 9223372036854775807 := Kd.C_max hC
  refine callsIn_of_wp Try.func24 rfl trivial ?_ rfl
  simp only [Try.ntmps24, List.size_toArray, List.length_cons, List.length_nil, Nat.reduceAdd, Nat.reduceSub, Array.replicate_succ, Array.replicate_zero, List.push_toArray, List.append_toArray, List.nil_append, List.cons_append]
  gi_wp2
  have k9 : (W.alloc (.cells #[.int .i64 0, .int .i64 0] 33)).heap[b + 9]? = some (.cells #[.int .i64 0, .int .i64 0] 33 (0, 0)) := by rw [← hW]; exact World.alloc_heap_new W _
  have kA : ∀ q o, W.heap[q]? = some o → (W.alloc (.cells #[.int .i64 0, .int .i64 0] 33)).heap[q]? = some o := fun q o h => (Below.heap_alloc _ _ _ (Array.getElem?_eq_some_iff.1 h).1).trans h
  have k4 := kA _ _ h4
  have k5 := kA _ _ h5
  have k6 := kA _ _ h6
  have kB : Below b w0 (W.alloc (.cells #[.int .i64 0, .int .i64 0] 33)) := hB0.alloc (by omega) _
  have kJ : J [] (W.alloc (.cells #[.int .i64 0, .int .i64 0] 33)) := hJ _ _ _ h0 ((Kept.refl _ _).alloc _) ((Below.refl b W).alloc (by omega) _)
  have hs9 : (W.alloc (.cells #[.int .i64 0, .int .i64 0] 33)).heap.size = b + 10 := by simp [hW]

  gi_loopw [13] (fun i wr => ∃ (j : Nat) (now mw mf : Int) (out : List Int), i = .int .i64 j ∧ j ≤ l.length ∧ out.length = j ∧ wr.heap[b + 4]? = some (.cells #[.bool p0, .int .i64 p1, .int .i64 p2, .int .i64 p3, .int .i64 p4] 23 (0, 0)) ∧
      wr.heap[b + 5]? = some (.cells #[.int .i64 now] 3 (0, 0)) ∧ wr.heap[b + 6]? = some (.cells #[.slice A l.length cap] 37 (0, 0)) ∧ wr.heap[b + 9]? = some (.cells #[.int .i64 mw, .int .i64 mf] 33 (0, 0)) ∧ J out wr ∧ Below b w0 wr ∧ b + 10 ≤ wr.heap.size ∧
      Aside0 (run_go k p0 p1 p2 p3 p4 now mw mf (l.drop j) out = some (r1, r2)))
    (fun i _ => l.length - (intOf i).toNat)
  case atStart => exact ⟨0, now0, 0, 0, [], rfl, Nat.zero_le _, rfl, k4, k5, k6, k9, kJ, kB, by omega, ⟨by simpa using hrun⟩⟩
  case round =>
    obtain ⟨j, now, mw, mf, out, rfl, hj, ho, g4, g5, g6, g9, hJo, hBo, hsz, ⟨H⟩⟩ := hrel
    clear k9 kA k4 k5 k6 kB kJ hs9
    by_cases hlt : j < l.length
    · rw [drop_at l j hlt] at H
      simp -implicitDefEqProofs only [run_go] at H
      obtain ⟨⟨s1, s2, s3, s4⟩, hst, H⟩ := Option.bind_eq_some_iff.mp H
      obtain ⟨ad, eA, x0, x1, x2, x3, x4⟩ := at_T25 hC (j : Int) (by omega) (by omega)
      subst eA
      have y0 := (hBo.cell (by rw [← hb]; exact World.block_lt_of_cell? w0 _ x0)).trans x0
      have y1 := (hBo.cell (by rw [← hb]; exact World.block_lt_of_cell? w0 _ x1)).trans x1
      have y2 := (hBo.cell (by rw [← hb]; exact World.block_lt_of_cell? w0 _ x2)).trans x2
      have y3 := (hBo.cell (by rw [← hb]; exact World.block_lt_of_cell? w0 _ x3)).trans x3
      have y4 := (hBo.cell (by rw [← hb]; exact World.block_lt_of_cell? w0 _ x4)).trans x4
      rw [Int.toNat_natCast] at y0 y1 y2 y3 y4
      have zb : b + 10 ≤ wr.heap.size := hsz
      have al : ∀ q o, wr.heap[q]? = some o → ∀ o', (wr.alloc o').heap[q]? = some o := fun q o h o' => (Below.heap_alloc _ _ _ (Array.getElem?_eq_some_iff.1 h).1).trans h
      have z4_0 : ∀ o', (wr.alloc o').cell? ⟨b + 4, 0, none⟩ = some (.bool p0) := fun o' => blk_cell (al _ _ g4 o') 0
      have z4_1 : ∀ o', (wr.alloc o').cell? ⟨b + 4, 1, none⟩ = some (.int .i64 p1) := fun o' => blk_cell (al _ _ g4 o') 1
      have z4_2 : ∀ o', (wr.alloc o').cell? ⟨b + 4, 2, none⟩ = some (.int .i64 p2) := fun o' => blk_cell (al _ _ g4 o') 2
      have z4_3 : ∀ o', (wr.alloc o').cell? ⟨b + 4, 3, none⟩ = some (.int .i64 p3) := fun o' => blk_cell (al _ _ g4 o') 3
      have z4_4 : ∀ o', (wr.alloc o').cell? ⟨b + 4, 4, none⟩ = some (.int .i64 p4) := fun o' => blk_cell (al _ _ g4 o') 4
      have z5_0 : ∀ o', (wr.alloc o').cell? ⟨b + 5, 0, none⟩ = some (.int .i64 now) := fun o' => blk_cell (al _ _ g5 o') 0
      have z9_0 : ∀ o', (wr.alloc o').cell? ⟨b + 9, 0, none⟩ = some (.int .i64 mw) := fun o' => blk_cell (al _ _ g9 o') 0
      have z9_1 : ∀ o', (wr.alloc o').cell? ⟨b + 9, 1, none⟩ = some (.int .i64 mf) := fun o' => blk_cell (al _ _ g9 o') 1
      clear al
      cases s3 with
      | true =>
        gi_wp2_with (refine ⟨trivial, ?_⟩; gi_at_call 14; refine (callsIn_wide.2 (policy_Step.calls k p0 p1 p2 p3 p4 mw mf now _ _ _ _ _ s1 s2 _ s4 _ hst)).mono ?_; rintro e w1 ⟨rfl, hb1⟩; have f5 := after_call hb1 g5; have f9 := after_call hb1 g9; have c5 := alloc_cell f5 0; have c9 := alloc_cell f9 0; have c91 := alloc_cell f9 1; have d5 := alloc_frozen f5 0; have d9 := alloc_frozen f9 0; have d91 := alloc_frozen f9 1; obtain ⟨n1, n2⟩ := ne_size f5; obtain ⟨n3, n4⟩ := ne_size f9; obtain ⟨fn, tmps, assign, body, hy, hR⟩ := hY out s1 s4 _ (kinds_J1 J hJ hJo zb hb1 (.cells #[.int .i64 s1, .int .i64 s2] 33) (.int .i64 s1) (.int .i64 s1) (.int .i64 s2)) (by omega))
        refine hR.mono ?_
        have X4 := (kinds_heap1 hb1 zb (.cells #[.int .i64 s1, .int .i64 s2] 33) s1 s1 s2 g5 g9).1 _ _ (by omega) (by omega) g4
        have X6 := (kinds_heap1 hb1 zb (.cells #[.int .i64 s1, .int .i64 s2] 33) s1 s1 s2 g5 g9).1 _ _ (by omega) (by omega) g6
        have X5 := (kinds_heap1 hb1 zb (.cells #[.int .i64 s1, .int .i64 s2] 33) s1 s1 s2 g5 g9).2.1
        have X9 := (kinds_heap1 hb1 zb (.cells #[.int .i64 s1, .int .i64 s2] 33) s1 s1 s2 g5 g9).2.2.1
        have XB := (kinds_heap1 hb1 zb (.cells #[.int .i64 s1, .int .i64 s2] 33) s1 s1 s2 g5 g9).2.2.2.1
        have Xs := (kinds_heap1 hb1 zb (.cells #[.int .i64 s1, .int .i64 s2] 33) s1 s1 s2 g5 g9).2.2.2.2
        rintro e W3 (⟨rfl, rfl, hJ3, hK3, hB3⟩ | ⟨rfl, hne, hJx3⟩)
        · rw [if_pos rfl] at H
          simp -implicitDefEqProofs only [if_true] at H
          generalize hX : ((((w1.alloc (.cells #[.int .i64 s1, .int .i64 s2] 33)).setCell ⟨b + 5, 0, none⟩ (.int .i64 s1)).setCell ⟨b + 9, 0, none⟩ (.int .i64 s1)).setCell ⟨b + 9, 1, none⟩ (.int .i64 s2)) = X at X4 X5 X6 X9 XB Xs hK3 hB3
          have Y4 := (hK3.2 (b + 4) (by omega) (by omega)).trans X4
          have Y5 := (hK3.2 (b + 5) (by omega) (by omega)).trans X5
          have Y6 := (hK3.2 (b + 6) (by omega) (by omega)).trans X6
          have Y9 := (hK3.2 (b + 9) (by omega) (by omega)).trans X9
          have Ys := hK3.1
          gi_wp2
          go_roundw
          case rel => exact ⟨j + 1, s1, s1, s2, out ++ [s1], by simp, by omega, by simp [ho], Y4, Y5, Y6, Y9, hJ3, (hBo.trans XB).trans hB3, by omega, ⟨H⟩⟩
          case measure => simp [intOf]; omega
        · rw [if_neg hne] at H
          obtain ⟨rfl, rfl⟩ := Prod.mk.inj (Option.some.inj H)
          gi_wp2
          refine bodyPost_ret (results_none rfl _ _ _) rfl ?_
          exact ⟨⟨_, rfl⟩, .inr ⟨hJx3, rfl, hne⟩⟩
      | false =>
        gi_wp2_with (refine ⟨trivial, ?_⟩; gi_at_call 14; refine (callsIn_wide.2 (policy_Step.calls k p0 p1 p2 p3 p4 mw mf now _ _ _ _ _ s1 s2 _ s4 _ hst)).mono ?_; rintro e w1 ⟨rfl, hb1⟩; have f5 := after_call hb1 g5; have f9 := after_call hb1 g9; have c5 := alloc_cell f5 0; have c9 := alloc_cell f9 0; have c91 := alloc_cell f9 1; have d5 := alloc_frozen f5 0; have d9 := alloc_frozen f9 0; have d91 := alloc_frozen f9 1; obtain ⟨n1, n2⟩ := ne_size f5; obtain ⟨n3, n4⟩ := ne_size f9; obtain ⟨fn, tmps, assign, body, hy, hR⟩ := hY out now s4 _ (kinds_J0 J hJ hJo zb hb1 (.cells #[.int .i64 s1, .int .i64 s2] 33) (.int .i64 s1) (.int .i64 s2)) (by omega))
        refine hR.mono ?_
        have X4 := (kinds_heap0 hb1 zb (.cells #[.int .i64 s1, .int .i64 s2] 33) s1 s2 g5 g9).1 _ _ (by omega) (by omega) g4
        have X6 := (kinds_heap0 hb1 zb (.cells #[.int .i64 s1, .int .i64 s2] 33) s1 s2 g5 g9).1 _ _ (by omega) (by omega) g6
        have X5 := (kinds_heap0 hb1 zb (.cells #[.int .i64 s1, .int .i64 s2] 33) s1 s2 g5 g9).2.1
        have X9 := (kinds_heap0 hb1 zb (.cells #[.int .i64 s1, .int .i64 s2] 33) s1 s2 g5 g9).2.2.1
        have XB := (kinds_heap0 hb1 zb (.cells #[.int .i64 s1, .int .i64 s2] 33) s1 s2 g5 g9).2.2.2.1
        have Xs := (kinds_heap0 hb1 zb (.cells #[.int .i64 s1, .int .i64 s2] 33) s1 s2 g5 g9).2.2.2.2
        rintro e W3 (⟨rfl, rfl, hJ3, hK3, hB3⟩ | ⟨rfl, hne, hJx3⟩)
        · rw [if_pos rfl] at H
          simp -implicitDefEqProofs only [Bool.false_eq_true, if_false] at H
          generalize hX : (((w1.alloc (.cells #[.int .i64 s1, .int .i64 s2] 33)).setCell ⟨b + 9, 0, none⟩ (.int .i64 s1)).setCell ⟨b + 9, 1, none⟩ (.int .i64 s2)) = X at X4 X5 X6 X9 XB Xs hK3 hB3
          have Y4 := (hK3.2 (b + 4) (by omega) (by omega)).trans X4
          have Y5 := (hK3.2 (b + 5) (by omega) (by omega)).trans X5
          have Y6 := (hK3.2 (b + 6) (by omega) (by omega)).trans X6
          have Y9 := (hK3.2 (b + 9) (by omega) (by omega)).trans X9
          have Ys := hK3.1
          gi_wp2
          go_roundw
          case rel => exact ⟨j + 1, now, s1, s2, out ++ [now], by simp, by omega, by simp [ho], Y4, Y5, Y6, Y9, hJ3, (hBo.trans XB).trans hB3, by omega, ⟨H⟩⟩
          case measure => simp [intOf]; omega
        · rw [if_neg hne] at H
          obtain ⟨rfl, rfl⟩ := Prod.mk.inj (Option.some.inj H)
          gi_wp2
          refine bodyPost_ret (results_none rfl _ _ _) rfl ?_
          exact ⟨⟨_, rfl⟩, .inr ⟨hJx3, rfl, hne⟩⟩
    · obtain rfl : j = l.length := by omega
      rw [List.drop_length] at H
      simp -implicitDefEqProofs only [run_go] at H
      obtain ⟨rfl, rfl⟩ := Prod.mk.inj (Option.some.inj H)
      gi_wp2
      go_end0
      exact ⟨⟨_, rfl⟩, .inl ⟨hJo, rfl⟩⟩
theorem kinds_any (p0 : Bool) (p1 p2 p3 p4 now : Int) (A : Option Addr) (n cap : Nat) (w : World) :
    Calls Try.prog 23 #[.agg #[.bool p0, .int .i64 p1, .int .i64 p2, .int .i64 p3, .int .i64 p4], .int .i64 now, .slice A n cap] w fun e w' =>
      e = .returned (.func (.func 24) #[] #[.pointer (some ⟨w.heap.size + 1 + 1, 0, none⟩), .pointer (some ⟨w.heap.size, 0, none⟩), .pointer (some ⟨w.heap.size + 1, 0, none⟩)]) ∧
      w' = ((w.alloc (.cells #[.bool p0, .int .i64 p1, .int .i64 p2, .int .i64 p3, .int .i64 p4] 23)).alloc (.cells #[.int .i64 now] 3)).alloc (.cells #[.slice A n cap] 37) := by
  have hu23 := Try.underlying23
  go_enter Try.func23, Try.ntmps23
  go_wp2
  go_ret
  exact ⟨rfl, rfl⟩
theorem info3_ : (Try.prog.info? 3).map (fun i => (i.zero, i.size, i.bytes)) = some (some (.int .i64 0), 1, 8) := by kernel_rfl
theorem own_kept {W W' : World} {base : Nat} {e : TypeId} {size n : Nat} {v : Value} {xs : List Value} (h : W.ownsRow base e size v n xs) {S : Nat → Prop} (hk : Kept W W' S) (hs : ∀ q, base ≤ q → ¬ S q) : W'.ownsRow base e size v n xs :=
  own_move h (fun q hq => hk.2 q (by
    obtain ⟨cs, hc⟩ := own_typed h q hq
    exact (Array.getElem?_eq_some_iff.1 hc).1) (hs q (own_base h q hq)))
/-- Between two rounds: the loop's record is ready; what has been collected. -/
def RunJ (b : Nat) (w : World) (rec : LoopState → Option Code → Loop) (out : List Int) (W : World) : Prop :=
  W.heap[b + 8]? = some (.loop (rec .ready none)) ∧ W.heap[b + 7]? = some (.deferred (some [])) ∧ W.heap[b + 1]? = some (.cells #[.slice none 0 0] 38 (0, 0)) ∧ W.heap[b + 2]? = some (.cells #[.int .i64 0] 27 (0, 0)) ∧
  (∃ v, W.heap[b + 3]? = some (.cells #[v] 38 (0, 0)) ∧ W.ownsRow (b + 10) 3 1 v out.length (out.map (Value.int .i64))) ∧ Below b w W ∧ b + 9 ≤ W.heap.size
/-- A round has left by the return of an error. -/
def RunX (b : Nat) (w : World) (rec : LoopState → Option Code → Loop) (e : Int) (W : World) : Prop :=
  W.heap[b + 8]? = some (.loop (rec .done (some .ret))) ∧ W.heap[b + 7]? = some (.deferred (some [])) ∧ W.heap[b + 1]? = some (.cells #[.slice none 0 0] 38 (0, 0)) ∧ W.heap[b + 2]? = some (.cells #[.int .i64 e] 27 (0, 0)) ∧ Below b w W
theorem RunJ.abides {b : Nat} {w : World} {rec : LoopState → Option Code → Loop} (out : List Int) (X Y : World) (h : RunJ b w rec out X) (hk : Kept X Y (fun q => q = b + 5 ∨ q = b + 9)) (hb : Below b X Y) : RunJ b w rec out Y := by
  obtain ⟨h8, h7, h1, h2, ⟨v, h3, ho⟩, hB, hs⟩ := h
  have lt : ∀ q u, X.heap[q]? = some u → q < X.heap.size := fun q u h => (Array.getElem?_eq_some_iff.1 h).1
  exact ⟨(hk.2 _ (lt _ _ h8) (by omega)).trans h8, (hk.2 _ (lt _ _ h7) (by omega)).trans h7, (hk.2 _ (lt _ _ h1) (by omega)).trans h1, (hk.2 _ (lt _ _ h2) (by omega)).trans h2,
    ⟨v, (hk.2 _ (lt _ _ h3) (by omega)).trans h3, own_kept ho hk (fun q hq => by omega)⟩, hB.trans hb, Nat.le_trans hs hk.1⟩
/-- How a round may end: the record is still busy; what yield hands back. -/
def RoundEnd (l : Nat) (rec : LoopState → Option Code → Loop) (R : Ending → World → Prop) : Exit → Act → World → Prop
  | .normal, _, W => W.heap[l]? = some (.loop { rec .ready none with state := .busy }) ∧ R (.returned (.bool true)) (W.putObj l (.loop (rec .ready none)))
  | .ret, _, W => W.heap[l]? = some (.loop { rec .ready none with state := .busy }) ∧ R (.returned (.bool false)) (W.putObj l (.loop (rec .done (some .ret))))
  | .exit id, _, W => W.heap[l]? = some (.loop { rec .ready none with state := .busy }) ∧ R (.returned (.bool false)) (W.putObj l (.loop (rec .done (some (.exit id)))))
  | _, _, _ => False
/-- A call of yield, out of the walk of the loop's body. -/
theorem yield_wide {P : Program} {m l : Nat} {fn : FuncId} {tmps : Array Value} {ps : Array Tmp} {assign body : Code} {dfr : Nat} {rec : LoopState → Option Code → Loop}
    (hrec : rec = fun st pe => { state := st, pending := pe, fn := fn, tmps := tmps, params := ps, assign := assign, body := body, defers := dfr }) {args : Array Value} (hs : args.size = ps.size) {W : World}
    (hl : W.heap[l]? = some (.loop (rec .ready none))) {R : Ending → World → Prop} (a₁ : Act)
    (ha : ∀ K : Act → World → Prop, K a₁ W → assign.wpIn (Fence.wide.inRound l) m P (Exit.then K (fun _ _ _ => False)) { tmps := (ps.zip args).foldl (fun t (p, v) => t.setIfInBounds p v) tmps, defers := [] } W)
    (hb : body.wpIn (Fence.wide.inRound l) m P (RoundEnd l rec R) a₁ (W.putObj l (.loop { rec .ready none with state := .busy }))) : YieldAt Fence.wide m P l args W R := by
  have hy := run_yield (P := P) (args := args) hl (by rw [hrec]; exact hs)
  rw [hrec] at hy
  refine ⟨fn, _, assign, body, hy, roundIn_of_wpIn trivial (ha _ ⟨_, run_beginRound hl (by rw [hrec]), wpIn_mono hb ?_⟩)⟩
  have fin : ∀ (jump : Option Code) (W3 : World), W3.heap[l]? = some (.loop { rec .ready none with state := .busy }) →
      (Instr.endRound l jump).run P W3 = .ok (.bool jump.isNone) (W3.putObj l (.loop (rec (if jump.isNone then .ready else .done) jump))) := fun jump W3 h3 => by
    have := run_endRound (P := P) jump h3
    rw [hrec] at this ⊢
    exact this
  rintro e a3 W3 hp
  cases e with
  | normal => exact ⟨_, _, fin none W3 hp.1, hp.2⟩
  | ret => exact ⟨_, _, fin (some .ret) W3 hp.1, hp.2⟩
  | exit id => exact ⟨_, _, fin (some (.exit id)) W3 hp.1, hp.2⟩
  | goto t => exact hp.elim
  | panic ch => exact hp.elim
  | outgrown => exact hp.elim
/-- The statement: the record is laid, the function is called with yield. -/
theorem rf_wide {P : Program} {m : Nat} {g : Operand} {ps : Array Tmp} {assign body : Code} {Q : Exit → Act → World → Prop} {a : Act} {w : World} {gf : Nat} {lb : Array Value}
    (hg : a.eval g = .func (.func gf) #[] lb) (eg : ∀ args w, (callFunc gf args).run P w = .ok (.enter gf args) w)
    (h : ∀ (fn : FuncId) (rec : LoopState → Option Code → Loop), rec = (fun st pe => { state := st, pending := pe, fn := fn, tmps := a.tmps, params := ps, assign := assign, body := body, defers := w.heap.size }) →
      ∀ W1, W1 = (w.alloc (.deferred (some []))).alloc (.loop (rec .ready none)) → W1.heap[w.heap.size + 1]? = some (.loop (rec .ready none)) → W1.heap[w.heap.size]? = some (.deferred (some [])) →
      CallsIn Fence.wide m P gf (#[.func (.yield (w.heap.size + 1)) #[] #[]] ++ lb) W1 (rangePost Fence.wide (m + 1) P (w.heap.size + 1) Q { a with defers := [{ target := .collected w.heap.size, args := #[] }] ++ a.defers })) :
    (Code.rangeFunc g ps assign body).wpIn Fence.wide (m + 1) P Q a w := by
  refine wpIn_rangeFunc ?_
  intro fn _
  have hL := World.alloc_heap_new (w.alloc (.deferred (some []))) (.loop { state := .ready, pending := none, fn := fn, tmps := a.tmps, params := ps, assign := assign, body := body, defers := w.heap.size })
  rw [World.size_alloc] at hL
  obtain ⟨W1, hW1⟩ : ∃ W1, W1 = (w.alloc (.deferred (some []))).alloc (.loop { state := .ready, pending := none, fn := fn, tmps := a.tmps, params := ps, assign := assign, body := body, defers := w.heap.size }) := ⟨_, rfl⟩
  refine ⟨w.heap.size + 1, [{ target := .collected w.heap.size, args := #[] }], W1, { target := .fn (.func gf) lb, args := #[.func (.yield (w.heap.size + 1)) #[] #[]] }, W1, gf, #[.func (.yield (w.heap.size + 1)) #[] #[]] ++ lb, W1,
    ?_, ?_, ?_, ?_, fun _ => Nat.le_add_left 1 m, ?_⟩
  · rw [hW1]; exact run_enterLoop_outer fn a.tmps ps assign body
  · simp only [resolve, hg]
    simp [go_sem]
  · intro f' _; trivial
  · simp [invoke, go_sem, eg]
  · exact h fn (fun st pe => { state := st, pending := pe, fn := fn, tmps := a.tmps, params := ps, assign := assign, body := body, defers := w.heap.size }) rfl W1 hW1 (by rw [hW1]; exact hL) (by rw [hW1]; exact blk_alloc (World.alloc_heap_new w _) _)
theorem slice_of_own {W : World} {base : Nat} {e : TypeId} {size n : Nat} {v : Value} {xs : List Value} (h : W.ownsRow base e size v n xs) : ∃ a c, v = .slice a n c := by
  rcases h.2 with ⟨rfl, h0⟩ | ⟨g, cap, cur, rfl, _⟩
  · exact ⟨_, _, by rw [h0]⟩
  · exact ⟨_, _, rfl⟩
theorem own_lower {W : World} {base base' : Nat} {e : TypeId} {size n : Nat} {v : Value} {xs : List Value} (h : W.ownsRow base' e size v n xs) (hb : base ≤ base') : W.ownsRow base e size v n xs := by
  obtain ⟨h1, h2⟩ := h
  refine ⟨h1, ?_⟩
  rcases h2 with h2 | ⟨g, cap, cur, rfl, hg, r⟩
  · exact .inl h2
  · exact .inr ⟨g, cap, cur, rfl, Nat.le_trans hb hg, r⟩
/-- The function's end: its results lie in two cells. -/
theorem run_ends {b : Nat} {w W4 : World} {tmps : Array Value} {v : Value} {r1 : List Int} {r2 e : Int} (v1 : W4.heap[b + 1]? = some (.cells #[v] 38 (0, 0))) (v2 : W4.heap[b + 2]? = some (.cells #[.int .i64 e] 27 (0, 0)))
    (v7 : W4.heap[b + 7]? = some (.deferred (some []))) (go4 : W4.ownsRow (b + 10) 3 1 v r1.length (r1.map (Value.int .i64))) (B4 : Below b w W4) (hb : w.heap.size = b)
    (h6 : tmps[6]?.getD undef = .pointer (some ⟨b + 1, 0, none⟩)) (h7 : tmps[7]?.getD undef = .pointer (some ⟨b + 2, 0, none⟩)) (he : e = r2) :
    LeavesInM Fence.wide 4 Try.prog Try.f16 tmps (fun e w' => ∃ v0_, e = .returned (.tuple #[v0_, .int .i64 r2]) ∧ Kd.R (Kd.int .i64) 3 w' w.heap.size (fun _ => True) v0_ r1 ∧ Below w.heap.size w w') [] .returning (W4.putObj (b + 7) (.deferred none)) := by
  subst he
  have pu : ∀ o q u, q ≠ b + 7 → W4.heap[q]? = some u → (W4.putObj (b + 7) o).heap[q]? = some u := fun o q u hq h => (World.putObj_heap_other hq).trans h
  have z1 := blk_cell (pu (.deferred none) _ _ (by omega) v1) 0
  have z2 := blk_cell (pu (.deferred none) _ _ (by omega) v2) 0
  refine ⟨.tuple #[v, .int .i64 e], ?_, v, rfl, ?_, ?_⟩
  · simp [results, Try.results16, h6, h7, go_sem, z1, z2]
  · rw [hb]
    exact Kd.R_of_own (own_lower (ownsRow_putObj go4 _ v7 rfl) (by omega)) (fun _ _ => trivial)
  · rw [hb]
    exact B4.grown (grownBy_putObj' _ (b + 7) _) (by have := B4.size; omega) (fun k e => by cases e; omega)
theorem grown_keep {W X Y : World} {v : Value} {base : Nat} {e : TypeId} {size n : Nat} {xs : List Value} (hg : X.grownBy Y v.ownBlock) (ho : W.ownsRow base e size v n xs) {q : Nat} {u : Obj} (hq : q < base) (h : X.heap[q]? = some u) : Y.heap[q]? = some u :=
  (hg.block q (blk_lt h) (fun he => by have := own_base ho q he.symm; omega)).trans h
set_option maxRecDepth 100000 in
set_option maxHeartbeats 4000000 in
theorem run_any (k : Nat) (p0 : Bool) (p1 p2 p3 p4 now0 : Int) (A : Option Addr) (cap : Nat) (l : List S25) (r1 : List Int) (r2 : Int) (w : World)
    (hC : Kd.C k25 w A l.length l) (hcap : l.length ≤ cap) (hN : l.length * 8 ≤ 140737488355328) (hrun : run_go k p0 p1 p2 p3 p4 now0 0 0 l [] = some (r1, r2)) :
    CallsIn Fence.wide 4 Try.prog 16 #[.agg #[.bool p0, .int .i64 p1, .int .i64 p2, .int .i64 p3, .int .i64 p4], .int .i64 now0, .slice A l.length cap] w fun e w' =>
      ∃ v0_ : Value, e = .returned (.tuple #[v0_, .int .i64 r2]) ∧ Kd.R (Kd.int .i64) 3 w' w.heap.size (fun _ => True) v0_ r1 ∧ Below w.heap.size w w' := by
  have hu23 := Try.underlying23
  refine callsIn_of_wp_marks Try.func16 rfl trivial ?_ rfl
  simp only [Try.ntmps16, List.size_toArray, List.length_cons, List.length_nil, Nat.reduceAdd, Nat.reduceSub, Array.replicate_succ, Array.replicate_zero, List.push_toArray, List.append_toArray, List.nil_append, List.cons_append]
  gi_wp2_with (refine ⟨trivial, ?_⟩; gi_at_call 23; refine (callsIn_wide.2 (kinds_any p0 p1 p2 p3 p4 now0 A l.length cap _)).mono ?_; rintro e w' ⟨rfl, rfl⟩)
  obtain ⟨b, hb⟩ : ∃ b, w.heap.size = b := ⟨_, rfl⟩
  rw [hb]
  simp only [Nat.add_assoc, Nat.reduceAdd]
  generalize hw3 : (((((((w.alloc (.cells #[.bool p0, .int .i64 p1, .int .i64 p2, .int .i64 p3, .int .i64 p4] 23)).alloc (.cells #[.slice none 0 0] 38)).alloc (.cells #[.int .i64 0] 27)).alloc (.cells #[.slice none 0 0] 38)).alloc
    (.cells #[.bool p0, .int .i64 p1, .int .i64 p2, .int .i64 p3, .int .i64 p4] 23)).alloc (.cells #[.int .i64 now0] 3)).alloc (.cells #[.slice A l.length cap] 37)) = w3
  obtain ⟨hs3, q1, q2, q3, q4, q5, q6, hB3⟩ : w3.heap.size = b + 7 ∧ w3.heap[b + 1]? = some (.cells #[.slice none 0 0] 38 (0, 0)) ∧ w3.heap[b + 2]? = some (.cells #[.int .i64 0] 27 (0, 0)) ∧ w3.heap[b + 3]? = some (.cells #[.slice none 0 0] 38 (0, 0)) ∧
      w3.heap[b + 4]? = some (.cells #[.bool p0, .int .i64 p1, .int .i64 p2, .int .i64 p3, .int .i64 p4] 23 (0, 0)) ∧ w3.heap[b + 5]? = some (.cells #[.int .i64 now0] 3 (0, 0)) ∧ w3.heap[b + 6]? = some (.cells #[.slice A l.length cap] 37 (0, 0)) ∧ Below b w w3 := by
    subst hw3 hb
    refine ⟨by simp, ?_, ?_, ?_, ?_, ?_, ?_, ?_⟩
    · exact blk_alloc (blk_alloc (blk_alloc (blk_alloc (blk_alloc (by rw [← World.size_alloc]; exact blk_new _ _) _) _) _) _) _
    · exact blk_alloc (blk_alloc (blk_alloc (blk_alloc (by have := blk_new ((w.alloc (.cells #[.bool p0, .int .i64 p1, .int .i64 p2, .int .i64 p3, .int .i64 p4] 23)).alloc (.cells #[.slice none 0 0] 38)) (.cells #[.int .i64 0] 27); simpa using this) _) _) _) _
    · exact blk_alloc (blk_alloc (blk_alloc (by have := blk_new (((w.alloc (.cells #[.bool p0, .int .i64 p1, .int .i64 p2, .int .i64 p3, .int .i64 p4] 23)).alloc (.cells #[.slice none 0 0] 38)).alloc (.cells #[.int .i64 0] 27)) (.cells #[.slice none 0 0] 38); simpa using this) _) _) _
    · exact blk_alloc (blk_alloc (by have := blk_new ((((w.alloc (.cells #[.bool p0, .int .i64 p1, .int .i64 p2, .int .i64 p3, .int .i64 p4] 23)).alloc (.cells #[.slice none 0 0] 38)).alloc (.cells #[.int .i64 0] 27)).alloc (.cells #[.slice none 0 0] 38)) (.cells #[.bool p0, .int .i64 p1, .int .i64 p2, .int .i64 p3, .int .i64 p4] 23); simpa using this) _) _
    · exact blk_alloc (by have := blk_new (((((w.alloc (.cells #[.bool p0, .int .i64 p1, .int .i64 p2, .int .i64 p3, .int .i64 p4] 23)).alloc (.cells #[.slice none 0 0] 38)).alloc (.cells #[.int .i64 0] 27)).alloc (.cells #[.slice none 0 0] 38)).alloc (.cells #[.bool p0, .int .i64 p1, .int .i64 p2, .int .i64 p3, .int .i64 p4] 23)) (.cells #[.int .i64 now0] 3); simpa using this) _
    · have := blk_new ((((((w.alloc (.cells #[.bool p0, .int .i64 p1, .int .i64 p2, .int .i64 p3, .int .i64 p4] 23)).alloc (.cells #[.slice none 0 0] 38)).alloc (.cells #[.int .i64 0] 27)).alloc (.cells #[.slice none 0 0] 38)).alloc (.cells #[.bool p0, .int .i64 p1, .int .i64 p2, .int .i64 p3, .int .i64 p4] 23)).alloc (.cells #[.int .i64 now0] 3)) (.cells #[.slice A l.length cap] 37); simpa using this
    · exact below_alloc (below_alloc (below_alloc (below_alloc (below_alloc (below_alloc (below_alloc (Below.refl _ _) _) _) _) _) _) _) _
  clear hw3
  obtain ⟨i0, hi, hz0, hz1, hz2⟩ := info_parts info3_
  refine rf_wide (gf := 24) (lb := #[.pointer (some ⟨b + 6, 0, none⟩), .pointer (some ⟨b + 4, 0, none⟩), .pointer (some ⟨b + 5, 0, none⟩)]) rfl (enters_of Try.func24 (by kernel_rfl) rfl) ?_
  intro fn rec hrec W1 hW1 hL1 hD1
  rw [hs3] at hL1 hD1 hrec ⊢
  have hsz : W1.heap.size = b + 9 := by rw [hW1]; simp [hs3]
  have up : ∀ q u, w3.heap[q]? = some u → W1.heap[q]? = some u := fun q u h => by rw [hW1]; exact blk_alloc (blk_alloc h _) _
  have hBW : Below b w W1 := by rw [hW1]; exact (hB3.alloc (by omega) _).alloc (by simp; omega) _
  clear hW1
  refine (kinds1_in k p0 p1 p2 p3 p4 now0 b (b + 8) w W1 hb hsz hBW A cap l hC hcap (up _ _ q4) (up _ _ q5) (up _ _ q6) (RunJ b w rec) (RunX b w rec) RunJ.abides ?_
    ⟨hL1, hD1, up _ _ q1, up _ _ q2, ⟨_, up _ _ q3, World.ownsRow_nil _ _ _ _⟩, hBW, by omega⟩ r1 r2 hrun).mono ?_
  · intro out x e W hJ hlt
    obtain ⟨h8, h7, h1, h2, ⟨v, h3, ho⟩, hB, hs⟩ := hJ
    refine yield_wide hrec rfl h8 { tmps := #[.agg #[.bool p0, .int .i64 p1, .int .i64 p2, .int .i64 p3, .int .i64 p4], .int .i64 now0, .slice A l.length cap, .pointer (some ⟨b, 0, none⟩), undef, undef, .pointer (some ⟨b + 1, 0, none⟩), .pointer (some ⟨b + 2, 0, none⟩), .pointer (some ⟨b + 3, 0, none⟩), .int .i64 x, .int .i64 e,
      .agg #[.bool p0, .int .i64 p1, .int .i64 p2, .int .i64 p3, .int .i64 p4], .int .i64 now0, .slice A l.length cap, .func (.func 24) #[] #[.pointer (some ⟨b + 6, 0, none⟩), .pointer (some ⟨b + 4, 0, none⟩), .pointer (some ⟨b + 5, 0, none⟩)], .int .i64 x, .int .i64 e, undef, undef, undef, undef, undef, undef, undef, undef], defers := [] } ?_ ?_
    · intro K hK
      gi_wp2
      exact hK
    · have hlt8 : b + 8 < W.heap.size := blk_lt h8
      have hbz : (W.putObj (b + 8) (.loop { rec .ready none with state := .busy })).heap[b + 8]? = some (.loop { rec .ready none with state := .busy }) := World.putObj_heap_same hlt8
      have pu : ∀ q u, q ≠ b + 8 → W.heap[q]? = some u → (W.putObj (b + 8) (.loop { rec .ready none with state := .busy })).heap[q]? = some u := fun q u hq h => (World.putObj_heap_other hq).trans h
      have t7 := pu _ _ (by omega) h7
      have t1 := pu _ _ (by omega) h1
      have t2 := pu _ _ (by omega) h2
      have t3 := pu _ _ (by omega) h3
      have tho := ownsRow_putObj ho (.loop { rec .ready none with state := .busy }) h8 rfl
      have tB : Below b W (W.putObj (b + 8) (.loop { rec .ready none with state := .busy })) := (Below.refl b W).grown (grownBy_putObj' W (b + 8) _) (by omega) (fun k e => by cases e; omega)
      have tK : Kept W (W.putObj (b + 8) (.loop { rec .ready none with state := .busy })) (fun q => q = b + 3 ∨ q = b + 8 ∨ b + 10 ≤ q) := Kept.of_grown (grownBy_putObj' W (b + 8) _) (Kept.refl _ _) (fun k e => by cases e; exact .inl (.inr (.inl rfl)))
      have tz : b + 9 ≤ (W.putObj (b + 8) (.loop { rec .ready none with state := .busy })).heap.size := by simp; omega
      generalize hWb : W.putObj (b + 8) (.loop { rec .ready none with state := .busy }) = Wb at *
      clear hWb pu
      have c3 := blk_cell t3 0
      have d3 := blk_frozen t3 0
      have d1 := blk_frozen t1 0
      have c1 := blk_cell t1 0
      have d2 := blk_frozen t2 0
      have c2 := blk_cell t2 0
      have R1 : ∀ (X : World) (o : Obj) (q : Nat) (u : Obj), q ≠ b + 8 → X.heap[q]? = some u → (X.putObj (b + 8) o).heap[q]? = some u := fun X o q u hq h => (World.putObj_heap_other hq).trans h
      have R2 : ∀ (X : World) (o : Obj), Below b w X → b + 8 < X.heap.size → Below b w (X.putObj (b + 8) o) := fun X o h hlt => h.trans ((Below.refl b X).grown (grownBy_putObj' X (b + 8) _) (by omega) (fun k e => by cases e; omega))
      clear hrec
      by_cases he : e = 0
      · subst he
        gi_wp2_with (gi_at_builtin; refine wpListIn_append_own _ rfl _ _ 38 rfl (b + 10) 3 i0 (.int .i64 0) 1 8 Try.underlying38 hi hz0 hz1 hz2 rfl (by decide) _ _ _ rfl (tho.alloc _) ⟨Wb.heap.size, 0, none⟩ 1 1 [.int .i64 x] rfl rfl (cell_one_new _ _ _) (by simp [Value.oneCell']) (by unfold maxLen; omega) (by omega) (by simp; omega) ?_; intro v' w1 hown' hgrow _; obtain ⟨g', cap', rfl⟩ := ownsRow_succ hown'; have m3 := grown_keep hgrow tho (by omega) (blk_alloc t3 _); have c31 := blk_cell m3 0; have d31 := blk_frozen m3 0)
        have m8 := grown_keep hgrow tho (by omega) (blk_alloc hbz (.cells #[.int .i64 x] 3))
        have m7 := grown_keep hgrow tho (by omega) (blk_alloc t7 (.cells #[.int .i64 x] 3))
        have m1 := grown_keep hgrow tho (by omega) (blk_alloc t1 (.cells #[.int .i64 x] 3))
        have m2 := grown_keep hgrow tho (by omega) (blk_alloc t2 (.cells #[.int .i64 x] 3))
        have far : ∀ q u, q ≠ b + 3 → w1.heap[q]? = some u → (w1.setCell ⟨b + 3, 0, none⟩ (.slice (some ⟨g', 0, none⟩) (out.length + 1) cap')).heap[q]? = some u := fun q u hq h => (Below.heap_setCell _ ⟨b + 3, 0, none⟩ _ q hq).trans h
        have hgs := hgrow.size
        simp at hgs
        have hob : ∀ q, v.ownBlock = some q → b + 10 ≤ q := fun q hq => own_base tho q hq
        have kB : Below b W (w1.setCell ⟨b + 3, 0, none⟩ (.slice (some ⟨g', 0, none⟩) (out.length + 1) cap')) := ((tB.alloc (by omega) (.cells #[.int .i64 x] 3)).grown hgrow (by simp; omega) (fun q hq => by have := hob q hq; omega)).setCell (p := ⟨b + 3, 0, none⟩) (by simp) _
        have kK : Kept W (w1.setCell ⟨b + 3, 0, none⟩ (.slice (some ⟨g', 0, none⟩) (out.length + 1) cap')) (fun q => q = b + 3 ∨ q = b + 8 ∨ b + 10 ≤ q) := (Kept.of_grown hgrow (tK.alloc (.cells #[.int .i64 x] 3)) (fun q hq => .inl (.inr (.inr (hob q hq))))).setCell (p := ⟨b + 3, 0, none⟩) (.inl (.inl rfl)) _
        have u8 := far _ _ (by omega) m8
        have own1 : (w1.setCell ⟨b + 3, 0, none⟩ (.slice (some ⟨g', 0, none⟩) (out.length + 1) cap')).ownsRow (b + 10) 3 1 (.slice (some ⟨g', 0, none⟩) (out.length + 1) cap') (out ++ [x]).length ((out ++ [x]).map (Value.int .i64)) := by
          have := own_kept hown' ((Kept.refl w1 (fun q => q = b + 3)).setCell (p := ⟨b + 3, 0, none⟩) (.inl rfl) (.slice (some ⟨g', 0, none⟩) (out.length + 1) cap')) (fun q hq => by omega)
          simpa using this
        refine ⟨u8, rfl, ⟨World.putObj_heap_same (blk_lt u8), R1 _ _ _ _ (by omega) (far _ _ (by omega) m7), R1 _ _ _ _ (by omega) (far _ _ (by omega) m1), R1 _ _ _ _ (by omega) (far _ _ (by omega) m2),
          ⟨_, R1 _ _ _ _ (by omega) (blk_put m3 0 _ rfl), ownsRow_putObj own1 _ u8 rfl⟩, R2 _ _ (hB.trans kB) (blk_lt u8), by simp [World.setCell]; omega⟩,
          Kept.of_grown (grownBy_putObj' _ (b + 8) _) kK (fun k e => by cases e; exact .inl (.inr (.inl rfl))), kB.grown (grownBy_putObj' _ (b + 8) _) (by simp [World.setCell]; omega) (fun k e => by cases e; omega)⟩
      · have he0 : (e == 0) = false := by simp [he]
        have he1 : (e != 0) = true := by simp [he]
        have he' := Lib.hid he
        clear he
        gi_wp2
        have u8 : ((Wb.setCell ⟨b + 1, 0, none⟩ (.slice none 0 0)).setCell ⟨b + 2, 0, none⟩ (.int .i64 e)).heap[b + 8]? = some (.loop { rec .ready none with state := .busy }) := by
          rw [Below.heap_setCell _ _ _ _ (by simp), Below.heap_setCell _ _ _ _ (by simp)]; exact hbz
        have u7 : ((Wb.setCell ⟨b + 1, 0, none⟩ (.slice none 0 0)).setCell ⟨b + 2, 0, none⟩ (.int .i64 e)).heap[b + 7]? = some (.deferred (some [])) := by
          rw [Below.heap_setCell _ _ _ _ (by simp), Below.heap_setCell _ _ _ _ (by simp)]; exact t7
        refine ⟨u8, .inr ⟨rfl, he'.out, World.putObj_heap_same (blk_lt u8), R1 _ _ _ _ (by omega) u7, R1 _ _ _ _ (by omega) (blk_far (blk_put t1 0 _ rfl) (by simp) _), R1 _ _ _ _ (by omega) (blk_put (blk_far t2 (by simp) _) 0 _ rfl), R2 _ _ (((hB.trans tB).setCell (p := ⟨b + 1, 0, none⟩) (by simp) _).setCell (p := ⟨b + 2, 0, none⟩) (by simp) _) (blk_lt u8)⟩⟩
  · rintro e W2 ⟨⟨v, rfl⟩, hpost⟩
    rcases hpost with ⟨⟨g8, g7, g1, g2, ⟨sv, g3, go⟩, gB, gs⟩, hr2⟩ | ⟨⟨g8, g7, g1, g2, gB⟩, hr1, hr2⟩
    · refine ⟨none, _, by have := run_endLoop (P := Try.prog) g8 (by rw [hrec]; simp); rw [hrec] at this; exact this, ?_⟩
      dsimp only [List.cons_append, List.nil_append]
      have pu : ∀ o q u, q ≠ b + 8 → W2.heap[q]? = some u → (W2.putObj (b + 8) o).heap[q]? = some u := fun o q u hq h => (World.putObj_heap_other hq).trans h
      have c3 : ∀ o, (W2.putObj (b + 8) o).cell? ⟨b + 3, 0, none⟩ = some sv := fun o => blk_cell (pu o _ _ (by omega) g3) 0
      have c1 : ∀ o, (W2.putObj (b + 8) o).cell? ⟨b + 1, 0, none⟩ = some (.slice none 0 0) := fun o => blk_cell (pu o _ _ (by omega) g1) 0
      have c2 : ∀ o, (W2.putObj (b + 8) o).cell? ⟨b + 2, 0, none⟩ = some (.int .i64 0) := fun o => blk_cell (pu o _ _ (by omega) g2) 0
      have d1 : ∀ o, (W2.putObj (b + 8) o).frozen? ⟨b + 1, 0, none⟩ = false := fun o => blk_frozen (pu o _ _ (by omega) g1) 0
      have d2 : ∀ o, (W2.putObj (b + 8) o).frozen? ⟨b + 2, 0, none⟩ = false := fun o => blk_frozen (pu o _ _ (by omega) g2) 0
      obtain ⟨ga, gc, hsv⟩ := slice_of_own go
      subst hsv
      generalize (Obj.loop _) = ob
      have hrun' := Lib.hid hrun
      have hb' := Lib.hid hb
      clear hrun hb hrec
      gi_wp2
      have v7 : (((W2.putObj (b + 8) ob).setCell ⟨b + 1, 0, none⟩ (.slice ga r1.length gc)).setCell ⟨b + 2, 0, none⟩ (.int .i64 0)).heap[b + 7]? = some (.deferred (some [])) := by
        rw [Below.heap_setCell _ _ _ _ (by simp), Below.heap_setCell _ _ _ _ (by simp)]; exact pu _ _ _ (by omega) g7
      have v1 := blk_far (blk_put (pu ob _ _ (by omega) g1) 0 (.slice ga r1.length gc) rfl) (p := ⟨b + 2, 0, none⟩) (by simp) (.int .i64 0)
      have v2 := blk_put (blk_far (pu ob _ _ (by omega) g2) (p := ⟨b + 1, 0, none⟩) (by simp) (.slice ga r1.length gc)) 0 (.int .i64 0) rfl
      refine ⟨by simp, .inl ⟨_, _, rfl, run_takeDeferred v7, ?_⟩⟩
      have go4 : (((W2.putObj (b + 8) ob).setCell ⟨b + 1, 0, none⟩ (.slice ga r1.length gc)).setCell ⟨b + 2, 0, none⟩ (.int .i64 0)).ownsRow (b + 10) 3 1 (.slice ga r1.length gc) r1.length (r1.map (Value.int .i64)) :=
        own_kept (ownsRow_putObj go ob g8 rfl) (((Kept.refl _ (fun q => q = b + 1 ∨ q = b + 2)).setCell (p := ⟨b + 1, 0, none⟩) (.inl (.inl rfl)) _).setCell (p := ⟨b + 2, 0, none⟩) (.inl (.inr rfl)) _) (fun q hq => by omega)
      have B4 : Below b w (((W2.putObj (b + 8) ob).setCell ⟨b + 1, 0, none⟩ (.slice ga r1.length gc)).setCell ⟨b + 2, 0, none⟩ (.int .i64 0)) :=
        ((gB.grown (grownBy_putObj' _ (b + 8) _) (by omega) (fun k e => by cases e; omega)).setCell (p := ⟨b + 1, 0, none⟩) (by simp) _).setCell (p := ⟨b + 2, 0, none⟩) (by simp) _
      generalize ((W2.putObj (b + 8) ob).setCell ⟨b + 1, 0, none⟩ (.slice ga r1.length gc)).setCell ⟨b + 2, 0, none⟩ (.int .i64 0) = W4 at *
      exact run_ends v1 v2 v7 go4 B4 hb'.out rfl rfl (by rw [hr2])
    · refine ⟨some .ret, _, by have := run_endLoop (P := Try.prog) g8 (by rw [hrec]; simp); rw [hrec] at this; exact this, ?_⟩
      dsimp only [List.cons_append, List.nil_append]
      have pu : ∀ o q u, q ≠ b + 8 → W2.heap[q]? = some u → (W2.putObj (b + 8) o).heap[q]? = some u := fun o q u hq h => (World.putObj_heap_other hq).trans h
      generalize (Obj.loop _) = ob
      have hb' := Lib.hid hb
      have hr1' := Lib.hid hr1
      have hr2' := Lib.hid hr2
      clear hrun hb hrec hr1 hr2
      gi_wp2
      refine ⟨by simp, .inl ⟨_, _, rfl, run_takeDeferred (pu ob _ _ (by omega) g7), ?_⟩⟩
      have B4 : Below b w (W2.putObj (b + 8) ob) := gB.grown (grownBy_putObj' _ (b + 8) _) (by have := blk_lt g8; omega) (fun k e => by cases e; omega)
      exact run_ends (pu ob _ _ (by omega) g1) (pu ob _ _ (by omega) g2) (pu ob _ _ (by omega) g7) (by rw [hr1'.out]; exact World.ownsRow_nil _ _ _ _) B4 hb'.out rfl rfl rfl
end
def policy_Run.f (k : Nat) (a0_0 : Bool) (a0_1 : Int) (a0_2 : Int) (a0_3 : Int) (a0_4 : Int) (a1 : Int) (l2 : List (S25)) : Option (List Int × Int) := if l2.length * 8 ≤ 140737488355328 then run_go k a0_0 a0_1 a0_2 a0_3 a0_4 a1 0 0 l2 [] else none
theorem run_go_mono (k : Nat) (p0 : Bool) (p1 p2 p3 p4 : Int) : ∀ (l : List S25) (now mw mf : Int) (out : List Int), LeO (run_go k p0 p1 p2 p3 p4 now mw mf l out) (run_go (k + 1) p0 p1 p2 p3 p4 now mw mf l out)
  | [], _, _, _, _ => LeO.refl _
  | t :: ts, now, mw, mf, out => by
    simp -implicitDefEqProofs only [run_go]
    exact LeO.bind (policy_Step.mono _ _ _ _ _ _ _ _ _ _ _ _ _ _) (fun q => LeO.ite (run_go_mono k p0 p1 p2 p3 p4 ts _ _ _ _) (LeO.refl _))
theorem policy_Run.mono : ∀ a0 a1 a2 a3 a4 a5 a6 k, LeO (policy_Run.f k a0 a1 a2 a3 a4 a5 a6) (policy_Run.f (k + 1) a0 a1 a2 a3 a4 a5 a6) := by
  intro a0 a1 a2 a3 a4 a5 a6 k
  unfold policy_Run.f
  exact LeO.ite (run_go_mono k a0 a1 a2 a3 a4 a6 a5 0 0 []) (LeO.refl _)
theorem policy_Run.calls (k : Nat) (a0_0 : Bool) (a0_1 : Int) (a0_2 : Int) (a0_3 : Int) (a0_4 : Int) (a1 : Int) (A2 : Option Addr) (c2 : Nat) (l2 : List (S25)) (r1 : List Int) (r2 : Int) (w : World) (hr2 : Kd.C k25 w A2 l2.length l2) (hc2 : l2.length ≤ c2) (h : policy_Run.f k a0_0 a0_1 a0_2 a0_3 a0_4 a1 l2 = some (r1, r2)) :
    Calls Try.prog 16 #[.agg #[.bool a0_0, .int .i64 a0_1, .int .i64 a0_2, .int .i64 a0_3, .int .i64 a0_4], .int .i64 a1, .slice A2 l2.length c2] w fun e w' => ∃ v0_ : Value, e = .returned (.tuple #[v0_, .int .i64 r2]) ∧ Kd.R (Kd.int .i64) 3 w' w.heap.size (fun _ => True) v0_ r1 ∧ Below w.heap.size w w' := by
  unfold policy_Run.f at h
  by_cases hN : l2.length * 8 ≤ 140737488355328
  · rw [if_pos hN] at h
    exact callsIn_wide.1 (run_any k a0_0 a0_1 a0_2 a0_3 a0_4 a1 A2 c2 l2 r1 r2 w hr2 hc2 hN h)
  · rw [if_neg hN] at h; cases h

/-! ### complineref02_Same: function 18 -/
def complineref02_Same.l0 : Nat → List Int → List Int → Int → Option (Bool)
  | 0, _, _, _ => none
  | k + 1, x0, x1, x5 => if x5 < (x0.length : Int) then (if 0 ≤ x5 then (if x5 < (x1.length : Int) then (if (rd x0 x5) = (rd x1 x5) then (complineref02_Same.l0 k x0 x1 (wrap64 (x5 + 1))) else (some false)) else (none)) else (none)) else (some true)
def complineref02_Same.f (k : Nat) (l0 : List Int) (l1 : List Int) : Option (Bool) := if (l0.length : Int) = (l1.length : Int) then (complineref02_Same.l0 k l0 l1 0) else (some false)
theorem complineref02_Same.mono_l : ∀ k, (∀ y0 y1 y2, LeO (complineref02_Same.l0 k y0 y1 y2) (complineref02_Same.l0 (k + 1) y0 y1 y2))
  | 0 => fun _ _ _ r h => by simp [complineref02_Same.l0] at h
  | k + 1 => by
    have ih0 := complineref02_Same.mono_l k
    · intro y0 y1 y2
      unfold complineref02_Same.l0
      repeat' first
      | (with_reducible exact ih0 _ _ _)
      | (with_reducible exact LeO.refl _)
      | (with_reducible exact LeO.none _)
      | (with_reducible refine LeO.ite ?_ ?_)
      | (with_reducible refine LeO.bind ?_ (fun _ => ?_))
      | exact ih0 _ _ _
      | exact LeO.none _
      | refine LeO.ite ?_ ?_
      | refine LeO.bind ?_ (fun _ => ?_)
theorem complineref02_Same.mono : ∀ a0 a1 k, LeO (complineref02_Same.f k a0 a1) (complineref02_Same.f (k + 1) a0 a1) := by
  intro a0 a1 k
  have ih0 := complineref02_Same.mono_l k
  unfold complineref02_Same.f
  repeat' first
      | (with_reducible exact ih0 _ _ _)
      | (with_reducible exact LeO.refl _)
      | (with_reducible exact LeO.none _)
      | (with_reducible refine LeO.ite ?_ ?_)
      | (with_reducible refine LeO.bind ?_ (fun _ => ?_))
      | exact ih0 _ _ _
      | exact LeO.none _
      | refine LeO.ite ?_ ?_
      | refine LeO.bind ?_ (fun _ => ?_)
set_option maxHeartbeats 8000000 in
set_option maxRecDepth 100000 in
theorem complineref02_Same.calls (k : Nat) (A0 : Option Addr) (c0 : Nat) (l0 : List Int) (A1 : Option Addr) (c1 : Nat) (l1 : List Int) (r : Bool) (w : World) (hr0 : Kd.C (Kd.int .i64) w A0 l0.length l0) (hc0 : l0.length ≤ c0) (hr1 : Kd.C (Kd.int .i64) w A1 l1.length l1) (hc1 : l1.length ≤ c1) (h : complineref02_Same.f k l0 l1 = some r) :
    Calls Try.prog 18 #[.slice A0 l0.length c0, .slice A1 l1.length c1] w fun e w' => e = .returned (.bool r) ∧ Drawn0 w w' := by
  have HR0 := Aside0.mk hr0
  have HC0 := Aside0.mk hc0
  clear hr0 hc0
  have HR1 := Aside0.mk hr1
  have HC1 := Aside0.mk hc1
  clear hr1 hc1
  have H : (if (l0.length : Int) = (l1.length : Int) then (complineref02_Same.l0 k l0 l1 0) else (some false)) = some r := h
  clear h
  by_cases c3 : (l0.length : Int) = (l1.length : Int)
  · rw [if_pos c3] at H
    have c3b0 : ((l0.length : Int) == (l1.length : Int)) = true := beq_iff_eq.mpr c3
    have c3b1 : ((l0.length : Int) != (l1.length : Int)) = false := bne_eq_false_iff_eq.mpr c3
    have c3b2 : (l0.length == l1.length) = true := by first | simpa using c3 | (simp at c3 ⊢; omega)
    clear c3
    have H' := Aside0.mk H
    clear H
    go_enter Try.func18, Try.ntmps18
    go_wp2
    repeat (go_quiet (fail); try go_wp2)
    go_loopg [5] k (fun kq v5 w' => ∃ (x5_1 : Int), v5 = .int .i64 x5_1 ∧ Aside0 (complineref02_Same.l0 kq l0 l1 x5_1 = some r) ∧ Aside0 (kq ≤ k) ∧ Drawn0 w w')
    case atStart => exact ⟨(0), (by first | rfl | (simp; done) | (simp [*]; done)), H', ⟨Nat.le_refl _⟩, by repeat (first | exact Drawn0.refl _ | apply Drawn0.step)⟩
    case round =>
      clear H'
      try clear c1
      try clear p2
      try clear c3
      try clear c3b0
      try clear c3b1
      try clear c3b2
      obtain ⟨x5_1, rfl, HA, HK1, ⟨m1, rfl⟩⟩ := hrel
      cases gk with
      | zero => exact absurd HA.out (by simp [complineref02_Same.l0])
      | succ k1 =>
        have H := HA.out
        clear HA
        simp only [complineref02_Same.l0] at H
        by_cases c4 : x5_1 < (l0.length : Int)
        · rw [if_pos c4] at H
          have c4b0 : decide (x5_1 < (l0.length : Int)) = true := decide_eq_true c4
          clear c4
          by_cases c5 : 0 ≤ x5_1
          · rw [if_pos c5] at H
            have c5b0 : decide (0 ≤ x5_1) = true := decide_eq_true c5
            clear c5
            by_cases c6 : x5_1 < (l1.length : Int)
            · rw [if_pos c6] at H
              have c6b0 : decide (x5_1 < (l1.length : Int)) = true := decide_eq_true c6
              clear c6
              by_cases c7 : (rd l0 x5_1) = (rd l1 x5_1)
              · rw [if_pos c7] at H
                have c7b0 : ((rd l0 x5_1) == (rd l1 x5_1)) = true := beq_iff_eq.mpr c7
                have c7b1 : ((rd l0 x5_1) != (rd l1 x5_1)) = false := bne_eq_false_iff_eq.mpr c7
                clear c7
                have H' := Aside0.mk H
                clear H
                have p109 : 0 ≤ (x5_1 : Int) := of_decide_eq_true (by first | (with_reducible assumption) | assumption)
                have q109 : x5_1 < (l0.length : Int) := of_decide_eq_true (by first | (with_reducible assumption) | assumption)
                obtain ⟨ad109, e109, hx109_0⟩ := Kd.at_int HR0.out x5_1 p109 q109
                cases e109
                replace p109 := eq_true p109
                replace q109 := eq_true q109
                have p110 : 0 ≤ (x5_1 : Int) := of_decide_eq_true (by first | (with_reducible assumption) | assumption)
                have q110 : x5_1 < (l1.length : Int) := of_decide_eq_true (by first | (with_reducible assumption) | assumption)
                obtain ⟨ad110, e110, hx110_0⟩ := Kd.at_int HR1.out x5_1 p110 q110
                cases e110
                replace p110 := eq_true p110
                replace q110 := eq_true q110
                go_wp2
                repeat (go_quiet (fail); try go_wp2)
                go_roundg k1
                case measure => have := HK1.out; omega
                case rel => exact ⟨(wrap64 (x5_1 + 1)), (by first | rfl | (simp; done) | (simp [*]; done)), H', ⟨by have := HK1.out; omega⟩, by repeat (first | exact Drawn0.refl _ | apply Drawn0.step)⟩
              · rw [if_neg c7] at H
                have c7b0 : ((rd l0 x5_1) == (rd l1 x5_1)) = false := beq_eq_false_iff_ne.mpr c7
                have c7b1 : ((rd l0 x5_1) != (rd l1 x5_1)) = true := bne_iff_ne.mpr c7
                obtain rfl := Option.some.inj H
                have p109 : 0 ≤ (x5_1 : Int) := of_decide_eq_true (by first | (with_reducible assumption) | assumption)
                have q109 : x5_1 < (l0.length : Int) := of_decide_eq_true (by first | (with_reducible assumption) | assumption)
                obtain ⟨ad109, e109, hx109_0⟩ := Kd.at_int HR0.out x5_1 p109 q109
                cases e109
                replace p109 := eq_true p109
                replace q109 := eq_true q109
                have p110 : 0 ≤ (x5_1 : Int) := of_decide_eq_true (by first | (with_reducible assumption) | assumption)
                have q110 : x5_1 < (l1.length : Int) := of_decide_eq_true (by first | (with_reducible assumption) | assumption)
                obtain ⟨ad110, e110, hx110_0⟩ := Kd.at_int HR1.out x5_1 p110 q110
                cases e110
                replace p110 := eq_true p110
                replace q110 := eq_true q110
                go_wp2
                repeat (go_quiet (fail); try go_wp2)
                go_ret
                exact ⟨by first | rfl | (simp; done) | (simp [*]; done), by repeat (first | exact Drawn0.refl _ | apply Drawn0.step)⟩
            · rw [if_neg c6] at H
              exact absurd H (by simp)
          · rw [if_neg c5] at H
            exact absurd H (by simp)
        · rw [if_neg c4] at H
          have c4b0 : decide (x5_1 < (l0.length : Int)) = false := decide_eq_false c4
          clear c4
          obtain rfl := Option.some.inj H
          go_wp2
          repeat (go_quiet (fail); try go_wp2)
          go_ret
          exact ⟨by first | rfl | (simp; done) | (simp [*]; done), by repeat (first | exact Drawn0.refl _ | apply Drawn0.step)⟩
  · rw [if_neg c3] at H
    have c3b0 : ((l0.length : Int) == (l1.length : Int)) = false := beq_eq_false_iff_ne.mpr c3
    have c3b1 : ((l0.length : Int) != (l1.length : Int)) = true := bne_iff_ne.mpr c3
    have c3b2 : (l0.length == l1.length) = false := by first | simpa using c3 | (simp at c3 ⊢; omega)
    obtain rfl := Option.some.inj H
    go_enter Try.func18, Try.ntmps18
    go_wp2
    repeat (go_quiet (fail); try go_wp2)
    go_ret
    exact ⟨by first | rfl | (simp; done) | (simp [*]; done), by repeat (first | exact Drawn0.refl _ | apply Drawn0.step)⟩

/-! ### complinelaw15_works: function 9, by hand -/
def complinelaw15_works.g (k : Nat)  : Option (Bool) := (policy_Wants.f true 4 100 50 2 0 0 0 0 3).bind fun bt112 => ((policy_Wants.f true 4 100 50 2 10 5 0 0 50).bind fun bt114 => ((policy_Wants.f true 4 100 50 2 10 4 0 0 50).bind fun bt116 => ((policy_Wants.f true 4 100 50 2 10 0 0 0 101).bind fun bt118 => ((policy_Run.f k true 4 100 50 2 0 (([(⟨0, 0, 0, 0, 50⟩ : S25), (⟨0, 0, 0, 0, 50⟩ : S25), (⟨0, 0, 0, 0, 3⟩ : S25), (⟨0, 0, 0, 0, 3⟩ : S25)] : List (S25)))).bind fun bt123 => ((complineref02_Same.f k bt123.1 (([0, 3, 3, 0] : List Int))).bind fun t130 => ((policy_Step.f k true 4 100 50 2 0 0 0 0 0 0 0 50).bind fun bt131 => (if bt112.1 = 0 then (if bt112.2 = 0 then (if bt114.1 = 3 then (if bt114.2 = 0 then (if bt116.1 = 1 then (if bt116.2 = 0 then (if bt118.1 = 2 then (if bt118.2 = 0 then (if t130 = true then (if bt123.2 = 0 then (if (bt131.1 == 3 && (bt131.2.1 == 1)) = true then (if bt131.2.2.1 = true then (some false) else (if bt131.2.2.2 = 0 then ((policy_Check.f true 4 100 50 2).bind fun t136 => (if t136 = 0 then ((policy_Check.f false 0 0 0 0).bind fun t137 => (some (t137 == 1))) else (some false))) else (some false))) else (some false)) else (some false)) else (some false)) else (some false)) else (some false)) else (some false)) else (some false)) else (some false)) else (some false)) else (some false)) else (some false))))))))
theorem complinelaw15_works.mono_g : ∀ k, LeO (complinelaw15_works.g k ) (complinelaw15_works.g (k + 1) ) := by
  intro  k
  unfold complinelaw15_works.g
  repeat' first
      | (with_reducible exact complineref02_Same.mono _ _ _)
      | (with_reducible exact policy_Run.mono _ _ _ _ _ _ _ _)
      | (with_reducible exact policy_Step.mono _ _ _ _ _ _ _ _ _ _ _ _ _ _)
      | (with_reducible exact LeO.refl _)
      | (with_reducible exact LeO.none _)
      | (with_reducible refine LeO.ite ?_ ?_)
      | (with_reducible refine LeO.bind ?_ (fun _ => ?_))
      | exact complineref02_Same.mono _ _ _
      | exact policy_Run.mono _ _ _ _ _ _ _ _
      | exact policy_Step.mono _ _ _ _ _ _ _ _ _ _ _ _ _ _
      | exact LeO.none _
      | refine LeO.ite ?_ ?_
      | refine LeO.bind ?_ (fun _ => ?_)
set_option maxHeartbeats 8000000 in
set_option maxRecDepth 100000 in
theorem complinelaw15_works.calls_g (k : Nat)  (w : World) (h : complinelaw15_works.g k  = some true) :
    Calls Try.prog 9 #[] w fun e w' => e = .returned (.bool true) ∧ Below w.heap.size w w' := by
  have hu23 := Try.underlying23
  have hu25 := Try.underlying25
  have hu33 := Try.underlying33
  have HB := Aside0.mk (Below.refl w.heap.size w)
  have H : ((policy_Wants.f true 4 100 50 2 0 0 0 0 3).bind fun bt112 => ((policy_Wants.f true 4 100 50 2 10 5 0 0 50).bind fun bt114 => ((policy_Wants.f true 4 100 50 2 10 4 0 0 50).bind fun bt116 => ((policy_Wants.f true 4 100 50 2 10 0 0 0 101).bind fun bt118 => ((policy_Run.f k true 4 100 50 2 0 (([(⟨0, 0, 0, 0, 50⟩ : S25), (⟨0, 0, 0, 0, 50⟩ : S25), (⟨0, 0, 0, 0, 3⟩ : S25), (⟨0, 0, 0, 0, 3⟩ : S25)] : List (S25)))).bind fun bt123 => ((complineref02_Same.f k bt123.1 (([0, 3, 3, 0] : List Int))).bind fun t130 => ((policy_Step.f k true 4 100 50 2 0 0 0 0 0 0 0 50).bind fun bt131 => (if bt112.1 = 0 then (if bt112.2 = 0 then (if bt114.1 = 3 then (if bt114.2 = 0 then (if bt116.1 = 1 then (if bt116.2 = 0 then (if bt118.1 = 2 then (if bt118.2 = 0 then (if t130 = true then (if bt123.2 = 0 then (if (bt131.1 == 3 && (bt131.2.1 == 1)) = true then (if bt131.2.2.1 = true then (some false) else (if bt131.2.2.2 = 0 then ((policy_Check.f true 4 100 50 2).bind fun t136 => (if t136 = 0 then ((policy_Check.f false 0 0 0 0).bind fun t137 => (some (t137 == 1))) else (some false))) else (some false))) else (some false)) else (some false)) else (some false)) else (some false)) else (some false)) else (some false)) else (some false)) else (some false)) else (some false)) else (some false)) else (some false))))))))) = some true := h
  clear h
  replace H := Option.bind_eq_some_iff.mp H
  obtain ⟨⟨t112, t113⟩, A10, H⟩ := H
  replace H : ((policy_Wants.f true 4 100 50 2 10 5 0 0 50).bind fun bt114 => ((policy_Wants.f true 4 100 50 2 10 4 0 0 50).bind fun bt116 => ((policy_Wants.f true 4 100 50 2 10 0 0 0 101).bind fun bt118 => ((policy_Run.f k true 4 100 50 2 0 (([(⟨0, 0, 0, 0, 50⟩ : S25), (⟨0, 0, 0, 0, 50⟩ : S25), (⟨0, 0, 0, 0, 3⟩ : S25), (⟨0, 0, 0, 0, 3⟩ : S25)] : List (S25)))).bind fun bt123 => ((complineref02_Same.f k bt123.1 (([0, 3, 3, 0] : List Int))).bind fun t130 => ((policy_Step.f k true 4 100 50 2 0 0 0 0 0 0 0 50).bind fun bt131 => (if t112 = 0 then (if t113 = 0 then (if bt114.1 = 3 then (if bt114.2 = 0 then (if bt116.1 = 1 then (if bt116.2 = 0 then (if bt118.1 = 2 then (if bt118.2 = 0 then (if t130 = true then (if bt123.2 = 0 then (if (bt131.1 == 3 && (bt131.2.1 == 1)) = true then (if bt131.2.2.1 = true then (some false) else (if bt131.2.2.2 = 0 then ((policy_Check.f true 4 100 50 2).bind fun t136 => (if t136 = 0 then ((policy_Check.f false 0 0 0 0).bind fun t137 => (some (t137 == 1))) else (some false))) else (some false))) else (some false)) else (some false)) else (some false)) else (some false)) else (some false)) else (some false)) else (some false)) else (some false)) else (some false)) else (some false)) else (some false)))))))) = some true := H
  have A1 := Aside0.mk A10
  clear A10
  replace H := Option.bind_eq_some_iff.mp H
  obtain ⟨⟨t114, t115⟩, A20, H⟩ := H
  replace H : ((policy_Wants.f true 4 100 50 2 10 4 0 0 50).bind fun bt116 => ((policy_Wants.f true 4 100 50 2 10 0 0 0 101).bind fun bt118 => ((policy_Run.f k true 4 100 50 2 0 (([(⟨0, 0, 0, 0, 50⟩ : S25), (⟨0, 0, 0, 0, 50⟩ : S25), (⟨0, 0, 0, 0, 3⟩ : S25), (⟨0, 0, 0, 0, 3⟩ : S25)] : List (S25)))).bind fun bt123 => ((complineref02_Same.f k bt123.1 (([0, 3, 3, 0] : List Int))).bind fun t130 => ((policy_Step.f k true 4 100 50 2 0 0 0 0 0 0 0 50).bind fun bt131 => (if t112 = 0 then (if t113 = 0 then (if t114 = 3 then (if t115 = 0 then (if bt116.1 = 1 then (if bt116.2 = 0 then (if bt118.1 = 2 then (if bt118.2 = 0 then (if t130 = true then (if bt123.2 = 0 then (if (bt131.1 == 3 && (bt131.2.1 == 1)) = true then (if bt131.2.2.1 = true then (some false) else (if bt131.2.2.2 = 0 then ((policy_Check.f true 4 100 50 2).bind fun t136 => (if t136 = 0 then ((policy_Check.f false 0 0 0 0).bind fun t137 => (some (t137 == 1))) else (some false))) else (some false))) else (some false)) else (some false)) else (some false)) else (some false)) else (some false)) else (some false)) else (some false)) else (some false)) else (some false)) else (some false)) else (some false))))))) = some true := H
  have A2 := Aside0.mk A20
  clear A20
  replace H := Option.bind_eq_some_iff.mp H
  obtain ⟨⟨t116, t117⟩, A30, H⟩ := H
  replace H : ((policy_Wants.f true 4 100 50 2 10 0 0 0 101).bind fun bt118 => ((policy_Run.f k true 4 100 50 2 0 (([(⟨0, 0, 0, 0, 50⟩ : S25), (⟨0, 0, 0, 0, 50⟩ : S25), (⟨0, 0, 0, 0, 3⟩ : S25), (⟨0, 0, 0, 0, 3⟩ : S25)] : List (S25)))).bind fun bt123 => ((complineref02_Same.f k bt123.1 (([0, 3, 3, 0] : List Int))).bind fun t130 => ((policy_Step.f k true 4 100 50 2 0 0 0 0 0 0 0 50).bind fun bt131 => (if t112 = 0 then (if t113 = 0 then (if t114 = 3 then (if t115 = 0 then (if t116 = 1 then (if t117 = 0 then (if bt118.1 = 2 then (if bt118.2 = 0 then (if t130 = true then (if bt123.2 = 0 then (if (bt131.1 == 3 && (bt131.2.1 == 1)) = true then (if bt131.2.2.1 = true then (some false) else (if bt131.2.2.2 = 0 then ((policy_Check.f true 4 100 50 2).bind fun t136 => (if t136 = 0 then ((policy_Check.f false 0 0 0 0).bind fun t137 => (some (t137 == 1))) else (some false))) else (some false))) else (some false)) else (some false)) else (some false)) else (some false)) else (some false)) else (some false)) else (some false)) else (some false)) else (some false)) else (some false)) else (some false)))))) = some true := H
  have A3 := Aside0.mk A30
  clear A30
  replace H := Option.bind_eq_some_iff.mp H
  obtain ⟨⟨t118, t119⟩, A40, H⟩ := H
  replace H : ((policy_Run.f k true 4 100 50 2 0 (([(⟨0, 0, 0, 0, 50⟩ : S25), (⟨0, 0, 0, 0, 50⟩ : S25), (⟨0, 0, 0, 0, 3⟩ : S25), (⟨0, 0, 0, 0, 3⟩ : S25)] : List (S25)))).bind fun bt123 => ((complineref02_Same.f k bt123.1 (([0, 3, 3, 0] : List Int))).bind fun t130 => ((policy_Step.f k true 4 100 50 2 0 0 0 0 0 0 0 50).bind fun bt131 => (if t112 = 0 then (if t113 = 0 then (if t114 = 3 then (if t115 = 0 then (if t116 = 1 then (if t117 = 0 then (if t118 = 2 then (if t119 = 0 then (if t130 = true then (if bt123.2 = 0 then (if (bt131.1 == 3 && (bt131.2.1 == 1)) = true then (if bt131.2.2.1 = true then (some false) else (if bt131.2.2.2 = 0 then ((policy_Check.f true 4 100 50 2).bind fun t136 => (if t136 = 0 then ((policy_Check.f false 0 0 0 0).bind fun t137 => (some (t137 == 1))) else (some false))) else (some false))) else (some false)) else (some false)) else (some false)) else (some false)) else (some false)) else (some false)) else (some false)) else (some false)) else (some false)) else (some false)) else (some false))))) = some true := H
  have A4 := Aside0.mk A40
  clear A40
  obtain ⟨y120, hy120⟩ : ∃ y_ : List (S25), y_ = (([(⟨0, 0, 0, 0, 50⟩ : S25), (⟨0, 0, 0, 0, 50⟩ : S25), (⟨0, 0, 0, 0, 3⟩ : S25), (⟨0, 0, 0, 0, 3⟩ : S25)] : List (S25))) := ⟨_, rfl⟩
  replace H : ((policy_Run.f k true 4 100 50 2 0 y120).bind fun bt123 => ((complineref02_Same.f k bt123.1 (([0, 3, 3, 0] : List Int))).bind fun t130 => ((policy_Step.f k true 4 100 50 2 0 0 0 0 0 0 0 50).bind fun bt131 => (if t112 = 0 then (if t113 = 0 then (if t114 = 3 then (if t115 = 0 then (if t116 = 1 then (if t117 = 0 then (if t118 = 2 then (if t119 = 0 then (if t130 = true then (if bt123.2 = 0 then (if (bt131.1 == 3 && (bt131.2.1 == 1)) = true then (if bt131.2.2.1 = true then (some false) else (if bt131.2.2.2 = 0 then ((policy_Check.f true 4 100 50 2).bind fun t136 => (if t136 = 0 then ((policy_Check.f false 0 0 0 0).bind fun t137 => (some (t137 == 1))) else (some false))) else (some false))) else (some false)) else (some false)) else (some false)) else (some false)) else (some false)) else (some false)) else (some false)) else (some false)) else (some false)) else (some false)) else (some false))))) = some true := by first | (rw [hy120]; with_reducible exact H) | (have H2_ := (Option.bind_some _ _).symm.trans H; rw [hy120]; with_reducible exact H2_) | (have H2_ := (Option.bind_some _ _).symm.trans H; with_reducible exact H2_) | with_reducible exact H | (rw [hy120]; exact H) | exact H
  have Ny120 := Aside0.mk hy120
  clear hy120
  replace H := Option.bind_eq_some_iff.mp H
  obtain ⟨⟨t123, t126⟩, A50, H⟩ := H
  replace H : ((complineref02_Same.f k t123 (([0, 3, 3, 0] : List Int))).bind fun t130 => ((policy_Step.f k true 4 100 50 2 0 0 0 0 0 0 0 50).bind fun bt131 => (if t112 = 0 then (if t113 = 0 then (if t114 = 3 then (if t115 = 0 then (if t116 = 1 then (if t117 = 0 then (if t118 = 2 then (if t119 = 0 then (if t130 = true then (if t126 = 0 then (if (bt131.1 == 3 && (bt131.2.1 == 1)) = true then (if bt131.2.2.1 = true then (some false) else (if bt131.2.2.2 = 0 then ((policy_Check.f true 4 100 50 2).bind fun t136 => (if t136 = 0 then ((policy_Check.f false 0 0 0 0).bind fun t137 => (some (t137 == 1))) else (some false))) else (some false))) else (some false)) else (some false)) else (some false)) else (some false)) else (some false)) else (some false)) else (some false)) else (some false)) else (some false)) else (some false)) else (some false)))) = some true := H
  have A5 := Aside0.mk A50
  clear A50
  obtain ⟨y127, hy127⟩ : ∃ y_ : List Int, y_ = (([0, 3, 3, 0] : List Int)) := ⟨_, rfl⟩
  replace H : ((complineref02_Same.f k t123 y127).bind fun t130 => ((policy_Step.f k true 4 100 50 2 0 0 0 0 0 0 0 50).bind fun bt131 => (if t112 = 0 then (if t113 = 0 then (if t114 = 3 then (if t115 = 0 then (if t116 = 1 then (if t117 = 0 then (if t118 = 2 then (if t119 = 0 then (if t130 = true then (if t126 = 0 then (if (bt131.1 == 3 && (bt131.2.1 == 1)) = true then (if bt131.2.2.1 = true then (some false) else (if bt131.2.2.2 = 0 then ((policy_Check.f true 4 100 50 2).bind fun t136 => (if t136 = 0 then ((policy_Check.f false 0 0 0 0).bind fun t137 => (some (t137 == 1))) else (some false))) else (some false))) else (some false)) else (some false)) else (some false)) else (some false)) else (some false)) else (some false)) else (some false)) else (some false)) else (some false)) else (some false)) else (some false)))) = some true := by first | (rw [hy127]; with_reducible exact H) | (have H2_ := (Option.bind_some _ _).symm.trans H; rw [hy127]; with_reducible exact H2_) | (have H2_ := (Option.bind_some _ _).symm.trans H; with_reducible exact H2_) | with_reducible exact H | (rw [hy127]; exact H) | exact H
  have Ny127 := Aside0.mk hy127
  clear hy127
  replace H := Option.bind_eq_some_iff.mp H
  obtain ⟨t130, A60, H⟩ := H
  replace H : ((policy_Step.f k true 4 100 50 2 0 0 0 0 0 0 0 50).bind fun bt131 => (if t112 = 0 then (if t113 = 0 then (if t114 = 3 then (if t115 = 0 then (if t116 = 1 then (if t117 = 0 then (if t118 = 2 then (if t119 = 0 then (if t130 = true then (if t126 = 0 then (if (bt131.1 == 3 && (bt131.2.1 == 1)) = true then (if bt131.2.2.1 = true then (some false) else (if bt131.2.2.2 = 0 then ((policy_Check.f true 4 100 50 2).bind fun t136 => (if t136 = 0 then ((policy_Check.f false 0 0 0 0).bind fun t137 => (some (t137 == 1))) else (some false))) else (some false))) else (some false)) else (some false)) else (some false)) else (some false)) else (some false)) else (some false)) else (some false)) else (some false)) else (some false)) else (some false)) else (some false))) = some true := H
  have A6 := Aside0.mk A60
  clear A60
  replace H := Option.bind_eq_some_iff.mp H
  obtain ⟨⟨t131, t132, t133, t134⟩, A70, H⟩ := H
  replace H : (if t112 = 0 then (if t113 = 0 then (if t114 = 3 then (if t115 = 0 then (if t116 = 1 then (if t117 = 0 then (if t118 = 2 then (if t119 = 0 then (if t130 = true then (if t126 = 0 then (if (t131 == 3 && (t132 == 1)) = true then (if t133 = true then (some false) else (if t134 = 0 then ((policy_Check.f true 4 100 50 2).bind fun t136 => (if t136 = 0 then ((policy_Check.f false 0 0 0 0).bind fun t137 => (some (t137 == 1))) else (some false))) else (some false))) else (some false)) else (some false)) else (some false)) else (some false)) else (some false)) else (some false)) else (some false)) else (some false)) else (some false)) else (some false)) else (some false)) = some true := H
  have A7 := Aside0.mk A70
  clear A70
  by_cases c8 : t112 = 0
  · rw [if_pos c8] at H
    subst c8
    by_cases c9 : t113 = 0
    · rw [if_pos c9] at H
      subst c9
      by_cases c10 : t114 = 3
      · rw [if_pos c10] at H
        subst c10
        by_cases c11 : t115 = 0
        · rw [if_pos c11] at H
          subst c11
          by_cases c12 : t116 = 1
          · rw [if_pos c12] at H
            subst c12
            by_cases c13 : t117 = 0
            · rw [if_pos c13] at H
              subst c13
              by_cases c14 : t118 = 2
              · rw [if_pos c14] at H
                subst c14
                by_cases c15 : t119 = 0
                · rw [if_pos c15] at H
                  subst c15
                  by_cases c16 : t130 = true
                  · subst c16
                    have H1 : (if t126 = 0 then (if (t131 == 3 && (t132 == 1)) = true then (if t133 = true then (some false) else (if t134 = 0 then ((policy_Check.f true 4 100 50 2).bind fun t136 => (if t136 = 0 then ((policy_Check.f false 0 0 0 0).bind fun t137 => (some (t137 == 1))) else (some false))) else (some false))) else (some false)) else (some false)) = some true := by rw [if_pos rfl] at H; exact H
                    clear H
                    have H := H1
                    clear H1
                    by_cases c17 : t126 = 0
                    · rw [if_pos c17] at H
                      subst c17
                      by_cases c18 : (t131 == 3 && (t132 == 1)) = true
                      · rw [if_pos c18] at H
                        have q_ : t131 = 3 ∧ t132 = 1 := by simpa using c18
                        clear c18
                        obtain ⟨rfl, rfl⟩ := q_
                        by_cases c19 : t133 = true
                        · subst c19
                          have H1 : (some false) = some true := by rw [if_pos rfl] at H; exact H
                          clear H
                          have H := H1
                          clear H1
                          exact absurd (Option.some.inj H) (by decide)
                        · replace c19 := Bool.eq_false_iff.mpr c19
                          subst c19
                          have H1 : (if t134 = 0 then ((policy_Check.f true 4 100 50 2).bind fun t136 => (if t136 = 0 then ((policy_Check.f false 0 0 0 0).bind fun t137 => (some (t137 == 1))) else (some false))) else (some false)) = some true := by rw [if_neg (show ¬ (false = true) by decide)] at H; exact H
                          clear H
                          have H := H1
                          clear H1
                          by_cases c43 : t134 = 0
                          · rw [if_pos c43] at H
                            subst c43
                            replace H := Option.bind_eq_some_iff.mp H
                            obtain ⟨t136, A440, H⟩ := H
                            replace H : (if t136 = 0 then ((policy_Check.f false 0 0 0 0).bind fun t137 => (some (t137 == 1))) else (some false)) = some true := H
                            have A44 := Aside0.mk A440
                            clear A440
                            by_cases c45 : t136 = 0
                            · rw [if_pos c45] at H
                              subst c45
                              replace H := Option.bind_eq_some_iff.mp H
                              obtain ⟨t137, A460, H⟩ := H
                              replace H : (some (t137 == 1)) = some true := H
                              have A46 := Aside0.mk A460
                              clear A460
                              have c99b0 := Option.some.inj H
                              go_enter Try.func9, Try.ntmps9
                              go_wp2_with (first | ((with_reducible refine gate_dst (N := 1) rfl ?_); refine box_event ?hg (N := 1) ?hd (cs := #[.bool false, .int .i64 0, .int .i64 0, .int .i64 0, .int .i64 0]) (t := 23) ?hr ?_; (case hd => rfl); (case hg => rfl); (case hr => first | (go_simp; done) | (go_simp; rfl)); intro gb111 hg w47 hbox hb; have n0_ := Aside0.mk (below_step (by repeat (first | (with_reducible first | exact HB.out | apply below_alloc | apply pw_below_drewN | apply below_drew1) | exact HB.out)) hb); have n1_ := Aside0.mk (hbox); have n2_ := Aside0.mk ((by rw [hg]; exact (below_size (by repeat (first | (with_reducible first | exact HB.out | apply below_alloc | apply pw_below_drewN | apply below_drew1) | exact HB.out))) : w.heap.size ≤ gb111)); have n3_ := Aside0.mk ((by rw [hg]; exact (below_size (by repeat (first | (with_reducible first | exact HB.out | apply below_alloc | apply pw_below_drewN | apply below_drew1) | exact HB.out))) : w.heap.size ≤ gb111)); clear HB; have HB := n0_; have BK111 := n1_; have GW111 := n2_; have GE111 := n3_; clear n0_ n1_ n2_ n3_; clear hb hbox hg; have hcz48_0 : w47.cell? ⟨gb111, 0, none⟩ = some (.bool false) := (blk_cell BK111.out 0).trans rfl; have hcz48_1 : w47.cell? ⟨gb111, 1, none⟩ = some (.int .i64 0) := (blk_cell BK111.out 1).trans rfl; have hcz48_2 : w47.cell? ⟨gb111, 2, none⟩ = some (.int .i64 0) := (blk_cell BK111.out 2).trans rfl; have hcz48_3 : w47.cell? ⟨gb111, 3, none⟩ = some (.int .i64 0) := (blk_cell BK111.out 3).trans rfl; have hcz48_4 : w47.cell? ⟨gb111, 4, none⟩ = some (.int .i64 0) := (blk_cell BK111.out 4).trans rfl; have hfz48_0 := blk_frozen BK111.out 0; have hfz48_1 := blk_frozen BK111.out 1; have hfz48_2 := blk_frozen BK111.out 2; have hfz48_3 := blk_frozen BK111.out 3; have hfz48_4 := blk_frozen BK111.out 4) | ((with_reducible refine gate_callee (f := 10) rfl ?_); refine goesL_ (some 20) rfl rfl Try.func10 (by kernel_rfl) rfl #[.agg #[.bool true, .int .i64 4, .int .i64 100, .int .i64 50, .int .i64 2], .agg #[.int .i64 0, .int .i64 0, .int .i64 0, .int .i64 0, .int .i64 3]] rfl (by (try simp only [List.map_toArray, List.map_cons, List.map_nil]); first | done | rfl | (simp only [List.length_drop, List.length_take]; rfl)) ?_; (with_reducible refine (policy_Wants.calls true 4 100 50 2 0 0 0 0 3 0 0 _ A1.out).mono ?_); rintro e w49 ⟨rfl, hb⟩; refine ⟨_, rfl, ?_⟩; have n0_ := Aside0.mk (blk_below (g := gb111) (o := .cells #[.bool true, .int .i64 4, .int .i64 100, .int .i64 50, .int .i64 2] 23 (0, 0)) (by (with_reducible repeat (first | refine blk_drewN ?_ _ | refine blk_drew ?_ | refine blk_alloc ?_ _)); refine blk_put (cs := #[.bool true, .int .i64 4, .int .i64 100, .int .i64 50, .int .i64 0]) ?_ 4 _ rfl; (with_reducible repeat (first | refine blk_drewN ?_ _ | refine blk_drew ?_ | refine blk_alloc ?_ _)); refine blk_put (cs := #[.bool true, .int .i64 4, .int .i64 100, .int .i64 0, .int .i64 0]) ?_ 3 _ rfl; (with_reducible repeat (first | refine blk_drewN ?_ _ | refine blk_drew ?_ | refine blk_alloc ?_ _)); refine blk_put (cs := #[.bool true, .int .i64 4, .int .i64 0, .int .i64 0, .int .i64 0]) ?_ 2 _ rfl; (with_reducible repeat (first | refine blk_drewN ?_ _ | refine blk_drew ?_ | refine blk_alloc ?_ _)); refine blk_put (cs := #[.bool true, .int .i64 0, .int .i64 0, .int .i64 0, .int .i64 0]) ?_ 1 _ rfl; (with_reducible repeat (first | refine blk_drewN ?_ _ | refine blk_drew ?_ | refine blk_alloc ?_ _)); refine blk_put (cs := #[.bool false, .int .i64 0, .int .i64 0, .int .i64 0, .int .i64 0]) ?_ 0 _ rfl; (with_reducible repeat (first | refine blk_drewN ?_ _ | refine blk_drew ?_ | refine blk_alloc ?_ _)); exact BK111.out) hb); have n1_ := Aside0.mk (below_step (by repeat (first | (with_reducible first | exact HB.out | apply below_alloc | apply pw_below_drewN | apply below_drew1 | refine below_set ?_ GE111.out) | exact HB.out)) hb); clear BK111; clear HB; have BK111 := n0_; have HB := n1_; clear n0_ n1_; (try clear hb); (try clear hb2); (try clear hk); (try clear hi); have hcz50_0 : w49.cell? ⟨gb111, 0, none⟩ = some (.bool true) := (blk_cell BK111.out 0).trans rfl; have hcz50_1 : w49.cell? ⟨gb111, 1, none⟩ = some (.int .i64 4) := (blk_cell BK111.out 1).trans rfl; have hcz50_2 : w49.cell? ⟨gb111, 2, none⟩ = some (.int .i64 100) := (blk_cell BK111.out 2).trans rfl; have hcz50_3 : w49.cell? ⟨gb111, 3, none⟩ = some (.int .i64 50) := (blk_cell BK111.out 3).trans rfl; have hcz50_4 : w49.cell? ⟨gb111, 4, none⟩ = some (.int .i64 2) := (blk_cell BK111.out 4).trans rfl; have hfz50_0 := blk_frozen BK111.out 0; have hfz50_1 := blk_frozen BK111.out 1; have hfz50_2 := blk_frozen BK111.out 2; have hfz50_3 := blk_frozen BK111.out 3; have hfz50_4 := blk_frozen BK111.out 4) | ((with_reducible refine gate_callee (f := 10) rfl ?_); refine goesL_ (some 26) rfl rfl Try.func10 (by kernel_rfl) rfl #[.agg #[.bool true, .int .i64 4, .int .i64 100, .int .i64 50, .int .i64 2], .agg #[.int .i64 10, .int .i64 5, .int .i64 0, .int .i64 0, .int .i64 50]] rfl (by (try simp only [List.map_toArray, List.map_cons, List.map_nil]); first | done | rfl | (simp only [List.length_drop, List.length_take]; rfl)) ?_; (with_reducible refine (policy_Wants.calls true 4 100 50 2 10 5 0 0 50 3 0 _ A2.out).mono ?_); rintro e w51 ⟨rfl, hb⟩; refine ⟨_, rfl, ?_⟩; have n0_ := Aside0.mk (blk_below (g := gb111) (o := .cells #[.bool true, .int .i64 4, .int .i64 100, .int .i64 50, .int .i64 2] 23 (0, 0)) (by (with_reducible repeat (first | refine blk_drewN ?_ _ | refine blk_drew ?_ | refine blk_alloc ?_ _)); exact BK111.out) hb); have n1_ := Aside0.mk (below_step (by repeat (first | (with_reducible first | exact HB.out | apply below_alloc | apply pw_below_drewN | apply below_drew1 | refine below_set ?_ GE111.out) | exact HB.out)) hb); clear BK111; clear HB; have BK111 := n0_; have HB := n1_; clear n0_ n1_; (try clear hb); (try clear hb2); (try clear hk); (try clear hi); have hcz52_0 : w51.cell? ⟨gb111, 0, none⟩ = some (.bool true) := (blk_cell BK111.out 0).trans rfl; have hcz52_1 : w51.cell? ⟨gb111, 1, none⟩ = some (.int .i64 4) := (blk_cell BK111.out 1).trans rfl; have hcz52_2 : w51.cell? ⟨gb111, 2, none⟩ = some (.int .i64 100) := (blk_cell BK111.out 2).trans rfl; have hcz52_3 : w51.cell? ⟨gb111, 3, none⟩ = some (.int .i64 50) := (blk_cell BK111.out 3).trans rfl; have hcz52_4 : w51.cell? ⟨gb111, 4, none⟩ = some (.int .i64 2) := (blk_cell BK111.out 4).trans rfl; have hfz52_0 := blk_frozen BK111.out 0; have hfz52_1 := blk_frozen BK111.out 1; have hfz52_2 := blk_frozen BK111.out 2; have hfz52_3 := blk_frozen BK111.out 3; have hfz52_4 := blk_frozen BK111.out 4) | ((with_reducible refine gate_callee (f := 10) rfl ?_); refine goesL_ (some 32) rfl rfl Try.func10 (by kernel_rfl) rfl #[.agg #[.bool true, .int .i64 4, .int .i64 100, .int .i64 50, .int .i64 2], .agg #[.int .i64 10, .int .i64 4, .int .i64 0, .int .i64 0, .int .i64 50]] rfl (by (try simp only [List.map_toArray, List.map_cons, List.map_nil]); first | done | rfl | (simp only [List.length_drop, List.length_take]; rfl)) ?_; (with_reducible refine (policy_Wants.calls true 4 100 50 2 10 4 0 0 50 1 0 _ A3.out).mono ?_); rintro e w53 ⟨rfl, hb⟩; refine ⟨_, rfl, ?_⟩; have n0_ := Aside0.mk (blk_below (g := gb111) (o := .cells #[.bool true, .int .i64 4, .int .i64 100, .int .i64 50, .int .i64 2] 23 (0, 0)) (by (with_reducible repeat (first | refine blk_drewN ?_ _ | refine blk_drew ?_ | refine blk_alloc ?_ _)); exact BK111.out) hb); have n1_ := Aside0.mk (below_step (by repeat (first | (with_reducible first | exact HB.out | apply below_alloc | apply pw_below_drewN | apply below_drew1 | refine below_set ?_ GE111.out) | exact HB.out)) hb); clear BK111; clear HB; have BK111 := n0_; have HB := n1_; clear n0_ n1_; (try clear hb); (try clear hb2); (try clear hk); (try clear hi); have hcz54_0 : w53.cell? ⟨gb111, 0, none⟩ = some (.bool true) := (blk_cell BK111.out 0).trans rfl; have hcz54_1 : w53.cell? ⟨gb111, 1, none⟩ = some (.int .i64 4) := (blk_cell BK111.out 1).trans rfl; have hcz54_2 : w53.cell? ⟨gb111, 2, none⟩ = some (.int .i64 100) := (blk_cell BK111.out 2).trans rfl; have hcz54_3 : w53.cell? ⟨gb111, 3, none⟩ = some (.int .i64 50) := (blk_cell BK111.out 3).trans rfl; have hcz54_4 : w53.cell? ⟨gb111, 4, none⟩ = some (.int .i64 2) := (blk_cell BK111.out 4).trans rfl; have hfz54_0 := blk_frozen BK111.out 0; have hfz54_1 := blk_frozen BK111.out 1; have hfz54_2 := blk_frozen BK111.out 2; have hfz54_3 := blk_frozen BK111.out 3; have hfz54_4 := blk_frozen BK111.out 4) | ((with_reducible refine gate_callee (f := 10) rfl ?_); refine goesL_ (some 38) rfl rfl Try.func10 (by kernel_rfl) rfl #[.agg #[.bool true, .int .i64 4, .int .i64 100, .int .i64 50, .int .i64 2], .agg #[.int .i64 10, .int .i64 0, .int .i64 0, .int .i64 0, .int .i64 101]] rfl (by (try simp only [List.map_toArray, List.map_cons, List.map_nil]); first | done | rfl | (simp only [List.length_drop, List.length_take]; rfl)) ?_; (with_reducible refine (policy_Wants.calls true 4 100 50 2 10 0 0 0 101 2 0 _ A4.out).mono ?_); rintro e w55 ⟨rfl, hb⟩; refine ⟨_, rfl, ?_⟩; have n0_ := Aside0.mk (blk_below (g := gb111) (o := .cells #[.bool true, .int .i64 4, .int .i64 100, .int .i64 50, .int .i64 2] 23 (0, 0)) (by (with_reducible repeat (first | refine blk_drewN ?_ _ | refine blk_drew ?_ | refine blk_alloc ?_ _)); exact BK111.out) hb); have n1_ := Aside0.mk (below_step (by repeat (first | (with_reducible first | exact HB.out | apply below_alloc | apply pw_below_drewN | apply below_drew1 | refine below_set ?_ GE111.out) | exact HB.out)) hb); clear BK111; clear HB; have BK111 := n0_; have HB := n1_; clear n0_ n1_; (try clear hb); (try clear hb2); (try clear hk); (try clear hi); have hcz56_0 : w55.cell? ⟨gb111, 0, none⟩ = some (.bool true) := (blk_cell BK111.out 0).trans rfl; have hcz56_1 : w55.cell? ⟨gb111, 1, none⟩ = some (.int .i64 4) := (blk_cell BK111.out 1).trans rfl; have hcz56_2 : w55.cell? ⟨gb111, 2, none⟩ = some (.int .i64 100) := (blk_cell BK111.out 2).trans rfl; have hcz56_3 : w55.cell? ⟨gb111, 3, none⟩ = some (.int .i64 50) := (blk_cell BK111.out 3).trans rfl; have hcz56_4 : w55.cell? ⟨gb111, 4, none⟩ = some (.int .i64 2) := (blk_cell BK111.out 4).trans rfl; have hfz56_0 := blk_frozen BK111.out 0; have hfz56_1 := blk_frozen BK111.out 1; have hfz56_2 := blk_frozen BK111.out 2; have hfz56_3 := blk_frozen BK111.out 3; have hfz56_4 := blk_frozen BK111.out 4) | ((with_reducible refine gate_dst (N := 47) rfl ?_); refine Kd.R_lit k25 _ 25 ?hg (N := 47) ?hd (xs := ([(⟨0, 0, 0, 0, 50⟩ : S25), (⟨0, 0, 0, 0, 50⟩ : S25), (⟨0, 0, 0, 0, 3⟩ : S25), (⟨0, 0, 0, 0, 3⟩ : S25)] : List (S25))) (inner := [.int .i64 0, .int .i64 0, .int .i64 0, .int .i64 0, .int .i64 50, .int .i64 0, .int .i64 0, .int .i64 0, .int .i64 0, .int .i64 50, .int .i64 0, .int .i64 0, .int .i64 0, .int .i64 0, .int .i64 3, .int .i64 0, .int .i64 0, .int .i64 0, .int .i64 0, .int .i64 3]) (ok := fun _ => True) (okp := fun _ => True) ?hr ?hp (fun _ hk => hk) trivial (Below.refl _ _) (Nat.le_refl _) (by simp) ?_; (case hd => rfl); (case hg => rfl); (case hr => first | (go_simp; done) | (go_simp; rfl)); (case hp => exact (Reps.c5 (show Kd.M k25 _ _ _ (⟨0, 0, 0, 0, 50⟩ : S25) [.int .i64 0, .int .i64 0, .int .i64 0, .int .i64 0, .int .i64 50] from (k25_mkM _ _ _ (⟨0, 0, 0, 0, 50⟩ : S25) )) (Reps.c5 (show Kd.M k25 _ _ _ (⟨0, 0, 0, 0, 50⟩ : S25) [.int .i64 0, .int .i64 0, .int .i64 0, .int .i64 0, .int .i64 50] from (k25_mkM _ _ _ (⟨0, 0, 0, 0, 50⟩ : S25) )) (Reps.c5 (show Kd.M k25 _ _ _ (⟨0, 0, 0, 0, 3⟩ : S25) [.int .i64 0, .int .i64 0, .int .i64 0, .int .i64 0, .int .i64 3] from (k25_mkM _ _ _ (⟨0, 0, 0, 0, 3⟩ : S25) )) (Reps.c5 (show Kd.M k25 _ _ _ (⟨0, 0, 0, 0, 3⟩ : S25) [.int .i64 0, .int .i64 0, .int .i64 0, .int .i64 0, .int .i64 3] from (k25_mkM _ _ _ (⟨0, 0, 0, 0, 3⟩ : S25) )) (Reps.none _ _)))))); intro v121 w57 ho58 hb hg_ hnew_; clear hg_ hnew_; (first | rw [← Ny120.out] at ho58 | (simp only [Int.reduceToNat] at ho58; rw [← Ny120.out] at ho58)); have n0_ := Aside0.mk (Kd.R_lower ho58 (below_size (by repeat (first | (with_reducible first | exact HB.out | apply below_alloc | apply pw_below_drewN | apply below_drew1 | refine below_set ?_ GE111.out) | exact HB.out)))); have n1_ := Aside0.mk (blk_below (g := gb111) (o := .cells #[.bool true, .int .i64 4, .int .i64 100, .int .i64 50, .int .i64 2] 23 (0, 0)) (by (with_reducible repeat (first | refine blk_drewN ?_ _ | refine blk_drew ?_ | refine blk_alloc ?_ _)); exact BK111.out) hb); have n2_ := Aside0.mk (below_step (by repeat (first | (with_reducible first | exact HB.out | apply below_alloc | apply pw_below_drewN | apply below_drew1 | refine below_set ?_ GE111.out) | exact HB.out)) hb); clear BK111; clear HB; have HO122 := n0_; have BK111 := n1_; have HB := n2_; clear n0_ n1_ n2_; clear hb ho58; obtain ⟨Ao59, co59, eo59⟩ := Kd.R_slice HO122.out; subst eo59) | ((with_reducible refine gate_callee (f := 16) rfl ?_); refine goesL_ (some 48) rfl rfl Try.func16 (by kernel_rfl) rfl #[.agg #[.bool true, .int .i64 4, .int .i64 100, .int .i64 50, .int .i64 2], .int .i64 0, .slice Ao59 y120.length co59] rfl (by (try simp only [List.map_toArray, List.map_cons, List.map_nil]); first | done | rfl | (simp only [List.length_drop, List.length_take]; rfl)) ?_; (with_reducible refine (policy_Run.calls k true 4 100 50 2 0 _ _ y120 t123 0 _ ?side1 ?side2 A5.out).mono ?_); (case side1 => repeat (first | exact (Kd.R_reads' HO122.out).2.2 | (with_reducible refine Kd.C_alloc ?_ _) | (with_reducible refine Kd.C_drewN ?_ _) | (with_reducible refine Kd.C_drew ?_))); (case side2 => exact (Kd.R_reads' HO122.out).2.1); rintro e w60 ⟨v124, rfl, ho0, hb⟩; refine ⟨_, rfl, ?_⟩; have n0_ := Aside0.mk (Kd.R_below (by (with_reducible repeat (first | apply Kd.R_alloc | apply Kd.R_drewN | apply Kd.R_drew)); exact HO122.out) hb); have n1_ := Aside0.mk (Kd.R_lower ho0 (below_size (by repeat (first | (with_reducible first | exact HB.out | apply below_alloc | apply pw_below_drewN | apply below_drew1 | refine below_set ?_ GE111.out) | exact HB.out)))); have n2_ := Aside0.mk (blk_below (g := gb111) (o := .cells #[.bool true, .int .i64 4, .int .i64 100, .int .i64 50, .int .i64 2] 23 (0, 0)) (by (with_reducible repeat (first | refine blk_drewN ?_ _ | refine blk_drew ?_ | refine blk_alloc ?_ _)); exact BK111.out) hb); have n3_ := Aside0.mk (below_step (by repeat (first | (with_reducible first | exact HB.out | apply below_alloc | apply pw_below_drewN | apply below_drew1 | refine below_set ?_ GE111.out) | exact HB.out)) hb); clear HO122; clear BK111; clear HB; have HO122 := n0_; have HO125 := n1_; have BK111 := n2_; have HB := n3_; clear n0_ n1_ n2_ n3_; (try clear hb); (try clear hb2); (try clear hk); (try clear hi); (try clear ho0)) | ((with_reducible refine gate_dst (N := 52) rfl ?_); refine Kd.R_lit (Kd.int .i64) _ 3 ?hg (N := 52) ?hd (xs := ([0, 3, 3, 0] : List Int)) (inner := [.int .i64 0, .int .i64 3, .int .i64 3, .int .i64 0]) (ok := fun _ => True) (okp := fun _ => True) ?hr ?hp (fun _ hk => hk) trivial (Below.refl _ _) (Nat.le_refl _) (by simp) ?_; (case hd => rfl); (case hg => rfl); (case hr => first | (go_simp; done) | (go_simp; rfl)); (case hp => exact (Reps.one (show Kd.M (Kd.int .i64) _ _ _ 0 [.int .i64 0] from rfl) (Reps.one (show Kd.M (Kd.int .i64) _ _ _ 3 [.int .i64 3] from rfl) (Reps.one (show Kd.M (Kd.int .i64) _ _ _ 3 [.int .i64 3] from rfl) (Reps.one (show Kd.M (Kd.int .i64) _ _ _ 0 [.int .i64 0] from rfl) (Reps.none _ _)))))); intro v128 w61 ho62 hb hg_ hnew_; clear hg_ hnew_; (first | rw [← Ny127.out] at ho62 | (simp only [Int.reduceToNat] at ho62; rw [← Ny127.out] at ho62)); have n0_ := Aside0.mk (Kd.R_below (by (with_reducible repeat (first | apply Kd.R_alloc | apply Kd.R_drewN | apply Kd.R_drew)); exact HO122.out) hb); have n1_ := Aside0.mk (Kd.R_elder' (by (with_reducible repeat (first | apply Kd.R_alloc | apply Kd.R_drewN | apply Kd.R_drew)); exact HO125.out) (Kd.R_base ho62) hb); have n2_ := Aside0.mk (Kd.R_lower (Kd.R_new' ho62 (Kd.R_lt (by (with_reducible repeat (first | apply Kd.R_alloc | apply Kd.R_drewN | apply Kd.R_drew)); exact HO125.out))) (below_size (by repeat (first | (with_reducible first | exact HB.out | apply below_alloc | apply pw_below_drewN | apply below_drew1 | refine below_set ?_ GE111.out) | exact HB.out)))); have n3_ := Aside0.mk (blk_below (g := gb111) (o := .cells #[.bool true, .int .i64 4, .int .i64 100, .int .i64 50, .int .i64 2] 23 (0, 0)) (by (with_reducible repeat (first | refine blk_drewN ?_ _ | refine blk_drew ?_ | refine blk_alloc ?_ _)); exact BK111.out) hb); have n4_ := Aside0.mk (below_step (by repeat (first | (with_reducible first | exact HB.out | apply below_alloc | apply pw_below_drewN | apply below_drew1 | refine below_set ?_ GE111.out) | exact HB.out)) hb); clear HO122; clear HO125; clear BK111; clear HB; have HO122 := n0_; have HO125 := n1_; have HO129 := n2_; have BK111 := n3_; have HB := n4_; clear n0_ n1_ n2_ n3_ n4_; clear hb ho62; obtain ⟨Ao63, co63, eo63⟩ := Kd.R_slice HO125.out; subst eo63; obtain ⟨Ao64, co64, eo64⟩ := Kd.R_slice HO129.out; subst eo64) | ((with_reducible refine gate_callee (f := 18) rfl ?_); refine goesL_ (some 53) rfl rfl Try.func18 (by kernel_rfl) rfl #[.slice Ao63 t123.length co63, .slice Ao64 y127.length co64] rfl (by (try simp only [List.map_toArray, List.map_cons, List.map_nil]); first | done | rfl | (simp only [List.length_drop, List.length_take]; rfl)) ?_; (with_reducible refine (complineref02_Same.calls k _ _ t123 _ _ y127 true _ ?side1 ?side2 ?side3 ?side4 A6.out).mono ?_); (case side1 => repeat (first | exact (Kd.R_reads' HO125.out).2.2 | (with_reducible refine Kd.C_alloc ?_ _) | (with_reducible refine Kd.C_drewN ?_ _) | (with_reducible refine Kd.C_drew ?_))); (case side2 => exact (Kd.R_reads' HO125.out).2.1); (case side3 => repeat (first | exact (Kd.R_reads' HO129.out).2.2 | (with_reducible refine Kd.C_alloc ?_ _) | (with_reducible refine Kd.C_drewN ?_ _) | (with_reducible refine Kd.C_drew ?_))); (case side4 => exact (Kd.R_reads' HO129.out).2.1); rintro e w' ⟨rfl, ⟨nd, rfl⟩⟩; refine ⟨_, rfl, ?_⟩; (try (rw [drewN_self w61]; generalize hq_ : World.drewN w61 _ = w61; have n0_ : Aside0 (Kd.R k25 25 w61 w.heap.size (fun _ => True) (.slice Ao59 y120.length co59) y120) := ⟨by rw [← hq_]; exact (by (with_reducible repeat (first | apply Kd.R_alloc | apply Kd.R_drewN | apply Kd.R_drew)); exact HO122.out)⟩; have n1_ : Aside0 (Kd.R (Kd.int .i64) 3 w61 w.heap.size (fun k_ => some k_ ≠ (.slice Ao64 y127.length co64 : Value).ownBlock) (.slice Ao63 t123.length co63) t123) := ⟨by rw [← hq_]; exact (by (with_reducible repeat (first | apply Kd.R_alloc | apply Kd.R_drewN | apply Kd.R_drew)); exact Kd.R_mono HO125.out (fun _ hk => hk.2))⟩; have n2_ : Aside0 (Kd.R (Kd.int .i64) 3 w61 w.heap.size (fun k_ => some k_ ≠ (.slice Ao63 t123.length co63 : Value).ownBlock) (.slice Ao64 y127.length co64) y127) := ⟨by rw [← hq_]; exact (by (with_reducible repeat (first | apply Kd.R_alloc | apply Kd.R_drewN | apply Kd.R_drew)); exact Kd.R_mono HO129.out (fun _ hk => hk.2))⟩; have n3_ : Aside0 (w61.heap[gb111]? = some (.cells #[.bool true, .int .i64 4, .int .i64 100, .int .i64 50, .int .i64 2] 23 (0, 0))) := ⟨by rw [← hq_]; exact (by (with_reducible repeat (first | refine blk_drewN ?_ _ | refine blk_drew ?_ | refine blk_alloc ?_ _)); exact BK111.out)⟩; have n4_ : Aside0 (Below w.heap.size w w61) := ⟨by rw [← hq_]; exact (by repeat (first | (with_reducible first | exact HB.out | apply below_alloc | apply pw_below_drewN | apply below_drew1 | refine below_set ?_ GE111.out) | exact HB.out))⟩; clear HO122 HO125 HO129 BK111 HB hq_; have HO122 := n0_; have HO125 := n1_; have HO129 := n2_; have BK111 := n3_; have HB := n4_; clear n0_ n1_ n2_ n3_ n4_)); have hcz65_0 : w61.cell? ⟨gb111, 0, none⟩ = some (.bool true) := (blk_cell BK111.out 0).trans rfl; have hcz65_1 : w61.cell? ⟨gb111, 1, none⟩ = some (.int .i64 4) := (blk_cell BK111.out 1).trans rfl; have hcz65_2 : w61.cell? ⟨gb111, 2, none⟩ = some (.int .i64 100) := (blk_cell BK111.out 2).trans rfl; have hcz65_3 : w61.cell? ⟨gb111, 3, none⟩ = some (.int .i64 50) := (blk_cell BK111.out 3).trans rfl; have hcz65_4 : w61.cell? ⟨gb111, 4, none⟩ = some (.int .i64 2) := (blk_cell BK111.out 4).trans rfl; have hfz65_0 := blk_frozen BK111.out 0; have hfz65_1 := blk_frozen BK111.out 1; have hfz65_2 := blk_frozen BK111.out 2; have hfz65_3 := blk_frozen BK111.out 3; have hfz65_4 := blk_frozen BK111.out 4) | ((with_reducible refine gate_callee (f := 14) rfl ?_); refine goesL_ (some 58) rfl rfl Try.func14 (by kernel_rfl) rfl #[.agg #[.bool true, .int .i64 4, .int .i64 100, .int .i64 50, .int .i64 2], .agg #[.int .i64 0, .int .i64 0], .int .i64 0, .agg #[.int .i64 0, .int .i64 0, .int .i64 0, .int .i64 0, .int .i64 50]] rfl (by (try simp only [List.map_toArray, List.map_cons, List.map_nil]); first | done | rfl | (simp only [List.length_drop, List.length_take]; rfl)) ?_; (with_reducible refine (policy_Step.calls k true 4 100 50 2 0 0 0 0 0 0 0 50 3 1 false 0 _ A7.out).mono ?_); rintro e w66 ⟨rfl, hb⟩; refine ⟨_, rfl, ?_⟩; have n0_ := Aside0.mk (Kd.R_below (by (with_reducible repeat (first | apply Kd.R_alloc | apply Kd.R_drewN | apply Kd.R_drew)); exact HO122.out) hb); have n1_ := Aside0.mk (Kd.R_below (by (with_reducible repeat (first | apply Kd.R_alloc | apply Kd.R_drewN | apply Kd.R_drew)); exact HO125.out) hb); have n2_ := Aside0.mk (Kd.R_below (by (with_reducible repeat (first | apply Kd.R_alloc | apply Kd.R_drewN | apply Kd.R_drew)); exact HO129.out) hb); have n3_ := Aside0.mk (blk_below (g := gb111) (o := .cells #[.bool true, .int .i64 4, .int .i64 100, .int .i64 50, .int .i64 2] 23 (0, 0)) (by (with_reducible repeat (first | refine blk_drewN ?_ _ | refine blk_drew ?_ | refine blk_alloc ?_ _)); exact BK111.out) hb); have n4_ := Aside0.mk (below_step (by repeat (first | (with_reducible first | exact HB.out | apply below_alloc | apply pw_below_drewN | apply below_drew1 | refine below_set ?_ GE111.out) | exact HB.out)) hb); clear HO122; clear HO125; clear HO129; clear BK111; clear HB; have HO122 := n0_; have HO125 := n1_; have HO129 := n2_; have BK111 := n3_; have HB := n4_; clear n0_ n1_ n2_ n3_ n4_; (try clear hb); (try clear hb2); (try clear hk); (try clear hi)) | ((with_reducible refine gate_dst (N := 13) rfl ?_); refine box_event ?hg (N := 13) ?hd (cs := #[.int .i64 0, .int .i64 0]) (t := 33) ?hr ?_; (case hd => rfl); (case hg => rfl); (case hr => first | (go_simp; done) | (go_simp; rfl)); intro gb135 hg w67 hbox hb; have n0_ := Aside0.mk (Kd.R_below (by (with_reducible repeat (first | apply Kd.R_alloc | apply Kd.R_drewN | apply Kd.R_drew)); exact HO122.out) hb); have n1_ := Aside0.mk (Kd.R_below (by (with_reducible repeat (first | apply Kd.R_alloc | apply Kd.R_drewN | apply Kd.R_drew)); exact HO125.out) hb); have n2_ := Aside0.mk (Kd.R_below (by (with_reducible repeat (first | apply Kd.R_alloc | apply Kd.R_drewN | apply Kd.R_drew)); exact HO129.out) hb); have n3_ := Aside0.mk (blk_below (g := gb111) (o := .cells #[.bool true, .int .i64 4, .int .i64 100, .int .i64 50, .int .i64 2] 23 (0, 0)) (by (with_reducible repeat (first | refine blk_drewN ?_ _ | refine blk_drew ?_ | refine blk_alloc ?_ _)); exact BK111.out) hb); have n4_ := Aside0.mk (below_step (by repeat (first | (with_reducible first | exact HB.out | apply below_alloc | apply pw_below_drewN | apply below_drew1 | refine below_set ?_ GE111.out) | exact HB.out)) hb); have n5_ := Aside0.mk (hbox); have n6_ := Aside0.mk ((by rw [hg]; exact (below_size (by repeat (first | (with_reducible first | exact HB.out | apply below_alloc | apply pw_below_drewN | apply below_drew1 | refine below_set ?_ GE111.out) | exact HB.out))) : w.heap.size ≤ gb135)); have n7_ := Aside0.mk ((by rw [hg]; exact (below_size (by repeat (first | (with_reducible first | exact HB.out | apply below_alloc | apply pw_below_drewN | apply below_drew1 | refine below_set ?_ GE111.out) | exact HB.out))) : w.heap.size ≤ gb135)); have n8_ := Aside0.mk ((by rw [hg]; exact Nat.ne_of_lt (blk_lt (g := gb111) (o := .cells #[.bool true, .int .i64 4, .int .i64 100, .int .i64 50, .int .i64 2] 23 (0, 0)) (by (with_reducible repeat (first | refine blk_drewN ?_ _ | refine blk_drew ?_ | refine blk_alloc ?_ _)); exact BK111.out)) : gb111 ≠ gb135)); have n9_ := Aside0.mk ((by rw [hg]; exact Nat.ne_of_gt (blk_lt (g := gb111) (o := .cells #[.bool true, .int .i64 4, .int .i64 100, .int .i64 50, .int .i64 2] 23 (0, 0)) (by (with_reducible repeat (first | refine blk_drewN ?_ _ | refine blk_drew ?_ | refine blk_alloc ?_ _)); exact BK111.out)) : gb135 ≠ gb111)); clear HO122; clear HO125; clear HO129; clear BK111; clear HB; have HO122 := n0_; have HO125 := n1_; have HO129 := n2_; have BK111 := n3_; have HB := n4_; have BK135 := n5_; have GW135 := n6_; have GE135 := n7_; have NB111_135 := n8_; have NB135_111 := n9_; clear n0_ n1_ n2_ n3_ n4_ n5_ n6_ n7_ n8_ n9_; clear hb hbox hg; have hnb68 := NB135_111.out; have hnc68 := NB111_135.out; have hcz69_0 : w67.cell? ⟨gb135, 0, none⟩ = some (.int .i64 0) := (blk_cell BK135.out 0).trans rfl; have hcz69_1 : w67.cell? ⟨gb135, 1, none⟩ = some (.int .i64 0) := (blk_cell BK135.out 1).trans rfl; have hfz69_0 := blk_frozen BK135.out 0; have hfz69_1 := blk_frozen BK135.out 1; have hcz70_0 : w67.cell? ⟨gb111, 0, none⟩ = some (.bool true) := (blk_cell BK111.out 0).trans rfl; have hcz70_1 : w67.cell? ⟨gb111, 1, none⟩ = some (.int .i64 4) := (blk_cell BK111.out 1).trans rfl; have hcz70_2 : w67.cell? ⟨gb111, 2, none⟩ = some (.int .i64 100) := (blk_cell BK111.out 2).trans rfl; have hcz70_3 : w67.cell? ⟨gb111, 3, none⟩ = some (.int .i64 50) := (blk_cell BK111.out 3).trans rfl; have hcz70_4 : w67.cell? ⟨gb111, 4, none⟩ = some (.int .i64 2) := (blk_cell BK111.out 4).trans rfl; have hfz70_0 := blk_frozen BK111.out 0; have hfz70_1 := blk_frozen BK111.out 1; have hfz70_2 := blk_frozen BK111.out 2; have hfz70_3 := blk_frozen BK111.out 3; have hfz70_4 := blk_frozen BK111.out 4) | (go_at_call 12; (with_reducible refine (policy_Check.calls true 4 100 50 2 0 _ A44.out).mono ?_); rintro e w71 ⟨rfl, hb⟩; have n0_ := Aside0.mk (Kd.R_below (by (with_reducible repeat (first | apply Kd.R_alloc | apply Kd.R_drewN | apply Kd.R_drew)); exact (Kd.R_mono (Kd.R_far (p := ⟨gb135, 1, none⟩) (Kd.R_far (p := ⟨gb135, 0, none⟩) (Kd.R_types HO122.out BK135.out (by decide)) (fun _ hk => hk.2) (.int .i64 3)) (fun _ hk => hk.2) (.int .i64 1)) (fun _ h_ => h_.1))) hb); have n1_ := Aside0.mk (Kd.R_below (by (with_reducible repeat (first | apply Kd.R_alloc | apply Kd.R_drewN | apply Kd.R_drew)); exact (Kd.R_mono (Kd.R_far (p := ⟨gb135, 1, none⟩) (Kd.R_far (p := ⟨gb135, 0, none⟩) (Kd.R_types HO125.out BK135.out (by decide)) (fun _ hk => hk.2) (.int .i64 3)) (fun _ hk => hk.2) (.int .i64 1)) (fun _ h_ => h_.1))) hb); have n2_ := Aside0.mk (Kd.R_below (by (with_reducible repeat (first | apply Kd.R_alloc | apply Kd.R_drewN | apply Kd.R_drew)); exact (Kd.R_mono (Kd.R_far (p := ⟨gb135, 1, none⟩) (Kd.R_far (p := ⟨gb135, 0, none⟩) (Kd.R_types HO129.out BK135.out (by decide)) (fun _ hk => hk.2) (.int .i64 3)) (fun _ hk => hk.2) (.int .i64 1)) (fun _ h_ => h_.1))) hb); have n3_ := Aside0.mk (blk_below (g := gb111) (o := .cells #[.bool true, .int .i64 4, .int .i64 100, .int .i64 50, .int .i64 2] 23 (0, 0)) (by (with_reducible repeat (first | refine blk_drewN ?_ _ | refine blk_drew ?_ | refine blk_alloc ?_ _)); refine blk_far ?_ NB111_135.out _; (with_reducible repeat (first | refine blk_drewN ?_ _ | refine blk_drew ?_ | refine blk_alloc ?_ _)); refine blk_far ?_ NB111_135.out _; (with_reducible repeat (first | refine blk_drewN ?_ _ | refine blk_drew ?_ | refine blk_alloc ?_ _)); exact BK111.out) hb); have n4_ := Aside0.mk (blk_below (g := gb135) (o := .cells #[.int .i64 3, .int .i64 1] 33 (0, 0)) (by (with_reducible repeat (first | refine blk_drewN ?_ _ | refine blk_drew ?_ | refine blk_alloc ?_ _)); refine blk_put (cs := #[.int .i64 3, .int .i64 0]) ?_ 1 _ rfl; (with_reducible repeat (first | refine blk_drewN ?_ _ | refine blk_drew ?_ | refine blk_alloc ?_ _)); refine blk_put (cs := #[.int .i64 0, .int .i64 0]) ?_ 0 _ rfl; (with_reducible repeat (first | refine blk_drewN ?_ _ | refine blk_drew ?_ | refine blk_alloc ?_ _)); exact BK135.out) hb); have n5_ := Aside0.mk (below_step (by repeat (first | (with_reducible first | exact HB.out | apply below_alloc | apply pw_below_drewN | apply below_drew1 | refine below_set ?_ GE111.out | refine below_set ?_ GE135.out) | exact HB.out)) hb); clear HO122; clear HO125; clear HO129; clear BK111; clear BK135; clear HB; have HO122 := n0_; have HO125 := n1_; have HO129 := n2_; have BK111 := n3_; have BK135 := n4_; have HB := n5_; clear n0_ n1_ n2_ n3_ n4_ n5_; (try clear hb); (try clear hb2); (try clear hk); (try clear hi)) | (go_at_call 12; (with_reducible refine (policy_Check.calls false 0 0 0 0 t137 _ A46.out).mono ?_); rintro e w72 ⟨rfl, hb⟩; have n0_ := Aside0.mk (Kd.R_below (by (with_reducible repeat (first | apply Kd.R_alloc | apply Kd.R_drewN | apply Kd.R_drew)); exact HO122.out) hb); have n1_ := Aside0.mk (Kd.R_below (by (with_reducible repeat (first | apply Kd.R_alloc | apply Kd.R_drewN | apply Kd.R_drew)); exact HO125.out) hb); have n2_ := Aside0.mk (Kd.R_below (by (with_reducible repeat (first | apply Kd.R_alloc | apply Kd.R_drewN | apply Kd.R_drew)); exact HO129.out) hb); have n3_ := Aside0.mk (blk_below (g := gb111) (o := .cells #[.bool true, .int .i64 4, .int .i64 100, .int .i64 50, .int .i64 2] 23 (0, 0)) (by (with_reducible repeat (first | refine blk_drewN ?_ _ | refine blk_drew ?_ | refine blk_alloc ?_ _)); exact BK111.out) hb); have n4_ := Aside0.mk (blk_below (g := gb135) (o := .cells #[.int .i64 3, .int .i64 1] 33 (0, 0)) (by (with_reducible repeat (first | refine blk_drewN ?_ _ | refine blk_drew ?_ | refine blk_alloc ?_ _)); exact BK135.out) hb); have n5_ := Aside0.mk (below_step (by repeat (first | (with_reducible first | exact HB.out | apply below_alloc | apply pw_below_drewN | apply below_drew1 | refine below_set ?_ GE111.out | refine below_set ?_ GE135.out) | exact HB.out)) hb); clear HO122; clear HO125; clear HO129; clear BK111; clear BK135; clear HB; have HO122 := n0_; have HO125 := n1_; have HO129 := n2_; have BK111 := n3_; have BK135 := n4_; have HB := n5_; clear n0_ n1_ n2_ n3_ n4_ n5_; (try clear hb); (try clear hb2); (try clear hk); (try clear hi)))
                              go_ret
                              exact ⟨by first | rfl | (simp [errW_none, errW_some] <;> rfl) | (simp [*, errW_none, errW_some] <;> rfl), by repeat (first | (with_reducible first | exact HB.out | apply below_alloc | apply pw_below_drewN | apply below_drew1 | refine below_set ?_ GE111.out | refine below_set ?_ GE135.out) | exact HB.out)⟩
                            · rw [if_neg c45] at H
                              have c45b0 : (t136 == 0) = false := beq_eq_false_iff_ne.mpr c45
                              have c45b1 : (t136 != 0) = true := bne_iff_ne.mpr c45
                              exact absurd (Option.some.inj H) (by decide)
                          · rw [if_neg c43] at H
                            have c43b0 : (t134 == 0) = false := beq_eq_false_iff_ne.mpr c43
                            have c43b1 : (t134 != 0) = true := bne_iff_ne.mpr c43
                            exact absurd (Option.some.inj H) (by decide)
                      · rw [if_neg c18] at H
                        have c18b0 : (t131 == 3 && (t132 == 1)) = false := by simpa using c18
                        (try (have c18b1 : decide (t131 = 3 && (t132 == 1)) = false := by simpa using c18))
                        (try (have c18b2 : (t131 == 3 && (t132 == 1)) = false := by simpa using c18))
                        (try (have c18b3 : ¬ (t131 = 3 && (t132 == 1)) := by simpa using c18))
                        clear c18
                        exact absurd (Option.some.inj H) (by decide)
                    · rw [if_neg c17] at H
                      have c17b0 : (t126 == 0) = false := beq_eq_false_iff_ne.mpr c17
                      have c17b1 : (t126 != 0) = true := bne_iff_ne.mpr c17
                      exact absurd (Option.some.inj H) (by decide)
                  · replace c16 := Bool.eq_false_iff.mpr c16
                    subst c16
                    have H1 : (some false) = some true := by rw [if_neg (show ¬ (false = true) by decide)] at H; exact H
                    clear H
                    have H := H1
                    clear H1
                    exact absurd (Option.some.inj H) (by decide)
                · rw [if_neg c15] at H
                  have c15b0 : (t119 == 0) = false := beq_eq_false_iff_ne.mpr c15
                  have c15b1 : (t119 != 0) = true := bne_iff_ne.mpr c15
                  exact absurd (Option.some.inj H) (by decide)
              · rw [if_neg c14] at H
                have c14b0 : (t118 == 2) = false := beq_eq_false_iff_ne.mpr c14
                have c14b1 : (t118 != 2) = true := bne_iff_ne.mpr c14
                exact absurd (Option.some.inj H) (by decide)
            · rw [if_neg c13] at H
              have c13b0 : (t117 == 0) = false := beq_eq_false_iff_ne.mpr c13
              have c13b1 : (t117 != 0) = true := bne_iff_ne.mpr c13
              exact absurd (Option.some.inj H) (by decide)
          · rw [if_neg c12] at H
            have c12b0 : (t116 == 1) = false := beq_eq_false_iff_ne.mpr c12
            have c12b1 : (t116 != 1) = true := bne_iff_ne.mpr c12
            exact absurd (Option.some.inj H) (by decide)
        · rw [if_neg c11] at H
          have c11b0 : (t115 == 0) = false := beq_eq_false_iff_ne.mpr c11
          have c11b1 : (t115 != 0) = true := bne_iff_ne.mpr c11
          exact absurd (Option.some.inj H) (by decide)
      · rw [if_neg c10] at H
        have c10b0 : (t114 == 3) = false := beq_eq_false_iff_ne.mpr c10
        have c10b1 : (t114 != 3) = true := bne_iff_ne.mpr c10
        exact absurd (Option.some.inj H) (by decide)
    · rw [if_neg c9] at H
      have c9b0 : (t113 == 0) = false := beq_eq_false_iff_ne.mpr c9
      have c9b1 : (t113 != 0) = true := bne_iff_ne.mpr c9
      exact absurd (Option.some.inj H) (by decide)
  · rw [if_neg c8] at H
    have c8b0 : (t112 == 0) = false := beq_eq_false_iff_ne.mpr c8
    have c8b1 : (t112 != 0) = true := bne_iff_ne.mpr c8
    exact absurd (Option.some.inj H) (by decide)
/-- It is true, or nothing is said. -/
def complinelaw15_works.f (k : Nat) : Option (Bool) := if complinelaw15_works.g k = some true then some true else none
theorem complinelaw15_works.mono : ∀ k, LeO (complinelaw15_works.f k) (complinelaw15_works.f (k + 1)) := by
  intro k r h
  unfold complinelaw15_works.f at h ⊢
  by_cases e : complinelaw15_works.g k = some true
  · rw [if_pos e] at h; rw [if_pos (complinelaw15_works.mono_g k _ e)]; exact h
  · rw [if_neg e] at h; cases h
theorem complinelaw15_works.calls (k : Nat)  (r : Bool) (w : World) (h : complinelaw15_works.f k  = some r) :
    Calls Try.prog 9 #[] w fun e w' => e = .returned (.bool r) ∧ Below w.heap.size w w' := by
  unfold complinelaw15_works.f at h
  by_cases e : complinelaw15_works.g k = some true
  · rw [if_pos e] at h
    obtain rfl := Option.some.inj h
    exact complinelaw15_works.calls_g k w e
  · rw [if_neg e] at h; cases h

end Go.Proofs.Ytkbodakmfllnpaa.GPolicyStays
