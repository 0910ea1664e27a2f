/-
  Queues in memory: rows of timers compared; a queue of the call's own. Queues in memory: the law's example. Queues in memory: the law's made.
  No condition.
-/
import Derived.Test.YtokhbiaaaflphaaListH
namespace Go.Proofs.Ytokhbiaaaflphaa.ListI
open Go.RowKit Go.Shelf Go.Proofs.Ytokhbiaaaflphaa.ChainA Go.Proofs.Ytokhbiaaaflphaa.ListM Go.Proofs.Ytokhbiaaaflphaa.ListA Go.Proofs.Ytokhbiaaaflphaa.ListB Go.Proofs.Ytokhbiaaaflphaa.ListE Go.Proofs.Ytokhbiaaaflphaa.ListF Go.Proofs.Ytokhbiaaaflphaa.ListR Go.Proofs.Ytokhbiaaaflphaa.ListG Go.Proofs.Ytokhbiaaaflphaa.ListH Go.Proofs.Ytokhbiaaaflphaa.GListqPlays Go.Proofs.YtokhbiaaaflphaaW.PrintWords Go.Proofs.YtokhbiaaaflphaaW.PrintLast Go.Proofs.YtokhbiaaaflphaaW.PrintMore
set_option linter.unusedVariables false
set_option linter.unusedSimpArgs false
variable {w : World} {q gT g b p : Nat} {P : Nat → Prop} {T T0 T1 : List S38} {v : Value}
theorem same_C {A0 A1 : Option Addr} {c0 c1 : Nat} (h0 : Kd.C k38 w A0 T0.length T0) (k0 : T0.length ≤ c0) (h1 : Kd.C k38 w A1 T1.length T1) (k1 : T1.length ≤ c1) (hl : T0.length ≤ 1000000) :
    Calls Try.prog 12 #[.slice A0 T0.length c0, .slice A1 T1.length c1] w fun e w' => e = .returned (.bool (decide (T0 = T1))) ∧ Below w.heap.size w w' := by
  refine (complineref04_Same.calls (T0.length + 1) A0 c0 T0 A1 c1 T1 _ w h0 k0 h1 k1 (same_f T0 T1 _ hl (Nat.lt_succ_self _))).mono ?_
  rintro e w' ⟨rfl, hd⟩
  exact ⟨rfl, hd.below⟩
theorem row_blk {W : World} {s : Nat} {l : List S38} (hn : W.heap[s]? = some (.cells (tc l).toArray 38)) (hl : l.length ≤ 1000000) : Kd.C k38 W (some ⟨s, 0, none⟩) l.length l := by
  refine ⟨rfl, by omega, fun _ => ⟨_, rfl, fun j x hx => ?_⟩⟩
  have hj : j < l.length := by
    rcases Nat.lt_or_ge j l.length with q | q
    · exact q
    · rw [List.getElem?_eq_none q] at hx; cases hx
  have hx' : tn l j = x := by unfold tn; rw [List.getD_eq_getElem?_getD, hx]; rfl
  refine ⟨[.int .u64 x.f0, .int .u64 x.f1, .int .i64 x.f2], rfl, k38_mk _ _, fun i u hu => ?_⟩
  have hc : ∀ i, W.cell? (((Addr.mk s 0 none)).add (j * k38.sz + i)) = (tc l)[j * 3 + i]? := by
    intro i
    rw [ChainA.adz]
    show W.cell? ⟨s, j * 3 + i, none⟩ = _
    rw [blk_cell hn, List.getElem?_toArray]
  rw [hc]
  match i, hu with
  | 0, hu => rw [← Option.some.inj hu, ← hx']; exact tc_0 l j hj
  | 1, hu => rw [← Option.some.inj hu, ← hx']; exact tc_1 l j hj
  | 2, hu => rw [← Option.some.inj hu, ← hx']; exact tc_2 l j hj
theorem row38 (W : World) (l : List S38) (hl : l.length ≤ 1000000) : Kd.C k38 (W.alloc (.cells (tc l).toArray 38)) (some ⟨W.heap.size, 0, none⟩) l.length l :=
  row_blk (World.alloc_heap_new W (.cells (tc l).toArray 38)) hl
/-- A queue of the call's own. -/
structure WS (w W : World) (q gT g b p : Nat) (T : List S38) : Prop where
  qs : QS W q gT g b p T
  lo : w.heap.size ≤ q ∧ w.heap.size ≤ gT ∧ w.heap.size ≤ g ∧ w.heap.size ≤ b
  bel : Below w.heap.size w W
theorem WS.below {W W' : World} (h : WS w W q gT g b p T) (k : Below W.heap.size W W') : WS w W' q gT g b p T := ⟨h.qs.below k, h.lo, h.bel.trans (k.mono h.bel.size)⟩
theorem WS.fr {W W' : World} {T' : List S38} (h : WS w W q gT g b p T) (c : QS W' q gT g b p T') (k : Fr q gT b W W') : WS w W' q gT g b p T' := ⟨c, h.lo, h.bel.trans (k.below h.bel.size h.lo.1 h.lo.2.1 h.lo.2.2.2)⟩
theorem WS.alloc {W : World} (h : WS w W q gT g b p T) (o : Obj) : WS w (W.alloc o) q gT g b p T := h.below ((Below.refl _ _).alloc (Nat.le_refl _) _)
theorem WS.drew {W : World} (h : WS w W q gT g b p T) : WS w W.drew q gT g b p T := h.below ⟨rfl, rfl, rfl, Nat.le_refl _, fun _ _ => rfl⟩
theorem ins_as {t : S38} {T' : List S38} {c : Int} {W : World} (hm : ListM.mIn p T t = (T', c)) (h : WS w W q gT g b p T) : Calls Try.prog 18 #[.pointer (some ⟨q, 0, none⟩), tv t] W fun e w' => e = .returned (.int .i64 c) ∧ WS w w' q gT g b p T' ∧ Fr q gT b W w' := by
  refine (ins_T t h.qs).mono ?_
  rintro e w' ⟨rfl, h1, k⟩
  rw [hm] at h1 ⊢
  exact ⟨rfl, h.fr h1 k, k⟩
theorem ins_lit {a b' c' : Int} {T' : List S38} {c : Int} {W : World} (hm : ListM.mIn p T ⟨a, b', c'⟩ = (T', c)) (h : WS w W q gT g b p T) : Calls Try.prog 18 #[.pointer (some ⟨q, 0, none⟩), .agg #[.int .u64 a, .int .u64 b', .int .i64 c']] W fun e w' => e = .returned (.int .i64 c) ∧ WS w w' q gT g b p T' ∧ Fr q gT b W w' := ins_as (t := ⟨a, b', c'⟩) hm h
theorem mov_as {t : S38} {T' : List S38} {c : Int} {W : World} (hm : ListM.mMov p T t = (T', c)) (h : WS w W q gT g b p T) : Calls Try.prog 16 #[.pointer (some ⟨q, 0, none⟩), tv t] W fun e w' => e = .returned (.int .i64 c) ∧ WS w w' q gT g b p T' ∧ Fr q gT b W w' := by
  refine (mov_T t h.qs).mono ?_
  rintro e w' ⟨rfl, h1, k⟩
  rw [hm] at h1 ⊢
  exact ⟨rfl, h.fr h1 k, k⟩
theorem can_as {x : Int} {t : S38} {T' : List S38} {c : Int} {W : World} (hm : ListM.mCan p T x = (T', t, c)) (h : WS w W q gT g b p T) : Calls Try.prog 17 #[.pointer (some ⟨q, 0, none⟩), .int .i64 x] W fun e w' => e = .returned (.tuple #[tv t, .int .i64 c]) ∧ WS w w' q gT g b p T' ∧ Fr q gT b W w' := by
  refine (can_T x h.qs).mono ?_
  rintro e w' ⟨rfl, h1, k⟩
  rw [hm] at h1 ⊢
  exact ⟨rfl, h.fr h1 k, k⟩
theorem due_as {now : Int} {D R : List S38} {W : World} (hd : dueT T now = D) (hr : restT T now = R) (h : WS w W q gT g b p T) : Calls Try.prog 11 #[.pointer (some ⟨q, 0, none⟩), .int .u64 now] W fun e w' => ∃ v, e = .returned v ∧ RT w' W.heap.size v D ∧ WS w w' q gT g b p R ∧ Fr q gT b W w' := by
  refine (due_T now h.qs).mono ?_
  rintro e w' ⟨v, rfl, h0, h1, k⟩
  rw [hd] at h0; rw [hr] at h1
  exact ⟨v, rfl, h0, h.fr h1 k, k⟩
theorem all_as {n : Nat} {W : World} (h : WS w W q gT g b p T) (hn : T.length = n) : Calls Try.prog 10 #[.pointer (some ⟨q, 0, none⟩)] W fun e w' => ∃ A c, e = .returned (.slice A n c) ∧ Kd.C k38 w' A n T ∧ n ≤ c ∧ Below W.heap.size W w' := by
  subst hn
  refine (all_T h.qs).mono ?_
  rintro e w' ⟨v, rfl, h0, k⟩
  obtain ⟨A, c, rfl⟩ := h0.slice
  exact ⟨A, c, rfl, h0.C.2.2, h0.C.2.1, k⟩
theorem due_lit {n : Nat} {now : Int} {D R : List S38} {W : World} (hd : dueT T now = D) (hr : restT T now = R) (h : WS w W q gT g b p T) (hn : D.length = n) : Calls Try.prog 11 #[.pointer (some ⟨q, 0, none⟩), .int .u64 now] W fun e w' => ∃ A c, e = .returned (.slice A n c) ∧ Kd.C k38 w' A n D ∧ n ≤ c ∧ WS w w' q gT g b p R ∧ Fr q gT b W w' := by
  subst hn
  refine (due_as hd hr h).mono ?_
  rintro e w' ⟨v, rfl, h0, h1, k⟩
  obtain ⟨A, c, rfl⟩ := h0.slice
  exact ⟨A, c, rfl, h0.C.2.2, h0.C.2.1, h1, k⟩
theorem same_yes {A0 A1 : Option Addr} {c0 c1 n : Nat} {W : World} (h0 : Kd.C k38 W A0 n T) (k0 : n ≤ c0) (h1 : Kd.C k38 W A1 n T) (k1 : n ≤ c1) (hl : n ≤ 1000000) :
    Calls Try.prog 12 #[.slice A0 n c0, .slice A1 n c1] W fun e w' => e = .returned (.bool true) ∧ Below W.heap.size W w' := by
  obtain rfl := h0.1
  refine (same_C h0 k0 h1 k1 hl).mono ?_
  rintro e w' ⟨rfl, k⟩
  exact ⟨by rw [decide_eq_true rfl], k⟩
theorem bd_blk {W W' : World} (k : Below W.drew.heap.size W.drew W') {s : Nat} {o : Obj} (h : W.heap[s]? = some o) : W'.heap[s]? = some o := (k.block s (blk_lt h)).trans h
theorem bel_blk {W W' : World} (k : Below W.heap.size W W') {s : Nat} {o : Obj} (h : W.heap[s]? = some o) : W'.heap[s]? = some o := (k.block s (blk_lt h)).trans h
theorem bd_C {W W' : World} {A : Option Addr} {n : Nat} (k : Below W.drew.heap.size W.drew W') (h : Kd.C k38 W A n T) : Kd.C k38 W' A n T := Kd.C_below h ((show Below W.heap.size W W.drew from ⟨rfl, rfl, rfl, Nat.le_refl _, fun _ _ => rfl⟩).trans k)
theorem WS.off {W : World} (h : WS w W q gT g b p T) : W.heap.size ≠ q ∧ W.heap.size ≠ gT ∧ W.heap.size ≠ b := by
  have := (qs_lens h.qs).2
  omega
theorem min_as {t : S38} {c : Bool} {W : World} (hm : minT T = (t, c)) (h : WS w W q gT g b p T) : Calls Try.prog 15 #[.pointer (some ⟨q, 0, none⟩)] W fun e w' => e = .returned (.tuple #[tv t, .bool c]) ∧ WS w w' q gT g b p T ∧ Below W.heap.size W w' := by
  refine (min_T h.qs).mono ?_
  rintro e w' ⟨rfl, k⟩
  rw [hm]
  exact ⟨rfl, h.below k, k⟩
theorem get_as {t : S38} {x : Int} {W : World} (hm : findT T x = some t) (h : WS w W q gT g b p T) : Calls Try.prog 14 #[.pointer (some ⟨q, 0, none⟩), .int .i64 x] W fun e w' => e = .returned (.tuple #[tv t, .bool true]) ∧ WS w w' q gT g b p T ∧ Below W.heap.size W w' := by
  refine (get_T x h.qs).mono ?_
  rintro e w' ⟨rfl, k⟩
  rw [hm]
  exact ⟨rfl, h.below k, k⟩
theorem len_as {n : Int} {W : World} (hm : (T.length : Int) = n) (h : WS w W q gT g b p T) : Calls Try.prog 20 #[.pointer (some ⟨q, 0, none⟩)] W fun e w' => e = .returned (.int .i64 n) ∧ w' = W := by
  refine (len_T h.qs).mono ?_
  rintro e w' ⟨rfl, rfl⟩
  rw [hm]
  exact ⟨rfl, rfl⟩
theorem fr_blk {W W' : World} (k : Fr q gT b W W') {s : Nat} {o : Obj} (h : W.heap[s]? = some o) (hn : s ≠ q ∧ s ≠ gT ∧ s ≠ b) : W'.heap[s]? = some o := (k.block s (blk_lt h) hn.1 hn.2.1 hn.2.2).trans h
end Go.Proofs.Ytokhbiaaaflphaa.ListI
namespace Go.Proofs.Ytokhbiaaaflphaa.ListW
open Go.RowKit Go.Shelf Go.Proofs.Ytokhbiaaaflphaa.ChainA Go.Proofs.Ytokhbiaaaflphaa.ListM Go.Proofs.Ytokhbiaaaflphaa.ListA Go.Proofs.Ytokhbiaaaflphaa.ListB Go.Proofs.Ytokhbiaaaflphaa.ListE Go.Proofs.Ytokhbiaaaflphaa.ListF Go.Proofs.Ytokhbiaaaflphaa.ListR Go.Proofs.Ytokhbiaaaflphaa.ListG Go.Proofs.Ytokhbiaaaflphaa.ListH Go.Proofs.Ytokhbiaaaflphaa.ListI Go.Proofs.Ytokhbiaaaflphaa.GListqPlays Go.Proofs.YtokhbiaaaflphaaW.PrintWords Go.Proofs.YtokhbiaaaflphaaW.PrintLast Go.Proofs.YtokhbiaaaflphaaW.PrintMore
set_option linter.unusedVariables false
set_option linter.unusedSimpArgs false
variable {w : World} {q gT g b p : Nat} {P : Nat → Prop} {T T0 T1 : List S38} {v : Value}
set_option maxRecDepth 100000 in
set_option maxHeartbeats 4000000 in
theorem works_calls (w : World) : Calls Try.prog 7 #[] w fun e w' => e = .returned (.bool true) ∧ Below w.heap.size w w' := by
  go_enter Try.func7, Try.ntmps7
  go_wp2_with fail
  go_at_call 19
  refine (new_T 3 w (by omega)).mono ?_
  rintro e w1 ⟨q, gT, g, b, rfl, h1, hlo, hB1⟩
  have s1 : WS w w1 q gT g b 3 [] := ⟨h1, hlo, hB1⟩
  have hlen := (qs_lens h1).2
  clear h1 hlo hB1
  simp only []
  go_wp2_with fail
  have y0 := World.alloc_heap_new w1 (.cells #[.int .u64 5, .int .u64 2, .int .i64 0] 38)
  have y1 := World.alloc_heap_new (w1.alloc (.cells #[.int .u64 5, .int .u64 2, .int .i64 0] 38)) (.cells #[.int .u64 3, .int .u64 1, .int .i64 1] 38)
  have y2 := World.alloc_heap_new ((w1.alloc (.cells #[.int .u64 5, .int .u64 2, .int .i64 0] 38)).alloc (.cells #[.int .u64 3, .int .u64 1, .int .i64 1] 38)) (.cells #[.int .u64 5, .int .u64 1, .int .i64 2] 38)
  simp only [World.size_alloc] at y1 y2
  replace y0 := blk_alloc (blk_alloc y0 (.cells #[.int .u64 3, .int .u64 1, .int .i64 1] 38)) (.cells #[.int .u64 5, .int .u64 1, .int .i64 2] 38)
  replace y1 := blk_alloc y1 (.cells #[.int .u64 5, .int .u64 1, .int .i64 2] 38)
  replace s1 := ((s1.alloc (.cells #[.int .u64 5, .int .u64 2, .int .i64 0] 38)).alloc (.cells #[.int .u64 3, .int .u64 1, .int .i64 1] 38)).alloc (.cells #[.int .u64 5, .int .u64 1, .int .i64 2] 38)
  have hn0 : w1.heap.size ≠ q ∧ w1.heap.size ≠ gT ∧ w1.heap.size ≠ b := by omega
  have hn1 : w1.heap.size + 1 ≠ q ∧ w1.heap.size + 1 ≠ gT ∧ w1.heap.size + 1 ≠ b := by omega
  have hn2 : w1.heap.size + 1 + 1 ≠ q ∧ w1.heap.size + 1 + 1 ≠ gT ∧ w1.heap.size + 1 + 1 ≠ b := by omega
  clear hlen
  generalize ((w1.alloc (.cells #[.int .u64 5, .int .u64 2, .int .i64 0] 38)).alloc (.cells #[.int .u64 3, .int .u64 1, .int .i64 1] 38)).alloc (.cells #[.int .u64 5, .int .u64 1, .int .i64 2] 38) = W3 at *
  generalize w1.heap.size + 1 + 1 = s2 at *
  generalize w1.heap.size + 1 = s1' at *
  generalize w1.heap.size = s0 at *
  obtain ⟨⟨c00, c01⟩, c02⟩ := cell_of3 y0
  obtain ⟨⟨d00, d01⟩, d02⟩ := cell_of3 y1
  obtain ⟨⟨f00, f01⟩, f02⟩ := cell_of3 y2
  have m1 : ListM.mIn 3 [] ⟨5, 2, 0⟩ = ([⟨5, 2, 0⟩], 0) := by decide
  have m2 : ListM.mIn 3 [⟨5, 2, 0⟩] ⟨3, 1, 1⟩ = ([⟨3, 1, 1⟩, ⟨5, 2, 0⟩], 0) := by decide
  have m3 : ListM.mIn 3 [⟨3, 1, 1⟩, ⟨5, 2, 0⟩] ⟨5, 1, 2⟩ = ([⟨3, 1, 1⟩, ⟨5, 1, 2⟩, ⟨5, 2, 0⟩], 0) := by decide
  go_region_held3 (fun w' => ((w'.cell? ⟨s0, 0, none⟩ = some (.int .u64 5) ∧ w'.cell? ⟨s0, 1, none⟩ = some (.int .u64 2)) ∧ w'.cell? ⟨s0, 2, none⟩ = some (.int .i64 0)) ∧ ((w'.cell? ⟨s1', 0, none⟩ = some (.int .u64 3) ∧ w'.cell? ⟨s1', 1, none⟩ = some (.int .u64 1)) ∧ w'.cell? ⟨s1', 2, none⟩ = some (.int .i64 1)) ∧ ((w'.cell? ⟨s2, 0, none⟩ = some (.int .u64 5) ∧ w'.cell? ⟨s2, 1, none⟩ = some (.int .u64 1)) ∧ w'.cell? ⟨s2, 2, none⟩ = some (.int .i64 2))) (go_keep) ((go_at_call 18; first
    | (with_reducible refine (ins_lit (a := 5) (b' := 2) (c' := 0) m1 s1.drew).mono ?_; rintro e w3 ⟨rfl, u1, k1⟩; have z10 := fr_blk k1 (blk_drew y0) hn0; have z11 := fr_blk k1 (blk_drew y1) hn1; have z12 := fr_blk k1 (blk_drew y2) hn2; obtain ⟨⟨c10, c11⟩, c12⟩ := cell_of3 z10; obtain ⟨⟨d10, d11⟩, d12⟩ := cell_of3 z11; obtain ⟨⟨f10, f11⟩, f12⟩ := cell_of3 z12)
    | (with_reducible refine (ins_lit (a := 3) (b' := 1) (c' := 1) m2 u1).mono ?_; rintro e w4 ⟨rfl, u2, k2⟩; have z20 := fr_blk k2 z10 hn0; have z21 := fr_blk k2 z11 hn1; have z22 := fr_blk k2 z12 hn2; obtain ⟨⟨c20, c21⟩, c22⟩ := cell_of3 z20; obtain ⟨⟨d20, d21⟩, d22⟩ := cell_of3 z21; obtain ⟨⟨f20, f21⟩, f22⟩ := cell_of3 z22)
    | (with_reducible refine (ins_lit (a := 5) (b' := 1) (c' := 2) m3 u2).mono ?_; rintro e w5 ⟨rfl, u3, k3⟩; have z30 := fr_blk k3 z20 hn0; have z31 := fr_blk k3 z21 hn1; have z32 := fr_blk k3 z22 hn2; obtain ⟨⟨c30, c31⟩, c32⟩ := cell_of3 z30; obtain ⟨⟨d30, d31⟩, d32⟩ := cell_of3 z31; obtain ⟨⟨f30, f31⟩, f32⟩ := cell_of3 z32)))
  go_wp2_with fail
  clear c10 c11 c12 d10 d11 d12 f10 f11 f12 c20 c21 c22 d20 d21 d22 f20 f21 f22 c00 c01 c02 d00 d01 d02 f00 f01 f02 m1 m2 m3 y0 y1 y2 z10 z11 z12 z20 z21 z22 k1 k2 k3 u1 u2 s1
  have row3 : ∀ W : World, Kd.C k38 (W.alloc (.cells #[.int .u64 3, .int .u64 1, .int .i64 1, .int .u64 5, .int .u64 1, .int .i64 2, .int .u64 5, .int .u64 2, .int .i64 0] 38)) (some ⟨W.heap.size, 0, none⟩) 3 [⟨3, 1, 1⟩, ⟨5, 1, 2⟩, ⟨5, 2, 0⟩] := fun W => row38 W [⟨3, 1, 1⟩, ⟨5, 1, 2⟩, ⟨5, 2, 0⟩] (by simp)
  go_region_held3 (fun w' => ((w'.cell? ⟨s0, 0, none⟩ = some (.int .u64 5) ∧ w'.cell? ⟨s0, 1, none⟩ = some (.int .u64 2)) ∧ w'.cell? ⟨s0, 2, none⟩ = some (.int .i64 0)) ∧ ((w'.cell? ⟨s1', 0, none⟩ = some (.int .u64 3) ∧ w'.cell? ⟨s1', 1, none⟩ = some (.int .u64 1)) ∧ w'.cell? ⟨s1', 2, none⟩ = some (.int .i64 1)) ∧ ((w'.cell? ⟨s2, 0, none⟩ = some (.int .u64 5) ∧ w'.cell? ⟨s2, 1, none⟩ = some (.int .u64 1)) ∧ w'.cell? ⟨s2, 2, none⟩ = some (.int .i64 2))) (go_keep) ((first
    | (go_at_call 10; first
       | (with_reducible refine (all_as (n := 3) u3.drew rfl).mono ?_; rintro e w6 ⟨Av, cv, rfl, r1, hcv, kb⟩; have u4 := u3.drew.below kb; have z40 := bd_blk kb z30; have z41 := bd_blk kb z31; have z42 := bd_blk kb z32; obtain ⟨⟨c40, c41⟩, c42⟩ := cell_of3 z40; obtain ⟨⟨d40, d41⟩, d42⟩ := cell_of3 z41; obtain ⟨⟨f40, f41⟩, f42⟩ := cell_of3 z42)
       | (with_reducible refine (all_as (n := 3) (u3.alloc _).drew rfl).mono ?_; rintro e w6 ⟨Av, cv, rfl, r1, hcv, kb⟩; have u4 := (u3.alloc _).drew.below kb; have z40 := bd_blk kb (blk_alloc z30 _); have z41 := bd_blk kb (blk_alloc z31 _); have z42 := bd_blk kb (blk_alloc z32 _); obtain ⟨⟨c40, c41⟩, c42⟩ := cell_of3 z40; obtain ⟨⟨d40, d41⟩, d42⟩ := cell_of3 z41; obtain ⟨⟨f40, f41⟩, f42⟩ := cell_of3 z42; have r2 := bd_C kb (row3 _)))
    | (go_at_call 12; first
       | (with_reducible refine (same_yes (Kd.C_below r1 ((Below.refl _ _).alloc (Nat.le_refl _) _)) hcv (row3 _) (Nat.le_refl 3) (by decide)).mono ?_; rintro e w7 ⟨rfl, kc⟩; have u5 := (u4.alloc _).below kc; have z50 := bel_blk kc (blk_alloc z40 _); have z51 := bel_blk kc (blk_alloc z41 _); have z52 := bel_blk kc (blk_alloc z42 _); obtain ⟨⟨c50, c51⟩, c52⟩ := cell_of3 z50; obtain ⟨⟨d50, d51⟩, d52⟩ := cell_of3 z51; obtain ⟨⟨f50, f51⟩, f52⟩ := cell_of3 z52)
       | (with_reducible refine (same_yes r1 hcv r2 (Nat.le_refl 3) (by decide)).mono ?_; rintro e w7 ⟨rfl, kc⟩; have u5 := u4.below kc; have z50 := bel_blk kc (z40); have z51 := bel_blk kc (z41); have z52 := bel_blk kc (z42); obtain ⟨⟨c50, c51⟩, c52⟩ := cell_of3 z50; obtain ⟨⟨d50, d51⟩, d52⟩ := cell_of3 z51; obtain ⟨⟨f50, f51⟩, f52⟩ := cell_of3 z52))))
  all_goals (
    go_wp2_with fail
    clear c30 c31 c32 d30 d31 d32 f30 f31 f32 c40 c41 c42 d40 d41 d42 f40 f41 f42 r1 hcv u4 z40 z41 z42 u3 z30 z31 z32 kb kc row3
    have row1 : ∀ (W : World) (s : Nat), W.heap[s]? = some (.cells #[.int .u64 3, .int .u64 1, .int .i64 1] 38) → Kd.C k38 W (some ⟨s, 0, none⟩) 1 [⟨3, 1, 1⟩] := fun W s h => row_blk (l := [⟨3, 1, 1⟩]) h (by simp)
    have o7 := u5.off
    have h1 : dueT [⟨3, 1, 1⟩, ⟨5, 1, 2⟩, ⟨5, 2, 0⟩] 4 = [⟨3, 1, 1⟩] := by decide
    have h2 : restT [⟨3, 1, 1⟩, ⟨5, 1, 2⟩, ⟨5, 2, 0⟩] 4 = [⟨5, 1, 2⟩, ⟨5, 2, 0⟩] := by decide
    go_region_held3 (fun w' => ((w'.cell? ⟨s0, 0, none⟩ = some (.int .u64 5) ∧ w'.cell? ⟨s0, 1, none⟩ = some (.int .u64 2)) ∧ w'.cell? ⟨s0, 2, none⟩ = some (.int .i64 0)) ∧ ((w'.cell? ⟨s1', 0, none⟩ = some (.int .u64 3) ∧ w'.cell? ⟨s1', 1, none⟩ = some (.int .u64 1)) ∧ w'.cell? ⟨s1', 2, none⟩ = some (.int .i64 1)) ∧ ((w'.cell? ⟨s2, 0, none⟩ = some (.int .u64 5) ∧ w'.cell? ⟨s2, 1, none⟩ = some (.int .u64 1)) ∧ w'.cell? ⟨s2, 2, none⟩ = some (.int .i64 2))) (go_keep) ((first
      | (go_at_call 11; first
         | (with_reducible refine (due_lit (n := 1) h1 h2 u5.drew rfl).mono ?_; rintro e w8 ⟨Ad, cd, rfl, r1, hcv, u6, kb⟩; have z60 := fr_blk kb (blk_drew z50) hn0; have z61 := fr_blk kb (blk_drew z51) hn1; have z62 := fr_blk kb (blk_drew z52) hn2; obtain ⟨⟨c60, c61⟩, c62⟩ := cell_of3 z60; obtain ⟨⟨d60, d61⟩, d62⟩ := cell_of3 z61; obtain ⟨⟨f60, f61⟩, f62⟩ := cell_of3 z62)
         | (with_reducible refine (due_lit (n := 1) h1 h2 (u5.alloc _).drew rfl).mono ?_; rintro e w8 ⟨Ad, cd, rfl, r1, hcv, u6, kb⟩; have z60 := fr_blk kb (blk_drew (blk_alloc z50 _)) hn0; have z61 := fr_blk kb (blk_drew (blk_alloc z51 _)) hn1; have z62 := fr_blk kb (blk_drew (blk_alloc z52 _)) hn2; obtain ⟨⟨c60, c61⟩, c62⟩ := cell_of3 z60; obtain ⟨⟨d60, d61⟩, d62⟩ := cell_of3 z61; obtain ⟨⟨f60, f61⟩, f62⟩ := cell_of3 z62; have r2 := row1 _ _ (fr_blk kb (blk_drew (World.alloc_heap_new _ _)) o7)))
      | (go_at_call 12; first
         | (with_reducible refine (same_yes (Kd.C_below r1 ((Below.refl _ _).alloc (Nat.le_refl _) _)) hcv (row1 _ _ (World.alloc_heap_new _ _)) (Nat.le_refl 1) (by decide)).mono ?_; rintro e w9 ⟨rfl, kc⟩; have u7 := (u6.alloc _).below kc; have z70 := bel_blk kc (blk_alloc z60 _); have z71 := bel_blk kc (blk_alloc z61 _); have z72 := bel_blk kc (blk_alloc z62 _); obtain ⟨⟨c70, c71⟩, c72⟩ := cell_of3 z70; obtain ⟨⟨d70, d71⟩, d72⟩ := cell_of3 z71; obtain ⟨⟨f70, f71⟩, f72⟩ := cell_of3 z72)
         | (with_reducible refine (same_yes r1 hcv r2 (Nat.le_refl 1) (by decide)).mono ?_; rintro e w9 ⟨rfl, kc⟩; have u7 := u6.below kc; have z70 := bel_blk kc z60; have z71 := bel_blk kc z61; have z72 := bel_blk kc z62; obtain ⟨⟨c70, c71⟩, c72⟩ := cell_of3 z70; obtain ⟨⟨d70, d71⟩, d72⟩ := cell_of3 z71; obtain ⟨⟨f70, f71⟩, f72⟩ := cell_of3 z72)))))
  all_goals (
    go_wp2_with fail
    clear c50 c51 c52 d50 d51 d52 f50 f51 f52 c60 c61 c62 d60 d61 d62 f60 f61 f62 c70 c71 c72 d70 d71 d72 f70 f71 f72 z60 z61 z62 z50 z51 z52 u6 u5 r1 hcv row1 h1 h2 o7 kb kc
    try clear r2
    go_at_call 15
    refine (min_as (t := ⟨5, 1, 2⟩) (c := true) (by decide) u7).mono ?_
    rintro e w10 ⟨rfl, u8, kb⟩
    replace z70 := bel_blk kb z70
    replace z71 := bel_blk kb z71
    replace z72 := bel_blk kb z72
    clear kb u7
    have o := u8.off
    have ys3 := World.alloc_heap_new w10 (.cells #[.int .u64 5, .int .u64 1, .int .i64 2] 38)
    have u9 := u8.alloc (.cells #[.int .u64 5, .int .u64 1, .int .i64 2] 38)
    replace z70 := blk_alloc z70 (.cells #[.int .u64 5, .int .u64 1, .int .i64 2] 38)
    replace z71 := blk_alloc z71 (.cells #[.int .u64 5, .int .u64 1, .int .i64 2] 38)
    replace z72 := blk_alloc z72 (.cells #[.int .u64 5, .int .u64 1, .int .i64 2] 38)
    simp only [tv]
    go_wp2_with fail
    generalize w10.alloc (.cells #[.int .u64 5, .int .u64 1, .int .i64 2] 38) = W10 at *
    generalize w10.heap.size = s3 at *
    have ns3 := o; clear o
    clear u8
    go_at_call 16
    refine (mov_as (t := ⟨9, 1, 2⟩) (T' := [⟨5, 2, 0⟩, ⟨9, 1, 2⟩]) (c := 0) (by decide) u9).mono ?_
    rintro e w11 ⟨rfl, u10, k⟩
    replace z70 := fr_blk k z70 hn0
    replace z71 := fr_blk k z71 hn1
    replace z72 := fr_blk k z72 hn2
    replace ys3 := fr_blk k ys3 ns3
    clear u9 k
    simp only []
    go_wp2_with fail
    go_at_call 15
    refine (min_as (t := ⟨5, 2, 0⟩) (c := true) (by decide) u10).mono ?_
    rintro e w12 ⟨rfl, u11, kb⟩
    replace z70 := bel_blk kb z70
    replace z71 := bel_blk kb z71
    replace z72 := bel_blk kb z72
    replace ys3 := bel_blk kb ys3
    clear kb u10
    have o := u11.off
    have ys4 := World.alloc_heap_new w12 (.cells #[.int .u64 5, .int .u64 2, .int .i64 0] 38)
    have u12 := u11.alloc (.cells #[.int .u64 5, .int .u64 2, .int .i64 0] 38)
    replace z70 := blk_alloc z70 (.cells #[.int .u64 5, .int .u64 2, .int .i64 0] 38)
    replace z71 := blk_alloc z71 (.cells #[.int .u64 5, .int .u64 2, .int .i64 0] 38)
    replace z72 := blk_alloc z72 (.cells #[.int .u64 5, .int .u64 2, .int .i64 0] 38)
    replace ys3 := blk_alloc ys3 (.cells #[.int .u64 5, .int .u64 2, .int .i64 0] 38)
    simp only [tv]
    go_wp2_with fail
    generalize w12.alloc (.cells #[.int .u64 5, .int .u64 2, .int .i64 0] 38) = W12 at *
    generalize w12.heap.size = s4 at *
    have ns4 := o; clear o
    clear u11
    go_at_call 17
    refine (can_as (x := 0) (t := ⟨5, 2, 0⟩) (T' := [⟨9, 1, 2⟩]) (c := 0) (by decide) u12).mono ?_
    rintro e w13 ⟨rfl, u13, k⟩
    replace z70 := fr_blk k z70 hn0
    replace z71 := fr_blk k z71 hn1
    replace z72 := fr_blk k z72 hn2
    replace ys3 := fr_blk k ys3 ns3
    replace ys4 := fr_blk k ys4 ns4
    clear u12 k
    have o := u13.off
    have ys5 := World.alloc_heap_new w13 (.cells #[.int .u64 5, .int .u64 2, .int .i64 0] 38)
    have u14 := u13.alloc (.cells #[.int .u64 5, .int .u64 2, .int .i64 0] 38)
    replace z70 := blk_alloc z70 (.cells #[.int .u64 5, .int .u64 2, .int .i64 0] 38)
    replace z71 := blk_alloc z71 (.cells #[.int .u64 5, .int .u64 2, .int .i64 0] 38)
    replace z72 := blk_alloc z72 (.cells #[.int .u64 5, .int .u64 2, .int .i64 0] 38)
    replace ys3 := blk_alloc ys3 (.cells #[.int .u64 5, .int .u64 2, .int .i64 0] 38)
    replace ys4 := blk_alloc ys4 (.cells #[.int .u64 5, .int .u64 2, .int .i64 0] 38)
    simp only [tv]
    go_wp2_with fail
    generalize w13.alloc (.cells #[.int .u64 5, .int .u64 2, .int .i64 0] 38) = W13 at *
    generalize w13.heap.size = s5 at *
    have ns5 := o; clear o
    clear u13
    go_at_call 14
    refine (get_as (t := ⟨9, 1, 2⟩) (x := 2) (by decide) u14).mono ?_
    rintro e w14 ⟨rfl, u15, kb⟩
    replace z70 := bel_blk kb z70
    replace z71 := bel_blk kb z71
    replace z72 := bel_blk kb z72
    replace ys3 := bel_blk kb ys3
    replace ys4 := bel_blk kb ys4
    replace ys5 := bel_blk kb ys5
    clear kb u14
    have o := u15.off
    have ys6 := World.alloc_heap_new w14 (.cells #[.int .u64 9, .int .u64 1, .int .i64 2] 38)
    have u16 := u15.alloc (.cells #[.int .u64 9, .int .u64 1, .int .i64 2] 38)
    replace z70 := blk_alloc z70 (.cells #[.int .u64 9, .int .u64 1, .int .i64 2] 38)
    replace z71 := blk_alloc z71 (.cells #[.int .u64 9, .int .u64 1, .int .i64 2] 38)
    replace z72 := blk_alloc z72 (.cells #[.int .u64 9, .int .u64 1, .int .i64 2] 38)
    replace ys3 := blk_alloc ys3 (.cells #[.int .u64 9, .int .u64 1, .int .i64 2] 38)
    replace ys4 := blk_alloc ys4 (.cells #[.int .u64 9, .int .u64 1, .int .i64 2] 38)
    replace ys5 := blk_alloc ys5 (.cells #[.int .u64 9, .int .u64 1, .int .i64 2] 38)
    obtain ⟨⟨p00, p01⟩, p02⟩ := cell_of3 z70
    obtain ⟨⟨p10, p11⟩, p12⟩ := cell_of3 z71
    obtain ⟨⟨p20, p21⟩, p22⟩ := cell_of3 z72
    obtain ⟨⟨p30, p31⟩, p32⟩ := cell_of3 ys3
    obtain ⟨⟨p40, p41⟩, p42⟩ := cell_of3 ys4
    obtain ⟨⟨p50, p51⟩, p52⟩ := cell_of3 ys5
    obtain ⟨⟨p60, p61⟩, p62⟩ := cell_of3 ys6
    simp only [tv]
    go_wp2_with fail
    go_at_call 20
    refine (len_as (n := 1) (by decide) u16).mono ?_
    rintro e w15 ⟨rfl, rfl⟩
    simp only []
    go_wp2_with fail
    go_at_call 18
    refine (ins_lit (a := 9) (b' := 1) (c' := 2) (T' := [⟨9, 1, 2⟩]) (c := 4) (by decide) u16).mono ?_
    rintro e w16 ⟨rfl, u17, k⟩
    simp only []
    go_wp2_with fail
    go_ret
    exact ⟨rfl, u17.bel⟩)
end Go.Proofs.Ytokhbiaaaflphaa.ListW
namespace Go.Proofs.Ytokhbiaaaflphaa.ListK
open Go.RowKit Go.Shelf Go.Proofs.Ytokhbiaaaflphaa.ChainA Go.Proofs.Ytokhbiaaaflphaa.ListM Go.Proofs.Ytokhbiaaaflphaa.ListA Go.Proofs.Ytokhbiaaaflphaa.ListB Go.Proofs.Ytokhbiaaaflphaa.ListE Go.Proofs.Ytokhbiaaaflphaa.ListF Go.Proofs.Ytokhbiaaaflphaa.ListR Go.Proofs.Ytokhbiaaaflphaa.ListG Go.Proofs.Ytokhbiaaaflphaa.ListH Go.Proofs.Ytokhbiaaaflphaa.ListI Go.Proofs.Ytokhbiaaaflphaa.GListqPlays Go.Proofs.YtokhbiaaaflphaaW.PrintWords Go.Proofs.YtokhbiaaaflphaaW.PrintLast Go.Proofs.YtokhbiaaaflphaaW.PrintMore
set_option linter.unusedVariables false
set_option linter.unusedSimpArgs false
variable {w : World} {q gT g b p : Nat} {P : Nat → Prop} {T T0 T1 : List S38} {v : Value}
/-! The struct Act. -/
structure S59 where
  f0 : Int
  f1 : S38
  f2 : Int
def z59 : S59 := ⟨(0 : Int), z38, (0 : Int)⟩
def k59 : Kd S59 := Kd.iso (Kd.pair (Kd.int .i64) (Kd.pair k38 (Kd.int .u64))) (fun x : S59 => (x.f0, x.f1, x.f2))
theorem k59_open {w : World} {x : S59} {cs : List Value} (h : k59.K w x cs) : cs = [.int .i64 x.f0, .int .u64 x.f1.f0, .int .u64 x.f1.f1, .int .i64 x.f1.f2, .int .u64 x.f2] := by
  obtain ⟨_, _, rfl, rfl, h2⟩ := h
  obtain ⟨_, _, rfl, s0, rfl⟩ := h2
  obtain rfl := k38_open s0
  exact rfl
theorem k59_mk (w : World) (x : S59) : k59.K w x [.int .i64 x.f0, .int .u64 x.f1.f0, .int .u64 x.f1.f1, .int .i64 x.f1.f2, .int .u64 x.f2] := ⟨[.int .i64 x.f0], [.int .u64 x.f1.f0, .int .u64 x.f1.f1, .int .i64 x.f1.f2, .int .u64 x.f2], rfl, rfl, ⟨[.int .u64 x.f1.f0, .int .u64 x.f1.f1, .int .i64 x.f1.f2], [.int .u64 x.f2], rfl, k38_mk w x.f1, rfl⟩⟩
def rd_T59 (xs : List S59) (i : Int) : S59 := xs.getD i.toNat z59
theorem at_T59 {w : World} {A : Option Addr} {n : Nat} {xs : List S59} (h : Kd.C k59 w A n xs) (i : Int) (h0 : 0 ≤ i) (h1 : i < n) : ∃ ad, A = some ad ∧ w.cell? (ad.add (i.toNat * 5)) = some (.int .i64 (rd_T59 xs i).f0) ∧ w.cell? ⟨(ad.add (i.toNat * 5)).block, (ad.add (i.toNat * 5)).off + 1, none⟩ = some (.int .u64 (rd_T59 xs i).f1.f0) ∧ w.cell? ⟨(ad.add (i.toNat * 5)).block, (ad.add (i.toNat * 5)).off + 2, none⟩ = some (.int .u64 (rd_T59 xs i).f1.f1) ∧ w.cell? ⟨(ad.add (i.toNat * 5)).block, (ad.add (i.toNat * 5)).off + 3, none⟩ = some (.int .i64 (rd_T59 xs i).f1.f2) ∧ w.cell? ⟨(ad.add (i.toNat * 5)).block, (ad.add (i.toNat * 5)).off + 4, none⟩ = some (.int .u64 (rd_T59 xs i).f2) := by
  obtain ⟨ad, c, e, _, hK, hc0⟩ := Kd.C_get h z59 i h0 h1
  have hc : ∀ j u, c[j]? = some u → w.cell? (ad.add (i.toNat * 5 + j)) = some u := hc0
  obtain rfl := k59_open hK
  exact ⟨ad, e, hc 0 _ rfl, by rw [← add_field _ _ 1 (by omega)]; exact hc 1 _ rfl, by rw [← add_field _ _ 2 (by omega)]; exact hc 2 _ rfl, by rw [← add_field _ _ 3 (by omega)]; exact hc 3 _ rfl, by rw [← add_field _ _ 4 (by omega)]; exact hc 4 _ rfl⟩
theorem at_T59_lt {w : World} {ad : Addr} {xs : List S59} (h : Kd.C k59 w (some ad) xs.length xs) (k : Nat) (hk : k < xs.length) : (ad.add (k * 5)).block < w.heap.size := by
  obtain ⟨ad', e, h0, _⟩ := at_T59 h (k : Int) (by omega) (by omega)
  cases e
  exact World.block_lt_of_cell? _ _ (by simpa using h0)
/-- What acts make of a queue. -/
def mActs (p : Nat) (T : List S38) (l : List S59) : List S38 := l.foldl (fun T a => (mDo p T a.f0 a.f1 a.f2).T) T
theorem mActs_snoc (p : Nat) (T : List S38) (l : List S59) (k : Nat) (h : k < l.length) : mActs p T (l.take (k + 1)) = (mDo p (mActs p T (l.take k)) (rd_T59 l k).f0 (rd_T59 l k).f1 (rd_T59 l k).f2).T := by
  unfold mActs
  rw [List.take_succ_eq_append_getElem h, List.foldl_append]
  have e : rd_T59 l k = l[k] := by unfold rd_T59; rw [Int.toNat_natCast, List.getD_eq_getElem?_getD, List.getElem?_eq_getElem h]; rfl
  rw [e]; rfl
/-- Of what size what was told is. -/
theorem due_len (T : List S38) (now : Int) : (dueT T now).length ≤ T.length := List.length_filter_le _ _
theorem mDo_len (p : Nat) (T : List S38) (k : Int) (t : S38) (nw : Int) : (mDo p T k t nw).d.length ≤ T.length := by
  unfold mDo
  split
  · exact Nat.zero_le _
  · split
    · exact Nat.zero_le _
    · split
      · exact Nat.zero_le _
      · split
        · exact due_len T nw
        · exact Nat.zero_le _
theorem same7 {n c0 c1 : Nat} {A0 A1 : Option Addr} (e : Int) (t : S38) (h0 : Kd.C k38 w A0 n T) (k0 : n ≤ c0) (h1 : Kd.C k38 w A1 n T) (k1 : n ≤ c1) (hl : n ≤ 1000000) :
    Calls Try.prog 24 #[.agg #[.int .i64 e, .int .u64 t.f0, .int .u64 t.f1, .int .i64 t.f2, .slice A0 n c0], .agg #[.int .i64 e, .int .u64 t.f0, .int .u64 t.f1, .int .i64 t.f2, .slice A1 n c1]] w fun e w' => e = .returned (.bool true) ∧ Below w.heap.size w w' := by
  obtain rfl := h0.1
  refine complineref07_Same.calls (T.length + 1) e t.f0 t.f1 t.f2 A0 c0 T e t.f0 t.f1 t.f2 A1 c1 T true w h0 k0 h1 k1 ?_
  unfold complineref07_Same.f
  rw [same_f T T _ hl (Nat.lt_succ_self _)]
  simp
theorem refNew_no {p : Int} (w : World) (hp : p < 0 ∨ 1024 < p) :
    Calls Try.prog 21 #[.int .i64 p] w fun e w' => ∃ A c, e = .returned (.tuple #[.agg #[.int .i64 0, .slice A 0 c], .int .i64 1]) ∧ Below w.heap.size w w' := by
  refine (complineref07_New.calls p 0 [] 1 w ?_).mono ?_
  · unfold complineref07_New.f
    rcases hp with h | h
    · simp [h]
    · simp [h]
  rintro e w' ⟨v', rfl, g1, hb⟩
  obtain ⟨A, c, rfl⟩ := rp_slice (rp_new g1)
  exact ⟨A, c, rfl, hb⟩
theorem refNew_yes (p : Nat) (w : World) (hp : p ≤ 1024) :
    Calls Try.prog 21 #[.int .i64 (p : Int)] w fun e w' => ∃ A c, e = .returned (.tuple #[.agg #[.int .i64 (p : Int), .slice A 0 c], .int .i64 0]) ∧ RP w' (fun k => w.heap.size ≤ k) (.slice A 0 c) [] ∧ Below w.heap.size w w' := by
  refine (refNew (p : Int) w).mono ?_
  rintro e w' h
  rcases h with ⟨hq, _⟩ | ⟨_, v', rfl, h1, h2⟩
  · omega
  · obtain ⟨A, c, rfl⟩ := rp_slice h1
    exact ⟨A, c, rfl, h1, h2⟩
set_option maxRecDepth 100000 in
set_option maxHeartbeats 4000000 in
theorem made_no (p : Int) (A : Option Addr) (cap : Nat) (ls : List S59) (w : World) (hn : p < 0 ∨ 1024 < p) (hmx : ls.length ≤ 140737488355328) :
    Calls Try.prog 8 #[.int .i64 p, .slice A ls.length cap] w fun e w' => ∃ A0 c0, e = .returned (.tuple #[.pointer none, .agg #[.int .i64 0, .slice A0 0 c0], .bool true]) ∧ Below w.heap.size w w' := by
  have hu27 := Try.underlying27
  have B0 := blk_new w (.cells #[.int .i64 0, .slice none 0 0] 27)
  have H0 : Below w.heap.size w (w.alloc (.cells #[.int .i64 0, .slice none 0 0] 27)) := (Below.refl _ w).alloc (Nat.le_refl _) _
  go_enter Try.func8, Try.ntmps8
  go_wp2_with fail
  go_at_call 19
  refine (new_no p _ hn).mono ?_
  rintro e w1 ⟨rfl, rfl⟩
  simp only []
  go_wp2_with fail
  go_at_call 21
  refine (refNew_no _ hn).mono ?_
  rintro e w2 ⟨A0, c0, rfl, hb2⟩
  have E0 := below_blk hb2 B0 (by simp)
  have z2 := hb2.size
  simp at z2
  have H2 := H0.trans (hb2.mono (by simp))
  simp only []
  have E1 := blk_new w2 (.cells #[.int .i64 0, .slice A0 0 c0] 27)
  have E0' := blk_alloc E0 (.cells #[.int .i64 0, .slice A0 0 c0] 27)
  go_wp2_with fail
  have hne : w.heap.size ≠ w2.heap.size := by omega
  have H3 : Below w.heap.size w (w2.alloc (.cells #[.int .i64 0, .slice A0 0 c0] 27)) := H2.alloc (by omega) _
  generalize w2.alloc (.cells #[.int .i64 0, .slice A0 0 c0] 27) = w3 at *
  have r0 := blk_cell E0' 0
  have r1 := blk_cell E0' 1
  have f0 := blk_frozen E0' 0
  have f1 := blk_frozen E0' 1
  have s0 := blk_cell E1 0
  have s1 := blk_cell E1 1
  have e0 : (w3.setCell ⟨w.heap.size, 0, none⟩ (.int .i64 0)).heap[w.heap.size]? = some (.cells #[.int .i64 0, .slice none 0 0] 27 (0, 0)) := blk_put E0' 0 _ rfl
  have e1 : ((w3.setCell ⟨w.heap.size, 0, none⟩ (.int .i64 0)).setCell ⟨w.heap.size, 1, none⟩ (.slice A0 0 c0)).heap[w.heap.size]? = some (.cells #[.int .i64 0, .slice A0 0 c0] 27 (0, 0)) := blk_put e0 1 _ rfl
  have x0 := blk_cell e1 0
  have x1 := blk_cell e1 1
  have y0 := blk_cell e0 1
  by_cases hz : 0 < ls.length
  · have d0 : decide ((0 : Int) < (ls.length : Int)) = true := decide_eq_true (by omega)
    refine wp_loop_rounds 1 ?_
    rw [rounds_succ]
    go_wp2_with fail
    go_region
    go_wp2_with fail
    exact bodyPost_ret (v := .tuple #[.pointer none, .agg #[.int .i64 0, .slice A0 0 c0], .bool true]) (by simp [results, Try.results8, go_sem, x0, x1]) rfl ⟨_, _, rfl, ((H3.setCell (p := ⟨w.heap.size, 0, none⟩) (by simp) _).setCell (p := ⟨w.heap.size, 1, none⟩) (by simp) _).drew⟩
  · have d0 : decide ((0 : Int) < (ls.length : Int)) = false := decide_eq_false (by omega)
    refine wp_loop_rounds 1 ?_
    rw [rounds_succ]
    go_wp2_with fail
    go_region
    go_wp2_with fail
    exact bodyPost_ret (v := .tuple #[.pointer none, .agg #[.int .i64 0, .slice A0 0 c0], .bool true]) (by simp [results, Try.results8, go_sem, x0, x1]) rfl ⟨_, _, rfl, ((H3.setCell (p := ⟨w.heap.size, 0, none⟩) (by simp) _).setCell (p := ⟨w.heap.size, 1, none⟩) (by simp) _).drew⟩
/-- What made leaves. -/
def MadePost (p : Nat) (T : List S38) (w : World) (e : Ending) (w' : World) : Prop := ∃ (q gT g b : Nat) (v : Value), e = .returned (.tuple #[.pointer (some ⟨q, 0, none⟩), .agg #[.int .i64 (p : Int), v], .bool true]) ∧ WS w w' q gT g b p T ∧ RP w' (fun k => k ≠ q ∧ k ≠ gT ∧ k ≠ b) v T
theorem ws_far {W : World} {s : Nat} (h : WS w W q gT g b p T) (h0 : w.heap.size ≤ s) (hn : s ≠ q ∧ s ≠ gT ∧ s ≠ g ∧ s ≠ b) (j : Nat) (x : Value) : WS w (W.setCell ⟨s, j, none⟩ x) q gT g b p T :=
  ⟨qs_keep h.qs (fun i hi => Below.heap_setCell _ _ _ i (by show i ≠ s; omega)), h.lo, h.bel.setCell (p := ⟨s, j, none⟩) h0 x⟩
theorem ws_lt {W : World} (h : WS w W q gT g b p T) : q < W.heap.size ∧ gT < W.heap.size ∧ g < W.heap.size ∧ b < W.heap.size := (qs_lens h.qs).2
theorem rp_fr {W W' : World} (h : RP W P v T) (k : Fr q gT b W W') (hP : ∀ k, P k → k ≠ q ∧ k ≠ gT ∧ k ≠ b) : RP W' P v T :=
  Kd.V_step h (fun i hi hl => k.block i hl (hP i hi).1 (hP i hi).2.1 (hP i hi).2.2)
theorem fr_cell {W W' : World} (k : Fr q gT b W W') {a : Addr} {v : Value} (h : W.cell? a = some v) (hne : a.block ≠ q ∧ a.block ≠ gT ∧ a.block ≠ b) : W'.cell? a = some v :=
  (World.cell?_of_block (k.block a.block (World.block_lt_of_cell? _ _ h) hne.1 hne.2.1 hne.2.2)).trans h
theorem bd_cell {W W' : World} (k : Below W.drew.heap.size W.drew W') {a : Addr} {v : Value} (h : W.cell? a = some v) : W'.cell? a = some v :=
  (World.cell?_of_block (k.block a.block (World.block_lt_of_cell? _ _ h))).trans h
theorem cell_alloc {W : World} {a : Addr} {v : Value} (h : W.cell? a = some v) (o : Obj) : (W.alloc o).cell? a = some v :=
  (World.cell?_of_block (Below.heap_alloc _ _ _ (World.block_lt_of_cell? _ _ h))).trans h
theorem kw0 {W W' : World} (k : Below W.drew.heap.size W.drew W') : Below W.heap.size W W' := (show Below W.heap.size W W.drew from ⟨rfl, rfl, rfl, Nat.le_refl _, fun _ _ => rfl⟩).trans k
theorem kw1 {W W' : World} {o : Obj} (k : Below (W.alloc o).drew.heap.size (W.alloc o).drew W') : Below W.heap.size W W' := ((Below.refl _ W).alloc (Nat.le_refl _) o).trans ((kw0 k).mono (by simp))
theorem kw2 {W W' : World} {o o' : Obj} (k : Below ((W.alloc o).alloc o').drew.heap.size ((W.alloc o).alloc o').drew W') : Below W.heap.size W W' := ((Below.refl _ W).alloc (Nat.le_refl _) o).trans ((kw1 k).mono (by simp))
theorem nx0 {W : World} {j : Nat} (h : W.drew.heap.size ≤ j) : W.heap.size + 0 ≤ j := h
theorem nx1 {W : World} {o : Obj} {j : Nat} (h : (W.alloc o).drew.heap.size ≤ j) : W.heap.size + 1 ≤ j := by
  have h' : (W.alloc o).heap.size ≤ j := h
  simpa using h'
theorem nx2 {W : World} {o o' : Obj} {j : Nat} (h : ((W.alloc o).alloc o').drew.heap.size ≤ j) : W.heap.size + 2 ≤ j := by
  have h' : ((W.alloc o).alloc o').heap.size ≤ j := h
  simpa using h'
theorem rp_C {n c : Nat} {A : Option Addr} (h : RP w P (.slice A n c) T) (hn : n = T.length) : Kd.C k38 w A n T ∧ n ≤ c := by
  subst hn
  have := Kd.V_reads' h
  exact ⟨this.2.2, this.2.1⟩
theorem bel_cell {W W' : World} (k : Below W.heap.size W W') {a : Addr} {v : Value} (h : W.cell? a = some v) : W'.cell? a = some v :=
  (World.cell?_of_block (k.block a.block (World.block_lt_of_cell? _ _ h))).trans h
set_option maxRecDepth 100000 in
set_option maxHeartbeats 4000000 in
theorem made_yes (p : Nat) (A : Option Addr) (cap : Nat) (ls : List S59) (w : World) (hn : p ≤ 1024) (hC : Kd.C k59 w A ls.length ls) (hmx : ls.length ≤ 140737488355328) :
    Calls Try.prog 8 #[.int .i64 (p : Int), .slice A ls.length cap] w (MadePost p (mActs p [] ls) w) := by
  have hu27 := Try.underlying27
  have hu59 := Try.underlying59
  have hu56 := Try.underlying56
  have B0 := blk_new w (.cells #[.int .i64 0, .slice none 0 0] 27)
  have H0 : Below w.heap.size w (w.alloc (.cells #[.int .i64 0, .slice none 0 0] 27)) := (Below.refl _ w).alloc (Nat.le_refl _) _
  go_enter Try.func8, Try.ntmps8
  go_wp2_with fail
  go_at_call 19
  refine (new_T p _ hn).mono ?_
  rintro e w1 ⟨q, gT, g, b, rfl, hC1, hlo, k1⟩
  rw [World.size_alloc] at hlo
  have z1 := k1.size
  rw [World.size_alloc] at z1
  have S1 : WS w w1 q gT g b p [] := ⟨hC1, by omega, H0.trans (k1.mono (by simp))⟩
  have E1 := below_blk k1 B0 (by simp)
  simp only []
  go_wp2_with fail
  go_at_call 21
  refine (refNew_yes p _ hn).mono ?_
  rintro e w2 ⟨A0, c0, rfl, hv, k2⟩
  have S2 := S1.below k2
  have E2 := below_blk k2 E1 (blk_lt E1)
  have z2 := k2.size
  have hl1 := ws_lt S1
  have E3 := blk_alloc E2 (.cells #[.int .i64 (p : Int), .slice A0 0 c0] 27)
  have F3 := blk_new w2 (.cells #[.int .i64 (p : Int), .slice A0 0 c0] 27)
  have S3 := S2.alloc (.cells #[.int .i64 (p : Int), .slice A0 0 c0] 27)
  have hv3 : RP (w2.alloc (.cells #[.int .i64 (p : Int), .slice A0 0 c0] 27)) (fun k => k ≠ q ∧ k ≠ gT ∧ k ≠ b ∧ k ≠ w.heap.size ∧ k ≠ w2.heap.size) (.slice A0 0 c0) [] := rp_mono (rp_alloc (rp_bound hv) _) (fun k hk => by omega)
  have z3 : w2.heap.size < (w2.alloc (.cells #[.int .i64 (p : Int), .slice A0 0 c0] 27)).heap.size := by simp
  have hoff : w2.heap.size ≠ q ∧ w2.heap.size ≠ gT ∧ w2.heap.size ≠ g ∧ w2.heap.size ≠ b := by omega
  have hoff0 : w.heap.size ≠ q ∧ w.heap.size ≠ gT ∧ w.heap.size ≠ g ∧ w.heap.size ≠ b := by omega
  have hbm' : w.heap.size < w2.heap.size := by omega
  simp only []
  go_wp2_with fail
  generalize w2.alloc (.cells #[.int .i64 (p : Int), .slice A0 0 c0] 27) = w3 at *
  obtain ⟨bm, hbm⟩ : ∃ bm, bm = w2.heap.size := ⟨_, rfl⟩
  rw [← hbm] at F3 hv3 z3 hoff hbm' ⊢
  clear hbm E2 S2 hv k2 z2 w2 B0 H0 E1 S1 k1 hC1 hlo hl1 z1
  go_loopw [11] (fun i wr => ∃ (k : Nat) (A' : Option Addr) (N' c' : Nat), i = .int .i64 k ∧ k ≤ ls.length ∧ N' = (mActs p [] (ls.take k)).length ∧ WS w wr q gT g b p (mActs p [] (ls.take k)) ∧ wr.heap[bm]? = some (.cells #[.int .i64 (p : Int), .slice A' N' c'] 27 (0, 0)) ∧ RP wr (fun k => k ≠ q ∧ k ≠ gT ∧ k ≠ b ∧ k ≠ w.heap.size ∧ k ≠ bm) (.slice A' N' c') (mActs p [] (ls.take k)) ∧
    wr.heap[w.heap.size]? = some (.cells #[.int .i64 0, .slice none 0 0] 27 (0, 0))) (fun i _ => ls.length - (intOf i).toNat)
  case atStart => exact ⟨0, A0, 0, c0, rfl, Nat.zero_le _, rfl, S3, F3, hv3, E3⟩
  case round =>
    obtain ⟨k, A', N', c', rfl, hk, hN, Sk, Fk, hvk, Ek⟩ := hrel
    clear S3 F3 hv3 E3 z3
    by_cases hlt : k < ls.length
    · obtain ⟨ad, rfl, a0, a1, a2, a3, a4⟩ := at_T59 (Kd.C_below hC Sk.bel) (k : Int) (by omega) (by omega)
      have hadb := at_T59_lt hC k hlt
      rw [Int.toNat_natCast] at a0 a1 a2 a3 a4
      have d0 : decide ((k : Int) < (ls.length : Int)) = true := decide_eq_true (by omega)
      have hsn := Lib.hid (mActs_snoc p [] ls k hlt)
      have hN' := Lib.hid hN
      clear hN
      have hk0 : (0 : Int) ≤ (k : Int) := by omega
      have hk1 : (k : Int) < (ls.length : Int) := by omega
      have hl9 : (mActs p [] (ls.take k)).length ≤ 2048 := (qs_lens Sk.qs).1
      have hlo := Sk.lo
      generalize hTk : mActs p [] (ls.take k) = Tk at *
      generalize rd_T59 ls (k : Int) = ak at *
      obtain ⟨kd, ⟨t0, t1, t2⟩, nw⟩ := ak
      simp only at a0 a1 a2 a3 a4
      go_wp2_with fail
      go_at_call 22
      refine (do_T kd ⟨t0, t1, t2⟩ nw Sk.qs).mono ?_
      rintro e w4 ⟨v, rfl, rv, h4, k4⟩
      have hr := Lib.hid (show mDo p Tk kd ⟨t0, t1, t2⟩ nw = ⟨(mDo p Tk kd ⟨t0, t1, t2⟩ nw).T, (mDo p Tk kd ⟨t0, t1, t2⟩ nw).e, (mDo p Tk kd ⟨t0, t1, t2⟩ nw).t, (mDo p Tk kd ⟨t0, t1, t2⟩ nw).d⟩ from rfl)
      have hTT : Hid (mActs p [] (ls.take (k + 1)) = (mDo p Tk kd ⟨t0, t1, t2⟩ nw).T) := Lib.hid hsn.out
      have hld := mDo_len p Tk kd ⟨t0, t1, t2⟩ nw
      generalize (mDo p Tk kd ⟨t0, t1, t2⟩ nw).T = rT at *
      generalize (mDo p Tk kd ⟨t0, t1, t2⟩ nw).e = re at *
      generalize (mDo p Tk kd ⟨t0, t1, t2⟩ nw).t = rt at *
      generalize (mDo p Tk kd ⟨t0, t1, t2⟩ nw).d = rd at *
      obtain ⟨r0, r1, r2⟩ := rt
      obtain ⟨Av, cv, rfl⟩ := rp_slice rv
      obtain ⟨Nd, hNd⟩ : ∃ n, n = rd.length := ⟨_, rfl⟩
      rw [← hNd] at rv hld ⊢
      have hNd' := Lib.hid hNd
      clear hNd
      have S4 := Sk.fr h4 k4
      have hq4 := ws_lt Sk
      have hbm1 := blk_lt Fk
      have hw1 := blk_lt Ek
      have F4 := fr_blk k4 Fk (by omega)
      have E4 := fr_blk k4 Ek (by omega)
      have hv4 := rp_fr hvk k4 (fun j hj => by omega)
      have b0 := fr_cell k4 a0 (by show (ad.add (k * 5)).block ≠ q ∧ (ad.add (k * 5)).block ≠ gT ∧ (ad.add (k * 5)).block ≠ b; omega)
      have b1 := fr_cell k4 a1 (by show (ad.add (k * 5)).block ≠ q ∧ (ad.add (k * 5)).block ≠ gT ∧ (ad.add (k * 5)).block ≠ b; omega)
      have b2 := fr_cell k4 a2 (by show (ad.add (k * 5)).block ≠ q ∧ (ad.add (k * 5)).block ≠ gT ∧ (ad.add (k * 5)).block ≠ b; omega)
      have b3 := fr_cell k4 a3 (by show (ad.add (k * 5)).block ≠ q ∧ (ad.add (k * 5)).block ≠ gT ∧ (ad.add (k * 5)).block ≠ b; omega)
      have b4 := fr_cell k4 a4 (by show (ad.add (k * 5)).block ≠ q ∧ (ad.add (k * 5)).block ≠ gT ∧ (ad.add (k * 5)).block ≠ b; omega)
      have hz4 := k4.size
      replace rv := rp_bound rv
      clear a0 a1 a2 a3 a4 hvk Fk Ek h4 k4 Sk
      have G5 := blk_new w4 (.cells #[.int .i64 re, .int .u64 r0, .int .u64 r1, .int .i64 r2, .slice Av Nd cv] 56)
      have B5 := (Below.refl w4.heap.size w4).alloc (Nat.le_refl _) (.cells #[.int .i64 re, .int .u64 r0, .int .u64 r1, .int .i64 r2, .slice Av Nd cv] 56)
      have hz5 : (w4.alloc (.cells #[.int .i64 re, .int .u64 r0, .int .u64 r1, .int .i64 r2, .slice Av Nd cv] 56)).heap.size = w4.heap.size + 1 := by simp
      replace S4 := S4.below B5
      replace F4 := bel_blk B5 F4
      replace E4 := bel_blk B5 E4
      replace hv4 := rp_bound (rp_below hv4 B5)
      replace rv := rp_below rv B5
      replace b0 := bel_cell B5 b0
      replace b1 := bel_cell B5 b1
      replace b2 := bel_cell B5 b2
      replace b3 := bel_cell B5 b3
      replace b4 := bel_cell B5 b4
      simp only [tov]
      go_wp2_with fail
      generalize w4.alloc (.cells #[.int .i64 re, .int .u64 r0, .int .u64 r1, .int .i64 r2, .slice Av Nd cv] 56) = W5 at *
      have f0 := blk_cell F4 0
      have f1 := blk_cell F4 1
      clear B5
      have hz5' := Lib.hid hz5
      have na1 : bm ≠ W5.heap.size := by omega
      have na2 : W5.heap.size ≠ bm := by omega
      have na3 : bm ≠ W5.heap.size + 1 := by omega
      have na4 : W5.heap.size + 1 ≠ bm := by omega
      have nb1 : (ad.add (k * 5)).block ≠ W5.heap.size := by omega
      have nb2 : W5.heap.size ≠ (ad.add (k * 5)).block := by omega
      have nb3 : (ad.add (k * 5)).block ≠ W5.heap.size + 1 := by omega
      have nb4 : W5.heap.size + 1 ≠ (ad.add (k * 5)).block := by omega
      clear hz5
      go_region_held3 (fun w' => w'.cell? ⟨bm, 0, none⟩ = some (.int .i64 (p : Int)) ∧ w'.cell? ⟨bm, 1, none⟩ = some (.slice A' N' c') ∧ w'.cell? (ad.add (k * 5)) = some (.int .i64 kd) ∧ w'.cell? ⟨(ad.add (k * 5)).block, (ad.add (k * 5)).off + 1, none⟩ = some (.int .u64 t0) ∧ w'.cell? ⟨(ad.add (k * 5)).block, (ad.add (k * 5)).off + 2, none⟩ = some (.int .u64 t1) ∧ w'.cell? ⟨(ad.add (k * 5)).block, (ad.add (k * 5)).off + 3, none⟩ = some (.int .i64 t2) ∧ w'.cell? ⟨(ad.add (k * 5)).block, (ad.add (k * 5)).off + 4, none⟩ = some (.int .u64 nw)) (go_keep) ((go_at_call 23; refine (rdo_T (p := p) (T := Tk) (P := fun j => (j ≠ q ∧ j ≠ gT ∧ j ≠ b ∧ j ≠ w.heap.size ∧ j ≠ bm) ∧ j < W5.heap.size) kd ⟨t0, t1, t2⟩ nw ?_ hl9).mono ?_; (first | exact rp_drew hv4 | exact rp_drew (rp_alloc hv4 _) | exact rp_drew (rp_alloc (rp_alloc hv4 _) _)); rintro e w6 hq; rw [hr.out] at hq; obtain ⟨v6, u6, rfl, h6, hu6, k6⟩ := hq; obtain ⟨A6, c6, rfl⟩ := rp_slice h6; obtain ⟨Au, cu, rfl⟩ := rp_slice hu6; obtain ⟨N6, hN6⟩ : ∃ n, n = rT.length := ⟨_, rfl⟩; rw [← hN6] at h6 ⊢; have hN6' := Lib.hid hN6; clear hN6; simp only [] at hu6; rw [← hNd'.out] at hu6 ⊢; simp only [tov]; (first | (have F6 := bd_blk k6 F4; have g0 := fun {a x} (h : W5.cell? a = some x) => bd_cell k6 h) | (have m0 := bd_blk k6 (World.alloc_heap_new W5 (.cells #[.int .i64 0, .slice none 0 0] 27)); obtain ⟨m0c0, m0c1⟩ := cell_of2 m0; have m0f0 := blk_frozen m0 0; have m0f1 := blk_frozen m0 1; have m0l := blk_lt m0; have F6 := bd_blk k6 (blk_alloc F4 _); have g0 := fun {a x} (h : W5.cell? a = some x) => bd_cell k6 (cell_alloc h _)) | (have m0 := bd_blk k6 (World.alloc_heap_new W5 (.cells #[.int .i64 0, .int .u64 0, .int .u64 0, .int .i64 0, .slice none 0 0] 56)); obtain ⟨⟨⟨⟨m0c0, m0c1⟩, m0c2⟩, m0c3⟩, m0c4⟩ := cell_of5 m0; obtain ⟨⟨⟨⟨m0f0, m0f1⟩, m0f2⟩, m0f3⟩, m0f4⟩ := froz5 m0; have m0l := blk_lt m0; have F6 := bd_blk k6 (blk_alloc F4 _); have g0 := fun {a x} (h : W5.cell? a = some x) => bd_cell k6 (cell_alloc h _)) | (have m0 := bd_blk k6 (blk_alloc (World.alloc_heap_new W5 (.cells #[.int .i64 0, .slice none 0 0] 27)) (.cells #[.int .i64 0, .int .u64 0, .int .u64 0, .int .i64 0, .slice none 0 0] 56)); obtain ⟨m0c0, m0c1⟩ := cell_of2 m0; have m0f0 := blk_frozen m0 0; have m0f1 := blk_frozen m0 1; have m0l := blk_lt m0; have m1 := bd_blk k6 (World.alloc_heap_new (W5.alloc (.cells #[.int .i64 0, .slice none 0 0] 27)) (.cells #[.int .i64 0, .int .u64 0, .int .u64 0, .int .i64 0, .slice none 0 0] 56)); simp only [World.size_alloc] at m1; obtain ⟨⟨⟨⟨m1c0, m1c1⟩, m1c2⟩, m1c3⟩, m1c4⟩ := cell_of5 m1; obtain ⟨⟨⟨⟨m1f0, m1f1⟩, m1f2⟩, m1f3⟩, m1f4⟩ := froz5 m1; have m1l := blk_lt m1; have F6 := bd_blk k6 (blk_alloc (blk_alloc F4 _) _); have g0 := fun {a x} (h : W5.cell? a = some x) => bd_cell k6 (cell_alloc (cell_alloc h _) _)) | (have m0 := bd_blk k6 (blk_alloc (World.alloc_heap_new W5 (.cells #[.int .i64 0, .int .u64 0, .int .u64 0, .int .i64 0, .slice none 0 0] 56)) (.cells #[.int .i64 0, .slice none 0 0] 27)); obtain ⟨⟨⟨⟨m0c0, m0c1⟩, m0c2⟩, m0c3⟩, m0c4⟩ := cell_of5 m0; obtain ⟨⟨⟨⟨m0f0, m0f1⟩, m0f2⟩, m0f3⟩, m0f4⟩ := froz5 m0; have m0l := blk_lt m0; have m1 := bd_blk k6 (World.alloc_heap_new (W5.alloc (.cells #[.int .i64 0, .int .u64 0, .int .u64 0, .int .i64 0, .slice none 0 0] 56)) (.cells #[.int .i64 0, .slice none 0 0] 27)); simp only [World.size_alloc] at m1; obtain ⟨m1c0, m1c1⟩ := cell_of2 m1; have m1f0 := blk_frozen m1 0; have m1f1 := blk_frozen m1 1; have m1l := blk_lt m1; have F6 := bd_blk k6 (blk_alloc (blk_alloc F4 _) _); have g0 := fun {a x} (h : W5.cell? a = some x) => bd_cell k6 (cell_alloc (cell_alloc h _) _))); have kw : Below W5.heap.size W5 w6 := (by first | exact kw0 k6 | exact kw1 k6 | exact kw2 k6); (first | (have h7 : RP w6 (fun j => ((j ≠ q ∧ j ≠ gT ∧ j ≠ b ∧ j ≠ w.heap.size ∧ j ≠ bm) ∧ j < W5.heap.size) ∨ W5.heap.size + 0 ≤ j) (.slice A6 N6 c6) rT := rp_mono h6 (fun j hj => hj.imp id nx0); have hu7 : RP w6 (fun j => W5.heap.size + 0 ≤ j) (.slice Au Nd cu) rd := rp_mono hu6 (fun j hj => nx0 hj)) | (have h7 : RP w6 (fun j => ((j ≠ q ∧ j ≠ gT ∧ j ≠ b ∧ j ≠ w.heap.size ∧ j ≠ bm) ∧ j < W5.heap.size) ∨ W5.heap.size + 1 ≤ j) (.slice A6 N6 c6) rT := rp_mono h6 (fun j hj => hj.imp id nx1); have hu7 : RP w6 (fun j => W5.heap.size + 1 ≤ j) (.slice Au Nd cu) rd := rp_mono hu6 (fun j hj => nx1 hj)) | (have h7 : RP w6 (fun j => ((j ≠ q ∧ j ≠ gT ∧ j ≠ b ∧ j ≠ w.heap.size ∧ j ≠ bm) ∧ j < W5.heap.size) ∨ W5.heap.size + 2 ≤ j) (.slice A6 N6 c6) rT := rp_mono h6 (fun j hj => hj.imp id nx2); have hu7 : RP w6 (fun j => W5.heap.size + 2 ≤ j) (.slice Au Nd cu) rd := rp_mono hu6 (fun j hj => nx2 hj))); have x0 := blk_cell F6 0; have x1 := blk_cell F6 1; have y0 := g0 b0; have y1 := g0 b1; have y2 := g0 b2; have y3 := g0 b3; have y4 := g0 b4))
      · have M13 : ((w6.alloc (.cells #[.int .i64 (p : Int), .slice A6 N6 c6] 27)).alloc (.cells #[.int .i64 re, .int .u64 r0, .int .u64 r1, .int .i64 r2, .slice Au Nd cu] 56)).heap[w6.heap.size]? = some (.cells #[.int .i64 (p : Int), .slice A6 N6 c6] 27 (0, 0)) := blk_alloc (World.alloc_heap_new w6 (.cells #[.int .i64 (p : Int), .slice A6 N6 c6] 27)) (.cells #[.int .i64 re, .int .u64 r0, .int .u64 r1, .int .i64 r2, .slice Au Nd cu] 56)
        have M14 : ((w6.alloc (.cells #[.int .i64 (p : Int), .slice A6 N6 c6] 27)).alloc (.cells #[.int .i64 re, .int .u64 r0, .int .u64 r1, .int .i64 r2, .slice Au Nd cu] 56)).heap[w6.heap.size + 1]? = some (.cells #[.int .i64 re, .int .u64 r0, .int .u64 r1, .int .i64 r2, .slice Au Nd cu] 56 (0, 0)) := (by have h := World.alloc_heap_new (w6.alloc (.cells #[.int .i64 (p : Int), .slice A6 N6 c6] 27)) (.cells #[.int .i64 re, .int .u64 r0, .int .u64 r1, .int .i64 r2, .slice Au Nd cu] 56); rw [World.size_alloc] at h; exact h)
        have kk : Fr (w6.heap.size) (w6.heap.size + 1) (w6.heap.size + 1) w6 ((w6.alloc (.cells #[.int .i64 (p : Int), .slice A6 N6 c6] 27)).alloc (.cells #[.int .i64 re, .int .u64 r0, .int .u64 r1, .int .i64 r2, .slice Au Nd cu] 56)) := (((Fr.refl (w6.heap.size) (w6.heap.size + 1) (w6.heap.size + 1) w6).alloc _).alloc _)
        have hs6 := kw.size
        have hl4 := ws_lt S4
        have hbm4 := blk_lt F4
        have hw4 := blk_lt E4
        have H13 : W5.heap.size ≤ w6.heap.size := by omega
        have H14 : W5.heap.size ≤ w6.heap.size + 1 := by omega
        have kb : Below W5.heap.size W5 ((w6.alloc (.cells #[.int .i64 (p : Int), .slice A6 N6 c6] 27)).alloc (.cells #[.int .i64 re, .int .u64 r0, .int .u64 r1, .int .i64 r2, .slice Au Nd cu] 56)) := kw.trans (kk.below hs6 H13 H14 H14)
        have h9 : RP ((w6.alloc (.cells #[.int .i64 (p : Int), .slice A6 N6 c6] 27)).alloc (.cells #[.int .i64 re, .int .u64 r0, .int .u64 r1, .int .i64 r2, .slice Au Nd cu] 56)) (fun j => j ≠ q ∧ j ≠ gT ∧ j ≠ b ∧ j ≠ w.heap.size ∧ j ≠ bm) (.slice A6 N6 c6) rT := rp_mono (rp_fr (rp_bound h7) kk (fun j hj => by omega)) (fun j hj => by omega)
        have hu9 : RP ((w6.alloc (.cells #[.int .i64 (p : Int), .slice A6 N6 c6] 27)).alloc (.cells #[.int .i64 re, .int .u64 r0, .int .u64 r1, .int .i64 r2, .slice Au Nd cu] 56)) (fun _ => True) (.slice Au Nd cu) rd := rp_mono (rp_fr (rp_bound hu7) kk (fun j hj => by omega)) (fun _ _ => trivial)
        have hneb : bm ≠ w6.heap.size := by omega
        have hneb' : w6.heap.size ≠ bm := by omega
        have S9 := S4.below kb
        have F9 := bel_blk kb F4
        have E9 := bel_blk kb E4
        have G9 := bel_blk kb G5
        have rv9 := rp_below rv kb
        rename_i hHeld
        clear hHeld kb kk kw h7 hu7 hs6 hl4 hbm4 hw4 H13 H14 x0 x1 y0 y1 y2 y3 y4 g0 F6 f0 f1 k6 na1 na2 na3 na4 nb1 nb2 nb3 nb4 b0 b1 b2 b3 b4 hv4 F4 E4 G5 S4 rv hz5' hr hadb
        generalize (w6.alloc (.cells #[.int .i64 (p : Int), .slice A6 N6 c6] 27)).alloc (.cells #[.int .i64 re, .int .u64 r0, .int .u64 r1, .int .i64 r2, .slice Au Nd cu] 56) = W9 at *
        generalize w6.heap.size + 1 = m14 at *
        generalize w6.heap.size = m13 at *
        obtain ⟨⟨⟨⟨u0, u1⟩, u2⟩, u3⟩, u4⟩ := cell_of5 G9
        obtain ⟨⟨⟨⟨v0, v1⟩, v2⟩, v3⟩, v4⟩ := cell_of5 M14
        go_wp2_with fail
        go_at_call 24
        refine (same7 (T := rd) re ⟨r0, r1, r2⟩ (rp_C rv9 hNd'.out).1 (rp_C rv9 hNd'.out).2 (rp_C hu9 hNd'.out).1 (rp_C hu9 hNd'.out).2 (by omega)).mono ?_
        rintro e w10 ⟨rfl, k10⟩
        replace S9 := S9.below k10
        replace F9 := bel_blk k10 F9
        replace E9 := bel_blk k10 E9
        replace M13 := bel_blk k10 M13
        replace h9 := rp_below h9 k10
        clear k10 u0 u1 u2 u3 u4 v0 v1 v2 v3 v4 G9 M14 rv9 hu9
        have hlb := ws_lt S9
        have hbl := blk_lt F9
        obtain ⟨u0, u1⟩ := cell_of2 M13
        obtain ⟨v0, v1⟩ := cell_of2 F9
        have v2 := blk_frozen F9 0
        have v3 := blk_frozen F9 1
        simp only []
        go_wp2_with fail
        go_roundw
        case rel =>
          have e1 := put2 F9 (.int .i64 (p : Int)) (.slice A6 N6 c6)
          have hT1 : mActs p [] (ls.take (k + 1)) = rT := by first | exact hsn.out | exact hTT.out
          refine ⟨k + 1, A6, N6, c6, by simp, by omega, by rw [hT1]; exact hN6'.out, ?_, e1, ?_, (far2 (by omega) _ _).trans E9⟩
          case refine_2 => rw [hT1]; exact rp2 h9 (fun j hj => hj.2.2.2.2) _ _
          rw [hT1]
          exact ws_far (ws_far S9 (by omega) (by omega) 0 _) (by omega) (by omega) 1 _
        case measure => simp [intOf]; omega
      · have M13 : ((w6.alloc (.cells #[.int .i64 re, .int .u64 r0, .int .u64 r1, .int .i64 r2, .slice Au Nd cu] 56)).alloc (.cells #[.int .i64 (p : Int), .slice A6 N6 c6] 27)).heap[w6.heap.size + 1]? = some (.cells #[.int .i64 (p : Int), .slice A6 N6 c6] 27 (0, 0)) := (by have h := World.alloc_heap_new (w6.alloc (.cells #[.int .i64 re, .int .u64 r0, .int .u64 r1, .int .i64 r2, .slice Au Nd cu] 56)) (.cells #[.int .i64 (p : Int), .slice A6 N6 c6] 27); rw [World.size_alloc] at h; exact h)
        have M14 : ((w6.alloc (.cells #[.int .i64 re, .int .u64 r0, .int .u64 r1, .int .i64 r2, .slice Au Nd cu] 56)).alloc (.cells #[.int .i64 (p : Int), .slice A6 N6 c6] 27)).heap[w6.heap.size]? = some (.cells #[.int .i64 re, .int .u64 r0, .int .u64 r1, .int .i64 r2, .slice Au Nd cu] 56 (0, 0)) := blk_alloc (World.alloc_heap_new w6 (.cells #[.int .i64 re, .int .u64 r0, .int .u64 r1, .int .i64 r2, .slice Au Nd cu] 56)) (.cells #[.int .i64 (p : Int), .slice A6 N6 c6] 27)
        have kk : Fr (w6.heap.size + 1) (w6.heap.size) (w6.heap.size) w6 ((w6.alloc (.cells #[.int .i64 re, .int .u64 r0, .int .u64 r1, .int .i64 r2, .slice Au Nd cu] 56)).alloc (.cells #[.int .i64 (p : Int), .slice A6 N6 c6] 27)) := (((Fr.refl (w6.heap.size + 1) (w6.heap.size) (w6.heap.size) w6).alloc _).alloc _)
        have hs6 := kw.size
        have hl4 := ws_lt S4
        have hbm4 := blk_lt F4
        have hw4 := blk_lt E4
        have H13 : W5.heap.size ≤ w6.heap.size + 1 := by omega
        have H14 : W5.heap.size ≤ w6.heap.size := by omega
        have kb : Below W5.heap.size W5 ((w6.alloc (.cells #[.int .i64 re, .int .u64 r0, .int .u64 r1, .int .i64 r2, .slice Au Nd cu] 56)).alloc (.cells #[.int .i64 (p : Int), .slice A6 N6 c6] 27)) := kw.trans (kk.below hs6 H13 H14 H14)
        have h9 : RP ((w6.alloc (.cells #[.int .i64 re, .int .u64 r0, .int .u64 r1, .int .i64 r2, .slice Au Nd cu] 56)).alloc (.cells #[.int .i64 (p : Int), .slice A6 N6 c6] 27)) (fun j => j ≠ q ∧ j ≠ gT ∧ j ≠ b ∧ j ≠ w.heap.size ∧ j ≠ bm) (.slice A6 N6 c6) rT := rp_mono (rp_fr (rp_bound h7) kk (fun j hj => by omega)) (fun j hj => by omega)
        have hu9 : RP ((w6.alloc (.cells #[.int .i64 re, .int .u64 r0, .int .u64 r1, .int .i64 r2, .slice Au Nd cu] 56)).alloc (.cells #[.int .i64 (p : Int), .slice A6 N6 c6] 27)) (fun _ => True) (.slice Au Nd cu) rd := rp_mono (rp_fr (rp_bound hu7) kk (fun j hj => by omega)) (fun _ _ => trivial)
        have hneb : bm ≠ w6.heap.size + 1 := by omega
        have hneb' : w6.heap.size + 1 ≠ bm := by omega
        have S9 := S4.below kb
        have F9 := bel_blk kb F4
        have E9 := bel_blk kb E4
        have G9 := bel_blk kb G5
        have rv9 := rp_below rv kb
        rename_i hHeld
        clear hHeld kb kk kw h7 hu7 hs6 hl4 hbm4 hw4 H13 H14 x0 x1 y0 y1 y2 y3 y4 g0 F6 f0 f1 k6 na1 na2 na3 na4 nb1 nb2 nb3 nb4 b0 b1 b2 b3 b4 hv4 F4 E4 G5 S4 rv hz5' hr hadb
        generalize (w6.alloc (.cells #[.int .i64 re, .int .u64 r0, .int .u64 r1, .int .i64 r2, .slice Au Nd cu] 56)).alloc (.cells #[.int .i64 (p : Int), .slice A6 N6 c6] 27) = W9 at *
        generalize w6.heap.size + 1 = m13 at *
        generalize w6.heap.size = m14 at *
        obtain ⟨⟨⟨⟨u0, u1⟩, u2⟩, u3⟩, u4⟩ := cell_of5 G9
        obtain ⟨⟨⟨⟨v0, v1⟩, v2⟩, v3⟩, v4⟩ := cell_of5 M14
        go_wp2_with fail
        go_at_call 24
        refine (same7 (T := rd) re ⟨r0, r1, r2⟩ (rp_C rv9 hNd'.out).1 (rp_C rv9 hNd'.out).2 (rp_C hu9 hNd'.out).1 (rp_C hu9 hNd'.out).2 (by omega)).mono ?_
        rintro e w10 ⟨rfl, k10⟩
        replace S9 := S9.below k10
        replace F9 := bel_blk k10 F9
        replace E9 := bel_blk k10 E9
        replace M13 := bel_blk k10 M13
        replace h9 := rp_below h9 k10
        clear k10 u0 u1 u2 u3 u4 v0 v1 v2 v3 v4 G9 M14 rv9 hu9
        have hlb := ws_lt S9
        have hbl := blk_lt F9
        obtain ⟨u0, u1⟩ := cell_of2 M13
        obtain ⟨v0, v1⟩ := cell_of2 F9
        have v2 := blk_frozen F9 0
        have v3 := blk_frozen F9 1
        simp only []
        go_wp2_with fail
        go_roundw
        case rel =>
          have e1 := put2 F9 (.int .i64 (p : Int)) (.slice A6 N6 c6)
          have hT1 : mActs p [] (ls.take (k + 1)) = rT := by first | exact hsn.out | exact hTT.out
          refine ⟨k + 1, A6, N6, c6, by simp, by omega, by rw [hT1]; exact hN6'.out, ?_, e1, ?_, (far2 (by omega) _ _).trans E9⟩
          case refine_2 => rw [hT1]; exact rp2 h9 (fun j hj => hj.2.2.2.2) _ _
          rw [hT1]
          exact ws_far (ws_far S9 (by omega) (by omega) 0 _) (by omega) (by omega) 1 _
        case measure => simp [intOf]; omega
      · have M13 : ((((w6.setCell ⟨W5.heap.size, 0, none⟩ (.int .i64 (p : Int))).setCell ⟨W5.heap.size, 1, none⟩ (.slice A6 N6 c6))).alloc (.cells #[.int .i64 re, .int .u64 r0, .int .u64 r1, .int .i64 r2, .slice Au Nd cu] 56)).heap[W5.heap.size]? = some (.cells #[.int .i64 (p : Int), .slice A6 N6 c6] 27 (0, 0)) := blk_alloc (put2 m0 (.int .i64 (p : Int)) (.slice A6 N6 c6)) (.cells #[.int .i64 re, .int .u64 r0, .int .u64 r1, .int .i64 r2, .slice Au Nd cu] 56)
        have M14 : ((((w6.setCell ⟨W5.heap.size, 0, none⟩ (.int .i64 (p : Int))).setCell ⟨W5.heap.size, 1, none⟩ (.slice A6 N6 c6))).alloc (.cells #[.int .i64 re, .int .u64 r0, .int .u64 r1, .int .i64 r2, .slice Au Nd cu] 56)).heap[w6.heap.size]? = some (.cells #[.int .i64 re, .int .u64 r0, .int .u64 r1, .int .i64 r2, .slice Au Nd cu] 56 (0, 0)) := (by have h := World.alloc_heap_new ((w6.setCell ⟨W5.heap.size, 0, none⟩ (.int .i64 (p : Int))).setCell ⟨W5.heap.size, 1, none⟩ (.slice A6 N6 c6)) (.cells #[.int .i64 re, .int .u64 r0, .int .u64 r1, .int .i64 r2, .slice Au Nd cu] 56); simp only [World.size_setCell] at h; exact h)
        have kk : Fr (W5.heap.size) (w6.heap.size) (w6.heap.size) w6 ((((w6.setCell ⟨W5.heap.size, 0, none⟩ (.int .i64 (p : Int))).setCell ⟨W5.heap.size, 1, none⟩ (.slice A6 N6 c6))).alloc (.cells #[.int .i64 re, .int .u64 r0, .int .u64 r1, .int .i64 r2, .slice Au Nd cu] 56)) := ((((Fr.refl (W5.heap.size) (w6.heap.size) (w6.heap.size) w6).setq 0 (.int .i64 (p : Int))).setq 1 (.slice A6 N6 c6)).alloc _)
        have hs6 := kw.size
        have hl4 := ws_lt S4
        have hbm4 := blk_lt F4
        have hw4 := blk_lt E4
        have hm0 := blk_lt m0
        have H13 : W5.heap.size ≤ W5.heap.size := by omega
        have H14 : W5.heap.size ≤ w6.heap.size := by omega
        have kb : Below W5.heap.size W5 ((((w6.setCell ⟨W5.heap.size, 0, none⟩ (.int .i64 (p : Int))).setCell ⟨W5.heap.size, 1, none⟩ (.slice A6 N6 c6))).alloc (.cells #[.int .i64 re, .int .u64 r0, .int .u64 r1, .int .i64 r2, .slice Au Nd cu] 56)) := kw.trans (kk.below hs6 H13 H14 H14)
        have h9 : RP ((((w6.setCell ⟨W5.heap.size, 0, none⟩ (.int .i64 (p : Int))).setCell ⟨W5.heap.size, 1, none⟩ (.slice A6 N6 c6))).alloc (.cells #[.int .i64 re, .int .u64 r0, .int .u64 r1, .int .i64 r2, .slice Au Nd cu] 56)) (fun j => j ≠ q ∧ j ≠ gT ∧ j ≠ b ∧ j ≠ w.heap.size ∧ j ≠ bm) (.slice A6 N6 c6) rT := rp_mono (rp_fr (rp_bound h7) kk (fun j hj => by omega)) (fun j hj => by omega)
        have hu9 : RP ((((w6.setCell ⟨W5.heap.size, 0, none⟩ (.int .i64 (p : Int))).setCell ⟨W5.heap.size, 1, none⟩ (.slice A6 N6 c6))).alloc (.cells #[.int .i64 re, .int .u64 r0, .int .u64 r1, .int .i64 r2, .slice Au Nd cu] 56)) (fun _ => True) (.slice Au Nd cu) rd := rp_mono (rp_fr (rp_bound hu7) kk (fun j hj => by omega)) (fun _ _ => trivial)
        have hneb : bm ≠ W5.heap.size := by omega
        have hneb' : W5.heap.size ≠ bm := by omega
        have S9 := S4.below kb
        have F9 := bel_blk kb F4
        have E9 := bel_blk kb E4
        have G9 := bel_blk kb G5
        have rv9 := rp_below rv kb
        rename_i hHeld
        clear hHeld kb kk kw h7 hu7 hs6 hl4 hbm4 hw4 H13 H14 x0 x1 y0 y1 y2 y3 y4 g0 F6 f0 f1 k6 na1 na2 na3 na4 nb1 nb2 nb3 nb4 b0 b1 b2 b3 b4 hv4 F4 E4 G5 S4 rv hz5' hr hadb
        clear m0 m0c0 m0c1 m0f0 m0f1 m0l hm0
        generalize (((w6.setCell ⟨W5.heap.size, 0, none⟩ (.int .i64 (p : Int))).setCell ⟨W5.heap.size, 1, none⟩ (.slice A6 N6 c6))).alloc (.cells #[.int .i64 re, .int .u64 r0, .int .u64 r1, .int .i64 r2, .slice Au Nd cu] 56) = W9 at *
        generalize W5.heap.size = m13 at *
        generalize w6.heap.size = m14 at *
        obtain ⟨⟨⟨⟨u0, u1⟩, u2⟩, u3⟩, u4⟩ := cell_of5 G9
        obtain ⟨⟨⟨⟨v0, v1⟩, v2⟩, v3⟩, v4⟩ := cell_of5 M14
        go_wp2_with fail
        go_at_call 24
        refine (same7 (T := rd) re ⟨r0, r1, r2⟩ (rp_C rv9 hNd'.out).1 (rp_C rv9 hNd'.out).2 (rp_C hu9 hNd'.out).1 (rp_C hu9 hNd'.out).2 (by omega)).mono ?_
        rintro e w10 ⟨rfl, k10⟩
        replace S9 := S9.below k10
        replace F9 := bel_blk k10 F9
        replace E9 := bel_blk k10 E9
        replace M13 := bel_blk k10 M13
        replace h9 := rp_below h9 k10
        clear k10 u0 u1 u2 u3 u4 v0 v1 v2 v3 v4 G9 M14 rv9 hu9
        have hlb := ws_lt S9
        have hbl := blk_lt F9
        obtain ⟨u0, u1⟩ := cell_of2 M13
        obtain ⟨v0, v1⟩ := cell_of2 F9
        have v2 := blk_frozen F9 0
        have v3 := blk_frozen F9 1
        simp only []
        go_wp2_with fail
        go_roundw
        case rel =>
          have e1 := put2 F9 (.int .i64 (p : Int)) (.slice A6 N6 c6)
          have hT1 : mActs p [] (ls.take (k + 1)) = rT := by first | exact hsn.out | exact hTT.out
          refine ⟨k + 1, A6, N6, c6, by simp, by omega, by rw [hT1]; exact hN6'.out, ?_, e1, ?_, (far2 (by omega) _ _).trans E9⟩
          case refine_2 => rw [hT1]; exact rp2 h9 (fun j hj => hj.2.2.2.2) _ _
          rw [hT1]
          exact ws_far (ws_far S9 (by omega) (by omega) 0 _) (by omega) (by omega) 1 _
        case measure => simp [intOf]; omega
      · have M13 : ((((((((w6.setCell ⟨W5.heap.size, 0, none⟩ (.int .i64 (p : Int))).setCell ⟨W5.heap.size, 1, none⟩ (.slice A6 N6 c6)).setCell ⟨W5.heap.size + 1, 0, none⟩ (.int .i64 re)).setCell ⟨W5.heap.size + 1, 1, none⟩ (.int .u64 r0)).setCell ⟨W5.heap.size + 1, 2, none⟩ (.int .u64 r1)).setCell ⟨W5.heap.size + 1, 3, none⟩ (.int .i64 r2)).setCell ⟨W5.heap.size + 1, 4, none⟩ (.slice Au Nd cu))).heap[W5.heap.size]? = some (.cells #[.int .i64 (p : Int), .slice A6 N6 c6] 27 (0, 0)) := (far5 (by omega) (.int .i64 re) (.int .u64 r0) (.int .u64 r1) (.int .i64 r2) (.slice Au Nd cu)).trans (put2 m0 (.int .i64 (p : Int)) (.slice A6 N6 c6))
        have M14 : ((((((((w6.setCell ⟨W5.heap.size, 0, none⟩ (.int .i64 (p : Int))).setCell ⟨W5.heap.size, 1, none⟩ (.slice A6 N6 c6)).setCell ⟨W5.heap.size + 1, 0, none⟩ (.int .i64 re)).setCell ⟨W5.heap.size + 1, 1, none⟩ (.int .u64 r0)).setCell ⟨W5.heap.size + 1, 2, none⟩ (.int .u64 r1)).setCell ⟨W5.heap.size + 1, 3, none⟩ (.int .i64 r2)).setCell ⟨W5.heap.size + 1, 4, none⟩ (.slice Au Nd cu))).heap[W5.heap.size + 1]? = some (.cells #[.int .i64 re, .int .u64 r0, .int .u64 r1, .int .i64 r2, .slice Au Nd cu] 56 (0, 0)) := put5 ((far2 (by omega) (.int .i64 (p : Int)) (.slice A6 N6 c6)).trans m1) (.int .i64 re) (.int .u64 r0) (.int .u64 r1) (.int .i64 r2) (.slice Au Nd cu)
        have kk : Fr (W5.heap.size) (W5.heap.size + 1) (W5.heap.size + 1) w6 ((((((((w6.setCell ⟨W5.heap.size, 0, none⟩ (.int .i64 (p : Int))).setCell ⟨W5.heap.size, 1, none⟩ (.slice A6 N6 c6)).setCell ⟨W5.heap.size + 1, 0, none⟩ (.int .i64 re)).setCell ⟨W5.heap.size + 1, 1, none⟩ (.int .u64 r0)).setCell ⟨W5.heap.size + 1, 2, none⟩ (.int .u64 r1)).setCell ⟨W5.heap.size + 1, 3, none⟩ (.int .i64 r2)).setCell ⟨W5.heap.size + 1, 4, none⟩ (.slice Au Nd cu))) := ((((((((Fr.refl (W5.heap.size) (W5.heap.size + 1) (W5.heap.size + 1) w6).setq 0 (.int .i64 (p : Int))).setq 1 (.slice A6 N6 c6)).setT 0 (.int .i64 re)).setT 1 (.int .u64 r0)).setT 2 (.int .u64 r1)).setT 3 (.int .i64 r2)).setT 4 (.slice Au Nd cu))
        have hs6 := kw.size
        have hl4 := ws_lt S4
        have hbm4 := blk_lt F4
        have hw4 := blk_lt E4
        have hm0 := blk_lt m0
        have hm1 := blk_lt m1
        have H13 : W5.heap.size ≤ W5.heap.size := by omega
        have H14 : W5.heap.size ≤ W5.heap.size + 1 := by omega
        have kb : Below W5.heap.size W5 ((((((((w6.setCell ⟨W5.heap.size, 0, none⟩ (.int .i64 (p : Int))).setCell ⟨W5.heap.size, 1, none⟩ (.slice A6 N6 c6)).setCell ⟨W5.heap.size + 1, 0, none⟩ (.int .i64 re)).setCell ⟨W5.heap.size + 1, 1, none⟩ (.int .u64 r0)).setCell ⟨W5.heap.size + 1, 2, none⟩ (.int .u64 r1)).setCell ⟨W5.heap.size + 1, 3, none⟩ (.int .i64 r2)).setCell ⟨W5.heap.size + 1, 4, none⟩ (.slice Au Nd cu))) := kw.trans (kk.below hs6 H13 H14 H14)
        have h9 : RP ((((((((w6.setCell ⟨W5.heap.size, 0, none⟩ (.int .i64 (p : Int))).setCell ⟨W5.heap.size, 1, none⟩ (.slice A6 N6 c6)).setCell ⟨W5.heap.size + 1, 0, none⟩ (.int .i64 re)).setCell ⟨W5.heap.size + 1, 1, none⟩ (.int .u64 r0)).setCell ⟨W5.heap.size + 1, 2, none⟩ (.int .u64 r1)).setCell ⟨W5.heap.size + 1, 3, none⟩ (.int .i64 r2)).setCell ⟨W5.heap.size + 1, 4, none⟩ (.slice Au Nd cu))) (fun j => j ≠ q ∧ j ≠ gT ∧ j ≠ b ∧ j ≠ w.heap.size ∧ j ≠ bm) (.slice A6 N6 c6) rT := rp_mono (rp_fr (rp_bound h7) kk (fun j hj => by omega)) (fun j hj => by omega)
        have hu9 : RP ((((((((w6.setCell ⟨W5.heap.size, 0, none⟩ (.int .i64 (p : Int))).setCell ⟨W5.heap.size, 1, none⟩ (.slice A6 N6 c6)).setCell ⟨W5.heap.size + 1, 0, none⟩ (.int .i64 re)).setCell ⟨W5.heap.size + 1, 1, none⟩ (.int .u64 r0)).setCell ⟨W5.heap.size + 1, 2, none⟩ (.int .u64 r1)).setCell ⟨W5.heap.size + 1, 3, none⟩ (.int .i64 r2)).setCell ⟨W5.heap.size + 1, 4, none⟩ (.slice Au Nd cu))) (fun _ => True) (.slice Au Nd cu) rd := rp_mono (rp_fr (rp_bound hu7) kk (fun j hj => by omega)) (fun _ _ => trivial)
        have hneb : bm ≠ W5.heap.size := by omega
        have hneb' : W5.heap.size ≠ bm := by omega
        have S9 := S4.below kb
        have F9 := bel_blk kb F4
        have E9 := bel_blk kb E4
        have G9 := bel_blk kb G5
        have rv9 := rp_below rv kb
        rename_i hHeld
        clear hHeld kb kk kw h7 hu7 hs6 hl4 hbm4 hw4 H13 H14 x0 x1 y0 y1 y2 y3 y4 g0 F6 f0 f1 k6 na1 na2 na3 na4 nb1 nb2 nb3 nb4 b0 b1 b2 b3 b4 hv4 F4 E4 G5 S4 rv hz5' hr hadb
        clear m0 m0c0 m0c1 m0f0 m0f1 m0l hm0 m1 m1c0 m1c1 m1c2 m1c3 m1c4 m1f0 m1f1 m1f2 m1f3 m1f4 m1l hm1
        generalize (((((((w6.setCell ⟨W5.heap.size, 0, none⟩ (.int .i64 (p : Int))).setCell ⟨W5.heap.size, 1, none⟩ (.slice A6 N6 c6)).setCell ⟨W5.heap.size + 1, 0, none⟩ (.int .i64 re)).setCell ⟨W5.heap.size + 1, 1, none⟩ (.int .u64 r0)).setCell ⟨W5.heap.size + 1, 2, none⟩ (.int .u64 r1)).setCell ⟨W5.heap.size + 1, 3, none⟩ (.int .i64 r2)).setCell ⟨W5.heap.size + 1, 4, none⟩ (.slice Au Nd cu)) = W9 at *
        generalize W5.heap.size + 1 = m14 at *
        generalize W5.heap.size = m13 at *
        obtain ⟨⟨⟨⟨u0, u1⟩, u2⟩, u3⟩, u4⟩ := cell_of5 G9
        obtain ⟨⟨⟨⟨v0, v1⟩, v2⟩, v3⟩, v4⟩ := cell_of5 M14
        go_wp2_with fail
        go_at_call 24
        refine (same7 (T := rd) re ⟨r0, r1, r2⟩ (rp_C rv9 hNd'.out).1 (rp_C rv9 hNd'.out).2 (rp_C hu9 hNd'.out).1 (rp_C hu9 hNd'.out).2 (by omega)).mono ?_
        rintro e w10 ⟨rfl, k10⟩
        replace S9 := S9.below k10
        replace F9 := bel_blk k10 F9
        replace E9 := bel_blk k10 E9
        replace M13 := bel_blk k10 M13
        replace h9 := rp_below h9 k10
        clear k10 u0 u1 u2 u3 u4 v0 v1 v2 v3 v4 G9 M14 rv9 hu9
        have hlb := ws_lt S9
        have hbl := blk_lt F9
        obtain ⟨u0, u1⟩ := cell_of2 M13
        obtain ⟨v0, v1⟩ := cell_of2 F9
        have v2 := blk_frozen F9 0
        have v3 := blk_frozen F9 1
        simp only []
        go_wp2_with fail
        go_roundw
        case rel =>
          have e1 := put2 F9 (.int .i64 (p : Int)) (.slice A6 N6 c6)
          have hT1 : mActs p [] (ls.take (k + 1)) = rT := by first | exact hsn.out | exact hTT.out
          refine ⟨k + 1, A6, N6, c6, by simp, by omega, by rw [hT1]; exact hN6'.out, ?_, e1, ?_, (far2 (by omega) _ _).trans E9⟩
          case refine_2 => rw [hT1]; exact rp2 h9 (fun j hj => hj.2.2.2.2) _ _
          rw [hT1]
          exact ws_far (ws_far S9 (by omega) (by omega) 0 _) (by omega) (by omega) 1 _
        case measure => simp [intOf]; omega
      · have M13 : (((((((w6.setCell ⟨W5.heap.size, 0, none⟩ (.int .i64 re)).setCell ⟨W5.heap.size, 1, none⟩ (.int .u64 r0)).setCell ⟨W5.heap.size, 2, none⟩ (.int .u64 r1)).setCell ⟨W5.heap.size, 3, none⟩ (.int .i64 r2)).setCell ⟨W5.heap.size, 4, none⟩ (.slice Au Nd cu))).alloc (.cells #[.int .i64 (p : Int), .slice A6 N6 c6] 27)).heap[w6.heap.size]? = some (.cells #[.int .i64 (p : Int), .slice A6 N6 c6] 27 (0, 0)) := (by have h := World.alloc_heap_new (((((w6.setCell ⟨W5.heap.size, 0, none⟩ (.int .i64 re)).setCell ⟨W5.heap.size, 1, none⟩ (.int .u64 r0)).setCell ⟨W5.heap.size, 2, none⟩ (.int .u64 r1)).setCell ⟨W5.heap.size, 3, none⟩ (.int .i64 r2)).setCell ⟨W5.heap.size, 4, none⟩ (.slice Au Nd cu)) (.cells #[.int .i64 (p : Int), .slice A6 N6 c6] 27); simp only [World.size_setCell] at h; exact h)
        have M14 : (((((((w6.setCell ⟨W5.heap.size, 0, none⟩ (.int .i64 re)).setCell ⟨W5.heap.size, 1, none⟩ (.int .u64 r0)).setCell ⟨W5.heap.size, 2, none⟩ (.int .u64 r1)).setCell ⟨W5.heap.size, 3, none⟩ (.int .i64 r2)).setCell ⟨W5.heap.size, 4, none⟩ (.slice Au Nd cu))).alloc (.cells #[.int .i64 (p : Int), .slice A6 N6 c6] 27)).heap[W5.heap.size]? = some (.cells #[.int .i64 re, .int .u64 r0, .int .u64 r1, .int .i64 r2, .slice Au Nd cu] 56 (0, 0)) := blk_alloc (put5 m0 (.int .i64 re) (.int .u64 r0) (.int .u64 r1) (.int .i64 r2) (.slice Au Nd cu)) (.cells #[.int .i64 (p : Int), .slice A6 N6 c6] 27)
        have kk : Fr (w6.heap.size) (W5.heap.size) (W5.heap.size) w6 (((((((w6.setCell ⟨W5.heap.size, 0, none⟩ (.int .i64 re)).setCell ⟨W5.heap.size, 1, none⟩ (.int .u64 r0)).setCell ⟨W5.heap.size, 2, none⟩ (.int .u64 r1)).setCell ⟨W5.heap.size, 3, none⟩ (.int .i64 r2)).setCell ⟨W5.heap.size, 4, none⟩ (.slice Au Nd cu))).alloc (.cells #[.int .i64 (p : Int), .slice A6 N6 c6] 27)) := (((((((Fr.refl (w6.heap.size) (W5.heap.size) (W5.heap.size) w6).setT 0 (.int .i64 re)).setT 1 (.int .u64 r0)).setT 2 (.int .u64 r1)).setT 3 (.int .i64 r2)).setT 4 (.slice Au Nd cu)).alloc _)
        have hs6 := kw.size
        have hl4 := ws_lt S4
        have hbm4 := blk_lt F4
        have hw4 := blk_lt E4
        have hm0 := blk_lt m0
        have H13 : W5.heap.size ≤ w6.heap.size := by omega
        have H14 : W5.heap.size ≤ W5.heap.size := by omega
        have kb : Below W5.heap.size W5 (((((((w6.setCell ⟨W5.heap.size, 0, none⟩ (.int .i64 re)).setCell ⟨W5.heap.size, 1, none⟩ (.int .u64 r0)).setCell ⟨W5.heap.size, 2, none⟩ (.int .u64 r1)).setCell ⟨W5.heap.size, 3, none⟩ (.int .i64 r2)).setCell ⟨W5.heap.size, 4, none⟩ (.slice Au Nd cu))).alloc (.cells #[.int .i64 (p : Int), .slice A6 N6 c6] 27)) := kw.trans (kk.below hs6 H13 H14 H14)
        have h9 : RP (((((((w6.setCell ⟨W5.heap.size, 0, none⟩ (.int .i64 re)).setCell ⟨W5.heap.size, 1, none⟩ (.int .u64 r0)).setCell ⟨W5.heap.size, 2, none⟩ (.int .u64 r1)).setCell ⟨W5.heap.size, 3, none⟩ (.int .i64 r2)).setCell ⟨W5.heap.size, 4, none⟩ (.slice Au Nd cu))).alloc (.cells #[.int .i64 (p : Int), .slice A6 N6 c6] 27)) (fun j => j ≠ q ∧ j ≠ gT ∧ j ≠ b ∧ j ≠ w.heap.size ∧ j ≠ bm) (.slice A6 N6 c6) rT := rp_mono (rp_fr (rp_bound h7) kk (fun j hj => by omega)) (fun j hj => by omega)
        have hu9 : RP (((((((w6.setCell ⟨W5.heap.size, 0, none⟩ (.int .i64 re)).setCell ⟨W5.heap.size, 1, none⟩ (.int .u64 r0)).setCell ⟨W5.heap.size, 2, none⟩ (.int .u64 r1)).setCell ⟨W5.heap.size, 3, none⟩ (.int .i64 r2)).setCell ⟨W5.heap.size, 4, none⟩ (.slice Au Nd cu))).alloc (.cells #[.int .i64 (p : Int), .slice A6 N6 c6] 27)) (fun _ => True) (.slice Au Nd cu) rd := rp_mono (rp_fr (rp_bound hu7) kk (fun j hj => by omega)) (fun _ _ => trivial)
        have hneb : bm ≠ w6.heap.size := by omega
        have hneb' : w6.heap.size ≠ bm := by omega
        have S9 := S4.below kb
        have F9 := bel_blk kb F4
        have E9 := bel_blk kb E4
        have G9 := bel_blk kb G5
        have rv9 := rp_below rv kb
        rename_i hHeld
        clear hHeld kb kk kw h7 hu7 hs6 hl4 hbm4 hw4 H13 H14 x0 x1 y0 y1 y2 y3 y4 g0 F6 f0 f1 k6 na1 na2 na3 na4 nb1 nb2 nb3 nb4 b0 b1 b2 b3 b4 hv4 F4 E4 G5 S4 rv hz5' hr hadb
        clear m0 m0c0 m0c1 m0c2 m0c3 m0c4 m0f0 m0f1 m0f2 m0f3 m0f4 m0l hm0
        generalize ((((((w6.setCell ⟨W5.heap.size, 0, none⟩ (.int .i64 re)).setCell ⟨W5.heap.size, 1, none⟩ (.int .u64 r0)).setCell ⟨W5.heap.size, 2, none⟩ (.int .u64 r1)).setCell ⟨W5.heap.size, 3, none⟩ (.int .i64 r2)).setCell ⟨W5.heap.size, 4, none⟩ (.slice Au Nd cu))).alloc (.cells #[.int .i64 (p : Int), .slice A6 N6 c6] 27) = W9 at *
        generalize w6.heap.size = m13 at *
        generalize W5.heap.size = m14 at *
        obtain ⟨⟨⟨⟨u0, u1⟩, u2⟩, u3⟩, u4⟩ := cell_of5 G9
        obtain ⟨⟨⟨⟨v0, v1⟩, v2⟩, v3⟩, v4⟩ := cell_of5 M14
        go_wp2_with fail
        go_at_call 24
        refine (same7 (T := rd) re ⟨r0, r1, r2⟩ (rp_C rv9 hNd'.out).1 (rp_C rv9 hNd'.out).2 (rp_C hu9 hNd'.out).1 (rp_C hu9 hNd'.out).2 (by omega)).mono ?_
        rintro e w10 ⟨rfl, k10⟩
        replace S9 := S9.below k10
        replace F9 := bel_blk k10 F9
        replace E9 := bel_blk k10 E9
        replace M13 := bel_blk k10 M13
        replace h9 := rp_below h9 k10
        clear k10 u0 u1 u2 u3 u4 v0 v1 v2 v3 v4 G9 M14 rv9 hu9
        have hlb := ws_lt S9
        have hbl := blk_lt F9
        obtain ⟨u0, u1⟩ := cell_of2 M13
        obtain ⟨v0, v1⟩ := cell_of2 F9
        have v2 := blk_frozen F9 0
        have v3 := blk_frozen F9 1
        simp only []
        go_wp2_with fail
        go_roundw
        case rel =>
          have e1 := put2 F9 (.int .i64 (p : Int)) (.slice A6 N6 c6)
          have hT1 : mActs p [] (ls.take (k + 1)) = rT := by first | exact hsn.out | exact hTT.out
          refine ⟨k + 1, A6, N6, c6, by simp, by omega, by rw [hT1]; exact hN6'.out, ?_, e1, ?_, (far2 (by omega) _ _).trans E9⟩
          case refine_2 => rw [hT1]; exact rp2 h9 (fun j hj => hj.2.2.2.2) _ _
          rw [hT1]
          exact ws_far (ws_far S9 (by omega) (by omega) 0 _) (by omega) (by omega) 1 _
        case measure => simp [intOf]; omega
      · have M13 : ((((((((w6.setCell ⟨W5.heap.size + 1, 0, none⟩ (.int .i64 (p : Int))).setCell ⟨W5.heap.size + 1, 1, none⟩ (.slice A6 N6 c6)).setCell ⟨W5.heap.size, 0, none⟩ (.int .i64 re)).setCell ⟨W5.heap.size, 1, none⟩ (.int .u64 r0)).setCell ⟨W5.heap.size, 2, none⟩ (.int .u64 r1)).setCell ⟨W5.heap.size, 3, none⟩ (.int .i64 r2)).setCell ⟨W5.heap.size, 4, none⟩ (.slice Au Nd cu))).heap[W5.heap.size + 1]? = some (.cells #[.int .i64 (p : Int), .slice A6 N6 c6] 27 (0, 0)) := (far5 (by omega) (.int .i64 re) (.int .u64 r0) (.int .u64 r1) (.int .i64 r2) (.slice Au Nd cu)).trans (put2 m1 (.int .i64 (p : Int)) (.slice A6 N6 c6))
        have M14 : ((((((((w6.setCell ⟨W5.heap.size + 1, 0, none⟩ (.int .i64 (p : Int))).setCell ⟨W5.heap.size + 1, 1, none⟩ (.slice A6 N6 c6)).setCell ⟨W5.heap.size, 0, none⟩ (.int .i64 re)).setCell ⟨W5.heap.size, 1, none⟩ (.int .u64 r0)).setCell ⟨W5.heap.size, 2, none⟩ (.int .u64 r1)).setCell ⟨W5.heap.size, 3, none⟩ (.int .i64 r2)).setCell ⟨W5.heap.size, 4, none⟩ (.slice Au Nd cu))).heap[W5.heap.size]? = some (.cells #[.int .i64 re, .int .u64 r0, .int .u64 r1, .int .i64 r2, .slice Au Nd cu] 56 (0, 0)) := put5 ((far2 (by omega) (.int .i64 (p : Int)) (.slice A6 N6 c6)).trans m0) (.int .i64 re) (.int .u64 r0) (.int .u64 r1) (.int .i64 r2) (.slice Au Nd cu)
        have kk : Fr (W5.heap.size + 1) (W5.heap.size) (W5.heap.size) w6 ((((((((w6.setCell ⟨W5.heap.size + 1, 0, none⟩ (.int .i64 (p : Int))).setCell ⟨W5.heap.size + 1, 1, none⟩ (.slice A6 N6 c6)).setCell ⟨W5.heap.size, 0, none⟩ (.int .i64 re)).setCell ⟨W5.heap.size, 1, none⟩ (.int .u64 r0)).setCell ⟨W5.heap.size, 2, none⟩ (.int .u64 r1)).setCell ⟨W5.heap.size, 3, none⟩ (.int .i64 r2)).setCell ⟨W5.heap.size, 4, none⟩ (.slice Au Nd cu))) := ((((((((Fr.refl (W5.heap.size + 1) (W5.heap.size) (W5.heap.size) w6).setq 0 (.int .i64 (p : Int))).setq 1 (.slice A6 N6 c6)).setT 0 (.int .i64 re)).setT 1 (.int .u64 r0)).setT 2 (.int .u64 r1)).setT 3 (.int .i64 r2)).setT 4 (.slice Au Nd cu))
        have hs6 := kw.size
        have hl4 := ws_lt S4
        have hbm4 := blk_lt F4
        have hw4 := blk_lt E4
        have hm0 := blk_lt m0
        have hm1 := blk_lt m1
        have H13 : W5.heap.size ≤ W5.heap.size + 1 := by omega
        have H14 : W5.heap.size ≤ W5.heap.size := by omega
        have kb : Below W5.heap.size W5 ((((((((w6.setCell ⟨W5.heap.size + 1, 0, none⟩ (.int .i64 (p : Int))).setCell ⟨W5.heap.size + 1, 1, none⟩ (.slice A6 N6 c6)).setCell ⟨W5.heap.size, 0, none⟩ (.int .i64 re)).setCell ⟨W5.heap.size, 1, none⟩ (.int .u64 r0)).setCell ⟨W5.heap.size, 2, none⟩ (.int .u64 r1)).setCell ⟨W5.heap.size, 3, none⟩ (.int .i64 r2)).setCell ⟨W5.heap.size, 4, none⟩ (.slice Au Nd cu))) := kw.trans (kk.below hs6 H13 H14 H14)
        have h9 : RP ((((((((w6.setCell ⟨W5.heap.size + 1, 0, none⟩ (.int .i64 (p : Int))).setCell ⟨W5.heap.size + 1, 1, none⟩ (.slice A6 N6 c6)).setCell ⟨W5.heap.size, 0, none⟩ (.int .i64 re)).setCell ⟨W5.heap.size, 1, none⟩ (.int .u64 r0)).setCell ⟨W5.heap.size, 2, none⟩ (.int .u64 r1)).setCell ⟨W5.heap.size, 3, none⟩ (.int .i64 r2)).setCell ⟨W5.heap.size, 4, none⟩ (.slice Au Nd cu))) (fun j => j ≠ q ∧ j ≠ gT ∧ j ≠ b ∧ j ≠ w.heap.size ∧ j ≠ bm) (.slice A6 N6 c6) rT := rp_mono (rp_fr (rp_bound h7) kk (fun j hj => by omega)) (fun j hj => by omega)
        have hu9 : RP ((((((((w6.setCell ⟨W5.heap.size + 1, 0, none⟩ (.int .i64 (p : Int))).setCell ⟨W5.heap.size + 1, 1, none⟩ (.slice A6 N6 c6)).setCell ⟨W5.heap.size, 0, none⟩ (.int .i64 re)).setCell ⟨W5.heap.size, 1, none⟩ (.int .u64 r0)).setCell ⟨W5.heap.size, 2, none⟩ (.int .u64 r1)).setCell ⟨W5.heap.size, 3, none⟩ (.int .i64 r2)).setCell ⟨W5.heap.size, 4, none⟩ (.slice Au Nd cu))) (fun _ => True) (.slice Au Nd cu) rd := rp_mono (rp_fr (rp_bound hu7) kk (fun j hj => by omega)) (fun _ _ => trivial)
        have hneb : bm ≠ W5.heap.size + 1 := by omega
        have hneb' : W5.heap.size + 1 ≠ bm := by omega
        have S9 := S4.below kb
        have F9 := bel_blk kb F4
        have E9 := bel_blk kb E4
        have G9 := bel_blk kb G5
        have rv9 := rp_below rv kb
        rename_i hHeld
        clear hHeld kb kk kw h7 hu7 hs6 hl4 hbm4 hw4 H13 H14 x0 x1 y0 y1 y2 y3 y4 g0 F6 f0 f1 k6 na1 na2 na3 na4 nb1 nb2 nb3 nb4 b0 b1 b2 b3 b4 hv4 F4 E4 G5 S4 rv hz5' hr hadb
        clear m0 m0c0 m0c1 m0c2 m0c3 m0c4 m0f0 m0f1 m0f2 m0f3 m0f4 m0l hm0 m1 m1c0 m1c1 m1f0 m1f1 m1l hm1
        generalize (((((((w6.setCell ⟨W5.heap.size + 1, 0, none⟩ (.int .i64 (p : Int))).setCell ⟨W5.heap.size + 1, 1, none⟩ (.slice A6 N6 c6)).setCell ⟨W5.heap.size, 0, none⟩ (.int .i64 re)).setCell ⟨W5.heap.size, 1, none⟩ (.int .u64 r0)).setCell ⟨W5.heap.size, 2, none⟩ (.int .u64 r1)).setCell ⟨W5.heap.size, 3, none⟩ (.int .i64 r2)).setCell ⟨W5.heap.size, 4, none⟩ (.slice Au Nd cu)) = W9 at *
        generalize W5.heap.size + 1 = m13 at *
        generalize W5.heap.size = m14 at *
        obtain ⟨⟨⟨⟨u0, u1⟩, u2⟩, u3⟩, u4⟩ := cell_of5 G9
        obtain ⟨⟨⟨⟨v0, v1⟩, v2⟩, v3⟩, v4⟩ := cell_of5 M14
        go_wp2_with fail
        go_at_call 24
        refine (same7 (T := rd) re ⟨r0, r1, r2⟩ (rp_C rv9 hNd'.out).1 (rp_C rv9 hNd'.out).2 (rp_C hu9 hNd'.out).1 (rp_C hu9 hNd'.out).2 (by omega)).mono ?_
        rintro e w10 ⟨rfl, k10⟩
        replace S9 := S9.below k10
        replace F9 := bel_blk k10 F9
        replace E9 := bel_blk k10 E9
        replace M13 := bel_blk k10 M13
        replace h9 := rp_below h9 k10
        clear k10 u0 u1 u2 u3 u4 v0 v1 v2 v3 v4 G9 M14 rv9 hu9
        have hlb := ws_lt S9
        have hbl := blk_lt F9
        obtain ⟨u0, u1⟩ := cell_of2 M13
        obtain ⟨v0, v1⟩ := cell_of2 F9
        have v2 := blk_frozen F9 0
        have v3 := blk_frozen F9 1
        simp only []
        go_wp2_with fail
        go_roundw
        case rel =>
          have e1 := put2 F9 (.int .i64 (p : Int)) (.slice A6 N6 c6)
          have hT1 : mActs p [] (ls.take (k + 1)) = rT := by first | exact hsn.out | exact hTT.out
          refine ⟨k + 1, A6, N6, c6, by simp, by omega, by rw [hT1]; exact hN6'.out, ?_, e1, ?_, (far2 (by omega) _ _).trans E9⟩
          case refine_2 => rw [hT1]; exact rp2 h9 (fun j hj => hj.2.2.2.2) _ _
          rw [hT1]
          exact ws_far (ws_far S9 (by omega) (by omega) 0 _) (by omega) (by omega) 1 _
        case measure => simp [intOf]; omega
    · have d0 : decide ((k : Int) < (ls.length : Int)) = false := decide_eq_false (by omega)
      obtain rfl : k = ls.length := by omega
      rw [List.take_length] at Sk hvk
      clear hN
      obtain ⟨t0, t1⟩ := cell_of2 Fk
      obtain ⟨r0, r1⟩ := cell_of2 Ek
      have f0 := blk_frozen Ek 0
      have f1 := blk_frozen Ek 1
      have x9 := cell_of2 (put2 Ek (.int .i64 (p : Int)) (.slice A' N' c'))
      have e0 : (wr.setCell ⟨w.heap.size, 0, none⟩ (.int .i64 (p : Int))).heap[w.heap.size]? = some (.cells #[.int .i64 (p : Int), .slice none 0 0] 27 (0, 0)) := blk_put Ek 0 _ rfl
      have y0 := blk_cell e0 1
      go_wp2_with fail
      go_region
      go_wp2_with fail
      refine bodyPost_ret (v := .tuple #[.pointer (some ⟨q, 0, none⟩), .agg #[.int .i64 (p : Int), .slice A' N' c'], .bool true]) (by simp [results, Try.results8, go_sem, x9]) rfl ?_
      refine ⟨q, gT, g, b, _, rfl, ?_, ?_⟩
      · exact WS.drew (ws_far (ws_far Sk (Nat.le_refl _) hoff0 0 _) (Nat.le_refl _) hoff0 1 _)
      · exact rp_mono (rp_drew (rp2 hvk (fun j hj => hj.2.2.2.1) _ _)) (fun j hj => ⟨hj.1, hj.2.1, hj.2.2.1⟩)
end Go.Proofs.Ytokhbiaaaflphaa.ListK
