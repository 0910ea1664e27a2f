/-
  Queues: the law ListqMoves, walked.
  No condition.
-/
import Derived.Test.YtokhbiaaaflphaaListK
namespace Go.Proofs.Ytokhbiaaaflphaa.ListMoves
open Go.Proofs.Ytokhbiaaaflphaa.ListW Go.Proofs.Ytokhbiaaaflphaa.ListK Go.RowKit Go.Shelf Go.Proofs.Ytokhbiaaaflphaa.ChainA Go.Proofs.Ytokhbiaaaflphaa.ListM Go.Proofs.Ytokhbiaaaflphaa.ListA Go.Proofs.Ytokhbiaaaflphaa.ListB Go.Proofs.Ytokhbiaaaflphaa.ListE Go.Proofs.Ytokhbiaaaflphaa.ListF Go.Proofs.Ytokhbiaaaflphaa.ListR Go.Proofs.Ytokhbiaaaflphaa.ListG Go.Proofs.Ytokhbiaaaflphaa.ListH Go.Proofs.Ytokhbiaaaflphaa.ListI Go.Proofs.Ytokhbiaaaflphaa.GListqPlays Go.Proofs.YtokhbiaaaflphaaW.PrintWords Go.Proofs.YtokhbiaaaflphaaW.PrintLast Go.Proofs.YtokhbiaaaflphaaW.PrintMore
set_option linter.unusedVariables false
set_option linter.unusedSimpArgs false
variable {w : World} {q gT g b p : Nat} {P : Nat → Prop} {T T0 T1 : List S38} {v : Value}

theorem find_out (T : List S38) (x : Int) : findT (outT T x) x = none := by
  unfold findT outT
  rw [List.find?_eq_none]
  intro a ha
  have := (List.mem_filter.1 ha).2
  simpa using this
/-- To be moved is to be cancelled and inserted. -/
theorem mov_law (p : Nat) (T : List S38) (t : S38) (h : QI p T) :
    (∃ c, c ≠ 0 ∧ ListM.mCan p T t.f2 = (T, z38, c) ∧ ListM.mMov p T t = (T, c)) ∨
    (∃ x T2 T3, x.f2 = t.f2 ∧ ListM.mCan p T t.f2 = (T2, x, 0) ∧ ListM.mIn p T2 t = (T3, 0) ∧ ListM.mMov p T t = (T3, 0) ∧ findT T3 t.f2 = some t) := by
  have hQ := h.mMov t
  have hC := h.mCan t.f2
  unfold ListM.mMov at hQ ⊢
  by_cases h1 : 0 ≤ t.f2 ∧ t.f2 < p
  · cases hf : findT T t.f2 with
    | none =>
      have e : ListM.mCan p T t.f2 = (T, z38, 5) := by unfold ListM.mCan; rw [if_pos h1, hf]
      exact .inl ⟨5, by decide, e, by rw [e, if_neg (show ¬ (5 : Int) = 0 by decide)]⟩
    | some x =>
      have e : ListM.mCan p T t.f2 = (outT T t.f2, x, 0) := by unfold ListM.mCan; rw [if_pos h1, hf]
      have e2 : ListM.mIn p (outT T t.f2) t = (putT (outT T t.f2) t, 0) := by unfold ListM.mIn; rw [if_pos h1, find_out]; rfl
      rw [e] at hQ hC ⊢
      rw [if_pos rfl, e2] at hQ
      refine .inr ⟨x, _, _, (findT_some hf).2, rfl, e2, by rw [if_pos rfl, e2], findT_mem hQ (mem_put.2 (.inl rfl))⟩
  · have e : ListM.mCan p T t.f2 = (T, z38, 1) := by unfold ListM.mCan; rw [if_neg h1]
    exact .inl ⟨1, by decide, e, by rw [e, if_neg (show ¬ (1 : Int) = 0 by decide)]⟩
/-- Two queues, of whose blocks none is both's. -/
structure W2 (w W : World) (q gT g b o oT og ob p : Nat) (T U : List S38) : Prop where
  a : WS w W q gT g b p T
  c : WS w W o oT og ob p U
  n1 : ∀ i, i = q ∨ i = gT ∨ i = g ∨ i = b → i ≠ o ∧ i ≠ oT ∧ i ≠ ob
  n2 : ∀ i, i = o ∨ i = oT ∨ i = og ∨ i = ob → i ≠ q ∧ i ≠ gT ∧ i ≠ b
section
variable {W W' : World} {o oT og ob : Nat} {U T' U' : List S38}
theorem w2_below (h : W2 w W q gT g b o oT og ob p T U) (k : Below W.heap.size W W') : W2 w W' q gT g b o oT og ob p T U := ⟨h.a.below k, h.c.below k, h.n1, h.n2⟩
theorem w2_alloc (h : W2 w W q gT g b o oT og ob p T U) (x : Obj) : W2 w (W.alloc x) q gT g b o oT og ob p T U := ⟨h.a.alloc x, h.c.alloc x, h.n1, h.n2⟩
theorem w2_fst (h : W2 w W q gT g b o oT og ob p T U) (k : WS w W' q gT g b p T' ∧ Fr q gT b W W') : W2 w W' q gT g b o oT og ob p T' U := ⟨k.1, ⟨h.c.qs.fr k.2 h.n2, h.c.lo, k.1.bel⟩, h.n1, h.n2⟩
theorem w2_snd (h : W2 w W q gT g b o oT og ob p T U) (k : WS w W' o oT og ob p U' ∧ Fr o oT ob W W') : W2 w W' q gT g b o oT og ob p T U' := ⟨⟨h.a.qs.fr k.2 h.n1, h.a.lo, k.1.bel⟩, k.1, h.n1, h.n2⟩
end
set_option maxRecDepth 100000 in
set_option maxHeartbeats 4000000 in
theorem moves_calls (p : Int) (A : Option Addr) (cap : Nat) (ls : List S59) (f0 f1 f2 : Int) (w : World) (hC : Kd.C k59 w A ls.length ls) (hmx : ls.length ≤ 140737488355328) :
    Calls Try.prog 5 #[.int .i64 p, .slice A ls.length cap, .agg #[.int .u64 f0, .int .u64 f1, .int .i64 f2]] w fun e w' => e = .returned (.bool true) ∧ Below w.heap.size w w' := by
  have hu27 := Try.underlying27
  have BX : Below w.heap.size w (w.alloc (.cells #[.int .u64 f0, .int .u64 f1, .int .i64 f2] 38)) := (Below.refl _ w).alloc (Nat.le_refl _) _
  by_cases hlen : 60 < ls.length
  · have d0 : decide ((60 : Int) < (ls.length : Int)) = true := decide_eq_true (by omega)
    go_enter Try.func5, Try.ntmps5
    go_wp2_with fail
    go_at_call 7
    refine (works_calls _).mono ?_
    rintro e w1 ⟨rfl, k1⟩
    simp only []
    go_wp2_with fail
    go_ret
    exact ⟨rfl, BX.trans (k1.mono BX.size)⟩
  have d0 : decide ((60 : Int) < (ls.length : Int)) = false := decide_eq_false (by omega)
  have zt := World.alloc_heap_new w (.cells #[.int .u64 f0, .int .u64 f1, .int .i64 f2] 38)
  have hz0 : (w.alloc (.cells #[.int .u64 f0, .int .u64 f1, .int .i64 f2] 38)).heap.size = w.heap.size + 1 := by simp
  go_enter Try.func5, Try.ntmps5
  go_wp2_with fail
  go_at_call 7
  have hC0 := Kd.C_below hC BX
  generalize w.alloc (.cells #[.int .u64 f0, .int .u64 f1, .int .i64 f2] 38) = w0 at *
  refine (works_calls _).mono ?_
  rintro e w1 ⟨rfl, k1⟩
  replace zt := bel_blk k1 zt
  have hz1 := k1.size
  simp only []
  go_wp2_with fail
  go_at_call 8
  by_cases hbad : p < 0 ∨ 1024 < p
  · refine (made_no p A cap ls _ hbad hmx).mono ?_
    rintro e w2 ⟨A0, c0, rfl, k2⟩
    have k3 := (k1.trans (k2.mono hz1)).alloc (by have := k2.size; omega) (.cells #[.int .i64 0, .slice A0 0 c0] 27)
    simp only []
    go_wp2_with fail
    generalize w2.alloc (.cells #[.int .i64 0, .slice A0 0 c0] 27) = w3 at *
    go_at_call 8
    refine (made_no p A cap ls _ hbad hmx).mono ?_
    rintro e w4 ⟨A1, c1, rfl, k4⟩
    simp only []
    go_wp2_with fail
    go_ret
    have k5 := k3.trans (k4.mono k3.size)
    exact ⟨rfl, BX.trans ((k5.mono BX.size).alloc (by have := k5.size; have := BX.size; omega) _)⟩
  obtain ⟨pn, rfl⟩ : ∃ n : Nat, p = n := ⟨p.toNat, by omega⟩
  refine (made_yes pn A cap ls _ (by omega) (Kd.C_below hC0 k1) hmx).mono ?_
  rintro e w2 ⟨q, gT, g, b, v, rfl, hS, hr⟩
  obtain ⟨A1, c1, rfl⟩ := rp_slice hr
  have hs2 := hS.bel.size
  have S2 : WS w0 w2 q gT g b pn (mActs pn [] ls) := ⟨hS.qs, by have := hS.lo; omega, k1.trans (hS.bel.mono hz1)⟩
  have hl2 := ws_lt hS
  replace zt := below_blk hS.bel zt (blk_lt zt)
  generalize hMT : mActs pn [] ls = T at *
  have hMT' := Lib.hid hMT
  clear hMT
  obtain ⟨N1, hN1⟩ : ∃ N, N = T.length := ⟨_, rfl⟩
  rw [← hN1]
  clear hN1 hr hS
  have S3 := S2.alloc (.cells #[.int .i64 (pn : Int), .slice A1 N1 c1] 27)
  replace zt := blk_alloc zt (.cells #[.int .i64 (pn : Int), .slice A1 N1 c1] 27)
  have hz3 : (w2.alloc (.cells #[.int .i64 (pn : Int), .slice A1 N1 c1] 27)).heap.size = w2.heap.size + 1 := by simp
  simp only []
  go_wp2_with fail
  generalize w2.alloc (.cells #[.int .i64 (pn : Int), .slice A1 N1 c1] 27) = w3 at *
  go_at_call 8
  refine (made_yes pn A cap ls _ (by omega) (Kd.C_below hC0 S3.bel) hmx).mono ?_
  rintro e w4 ⟨o, oT, og, ob, v, rfl, hS, hr⟩
  obtain ⟨A4, c4, rfl⟩ := rp_slice hr
  rw [hMT'.out] at hS hr ⊢
  obtain ⟨N4, hN4⟩ : ∃ N, N = T.length := ⟨_, rfl⟩
  rw [← hN4]
  clear hN4 hr
  have hlo4 := hS.lo
  have hlt3 := ws_lt S3
  have hlo3 := S3.lo
  have D4 : W2 w0 w4 q gT g b o oT og ob pn T T := ⟨S3.below hS.bel, ⟨hS.qs, by have := S3.bel.size; omega, S3.bel.trans (hS.bel.mono S3.bel.size)⟩, fun i hi => by omega, fun i hi => by omega⟩
  replace zt := below_blk hS.bel zt (blk_lt zt)
  have hnq : w.heap.size ≠ q ∧ w.heap.size ≠ gT ∧ w.heap.size ≠ b := by omega
  have hno : w.heap.size ≠ o ∧ w.heap.size ≠ oT ∧ w.heap.size ≠ ob := by omega
  have D5 := w2_alloc D4 (.cells #[.int .i64 (pn : Int), .slice A4 N4 c4] 27)
  replace zt := blk_alloc zt (.cells #[.int .i64 (pn : Int), .slice A4 N4 c4] 27)
  clear hS D4 S3 S2 hlo4 hlt3 hlo3 hl2 hs2 hz3 hz1 k1 hMT' hC0 hC
  have hBX := BX.size
  obtain ⟨⟨z0, z1⟩, z2⟩ := cell_of3 zt
  simp only []
  go_wp2_with fail
  generalize w4.alloc (.cells #[.int .i64 (pn : Int), .slice A4 N4 c4] 27) = w5 at *
  generalize hsz : w.heap.size = sz at *
  go_at_call 16
  rcases mov_law pn T ⟨f0, f1, f2⟩ (qs_qi D5.a.qs) with ⟨c, hc0, e1, e2⟩ | ⟨⟨x0, x1, x2⟩, T2, T3, hx, e1, e2, e3, e4⟩
  · refine (mov_as e2 D5.a).mono ?_
    rintro e w6 ⟨rfl, k6⟩
    have D6 := w2_fst D5 k6
    replace zt := fr_blk k6.2 zt hnq
    obtain ⟨⟨z0, z1⟩, z2⟩ := cell_of3 zt
    clear D5 k6
    simp only []
    go_wp2_with fail
    go_at_call 17
    refine (can_as e1 D6.c).mono ?_
    rintro e w7 ⟨rfl, k7⟩
    have D7 := w2_alloc (w2_snd D6 k7) (.cells #[.int .u64 0, .int .u64 0, .int .i64 0] 38)
    replace zt := blk_alloc (fr_blk k7.2 zt hno) (.cells #[.int .u64 0, .int .u64 0, .int .i64 0] 38)
    obtain ⟨⟨z0, z1⟩, z2⟩ := cell_of3 zt
    clear D6 k7
    have d1 : decide (c = 0) = false := decide_eq_false hc0
    simp only [tv, z38]
    go_wp2_with fail
    generalize w7.alloc (.cells #[.int .u64 0, .int .u64 0, .int .i64 0] 38) = w8 at *
    go_at_call 14
    refine (get_T f2 D7.a.qs).mono ?_
    rintro e w9 ⟨rfl, k9⟩
    generalize ((findT T f2).getD z38) = y
    generalize (findT T f2).isSome = yb
    obtain ⟨y0, y1, y2⟩ := y
    have D9 := w2_alloc (w2_below D7 k9) (.cells #[.int .u64 y0, .int .u64 y1, .int .i64 y2] 38)
    clear D7 k9
    simp only [tv]
    go_wp2_with fail
    generalize w9.alloc (.cells #[.int .u64 y0, .int .u64 y1, .int .i64 y2] 38) = w10 at *
    go_at_call 10
    refine (all_as D9.a rfl).mono ?_
    rintro e w11 ⟨B0, b0, rfl, g0, g1, k11⟩
    have D11 := w2_below D9 k11
    clear D9 k11
    simp only []
    go_wp2_with fail
    go_at_call 10
    refine (all_as D11.c rfl).mono ?_
    rintro e w12 ⟨B1, b1, rfl, g2, g3, k12⟩
    have D12 := w2_below D11 k12
    have g4 := Kd.C_below g0 k12
    have hl := (qs_lens D12.a.qs).1
    clear D11 k12 g0
    simp only []
    go_wp2_with fail
    go_at_call 12
    refine (same_yes g4 g1 g2 g3 (by omega)).mono ?_
    rintro e w13 ⟨rfl, k13⟩
    have D13 := w2_below D12 k13
    simp only []
    go_wp2_with fail
    go_ret
    exact ⟨rfl, by rw [hsz]; exact BX.trans (D13.a.bel.mono hBX)⟩
  · refine (mov_as e3 D5.a).mono ?_
    rintro e w6 ⟨rfl, k6⟩
    have D6 := w2_fst D5 k6
    replace zt := fr_blk k6.2 zt hnq
    obtain ⟨⟨z0, z1⟩, z2⟩ := cell_of3 zt
    clear D5 k6
    simp only []
    go_wp2_with fail
    go_at_call 17
    refine (can_as e1 D6.c).mono ?_
    rintro e w7 ⟨rfl, k7⟩
    have hx' : x2 = f2 := hx
    subst hx'
    have hof := (w2_snd D6 k7).c.off
    have hoq := (w2_snd D6 k7).a.off
    have y5 := World.alloc_heap_new w7 (.cells #[.int .u64 x0, .int .u64 x1, .int .i64 x2] 38)
    have D7 := w2_alloc (w2_snd D6 k7) (.cells #[.int .u64 x0, .int .u64 x1, .int .i64 x2] 38)
    replace zt := blk_alloc (fr_blk k7.2 zt hno) (.cells #[.int .u64 x0, .int .u64 x1, .int .i64 x2] 38)
    obtain ⟨⟨z0, z1⟩, z2⟩ := cell_of3 zt
    clear D6 k7 hx
    simp only [tv]
    go_wp2_with fail
    generalize w7.alloc (.cells #[.int .u64 x0, .int .u64 x1, .int .i64 x2] 38) = w8 at *
    generalize w7.heap.size = s7 at *
    go_at_call 18
    refine (ins_lit (T' := T3) (c := 0) e2 D7.c).mono ?_
    rintro e w9 ⟨rfl, k9⟩
    have D9 := w2_snd D7 k9
    replace zt := fr_blk k9.2 zt hno
    replace y5 := fr_blk k9.2 y5 hof
    obtain ⟨⟨z0, z1⟩, z2⟩ := cell_of3 zt
    clear D7 k9
    simp only []
    go_wp2_with fail
    go_at_call 14
    refine (get_as e4 D9.a).mono ?_
    rintro e w10 ⟨rfl, _, k10⟩
    have D10 := w2_alloc (w2_below D9 k10) (.cells #[.int .u64 f0, .int .u64 f1, .int .i64 x2] 38)
    have y8 := World.alloc_heap_new w10 (.cells #[.int .u64 f0, .int .u64 f1, .int .i64 x2] 38)
    replace zt := blk_alloc (bel_blk k10 zt) (.cells #[.int .u64 f0, .int .u64 f1, .int .i64 x2] 38)
    replace y5 := blk_alloc (bel_blk k10 y5) (.cells #[.int .u64 f0, .int .u64 f1, .int .i64 x2] 38)
    clear D9 k10
    simp only [tv]
    go_wp2_with fail
    generalize w10.alloc (.cells #[.int .u64 f0, .int .u64 f1, .int .i64 x2] 38) = w11 at *
    generalize w10.heap.size = s10 at *
    go_at_call 10
    refine (all_as D10.a rfl).mono ?_
    rintro e w12 ⟨B0, b0, rfl, g0, g1, k12⟩
    have D12 := w2_below D10 k12
    replace zt := bel_blk k12 zt
    replace y5 := bel_blk k12 y5
    replace y8 := bel_blk k12 y8
    clear D10 k12
    simp only []
    go_wp2_with fail
    go_at_call 10
    refine (all_as D12.c rfl).mono ?_
    rintro e w13 ⟨B1, b1, rfl, g2, g3, k13⟩
    have D13 := w2_below D12 k13
    have g4 := Kd.C_below g0 k13
    have hl := (qs_lens D13.a.qs).1
    replace zt := bel_blk k13 zt
    replace y5 := bel_blk k13 y5
    replace y8 := bel_blk k13 y8
    clear D12 k13 g0
    simp only []
    go_wp2_with fail
    go_at_call 12
    refine (same_yes g4 g1 g2 g3 (by omega)).mono ?_
    rintro e w14 ⟨rfl, k14⟩
    have D14 := w2_below D13 k14
    replace zt := bel_blk k14 zt
    replace y5 := bel_blk k14 y5
    replace y8 := bel_blk k14 y8
    obtain ⟨⟨z0, z1⟩, z2⟩ := cell_of3 zt
    obtain ⟨⟨z3, z4⟩, z5⟩ := cell_of3 y5
    obtain ⟨⟨z6, z7⟩, z8⟩ := cell_of3 y8
    simp only []
    go_wp2_with fail
    go_ret
    exact ⟨rfl, by rw [hsz]; exact BX.trans (D14.a.bel.mono hBX)⟩
end Go.Proofs.Ytokhbiaaaflphaa.ListMoves
