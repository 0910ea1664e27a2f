/-
  Queues in memory: a queue and the document's own told alike. Queues: the law ListqPlays, walked.
  No condition.
-/
import Derived.Test.YtokhbiaaaflphaaListK
namespace Go.Proofs.Ytokhbiaaaflphaa.ListJ
open Go.RowKit Go.Shelf Go.Proofs.Ytokhbiaaaflphaa.ChainA Go.Proofs.Ytokhbiaaaflphaa.ListM Go.Proofs.Ytokhbiaaaflphaa.ListA Go.Proofs.Ytokhbiaaaflphaa.ListB Go.Proofs.Ytokhbiaaaflphaa.ListE Go.Proofs.Ytokhbiaaaflphaa.ListF Go.Proofs.Ytokhbiaaaflphaa.ListR Go.Proofs.Ytokhbiaaaflphaa.ListG Go.Proofs.Ytokhbiaaaflphaa.ListH Go.Proofs.Ytokhbiaaaflphaa.ListI Go.Proofs.Ytokhbiaaaflphaa.GListqPlays Go.Proofs.YtokhbiaaaflphaaW.PrintWords Go.Proofs.YtokhbiaaaflphaaW.PrintLast Go.Proofs.YtokhbiaaaflphaaW.PrintMore
set_option linter.unusedVariables false
set_option linter.unusedSimpArgs false
variable {w : World} {q gT g b p : Nat} {P : Nat → Prop} {T T0 T1 : List S38} {v : Value}
theorem drew_bel (w : World) : Below w.heap.size w w.drew := ⟨rfl, rfl, rfl, Nat.le_refl _, fun _ _ => rfl⟩
theorem QS_drew (h : QS w q gT g b p T) : QS w.drew q gT g b p T := h.below (drew_bel w)
theorem all_N {n : Nat} (h : QS w q gT g b p T) (hn : n = T.length) : Calls Try.prog 10 #[.pointer (some ⟨q, 0, none⟩)] w fun e w' => ∃ A c, e = .returned (.slice A n c) ∧ Kd.C k38 w' A n T ∧ n ≤ c ∧ Below w.heap.size w w' := by
  subst hn
  refine (all_T h).mono ?_
  rintro e w' ⟨v, rfl, h0, k⟩
  obtain ⟨A, c, rfl⟩ := h0.slice
  exact ⟨A, c, rfl, h0.C.2.2, h0.C.2.1, k⟩
theorem rp_C {n c : Nat} {A : Option Addr} (h : RP w P (.slice A n c) T) (hn : n = T.length) : Kd.C k38 w A n T ∧ n ≤ c := by
  subst hn
  have := Kd.V_reads' h
  exact ⟨this.2.2, this.2.1⟩
set_option maxRecDepth 100000 in
set_option maxHeartbeats 4000000 in
theorem alike_T (x : Int) (h : QS w q gT g b p T) (hr : RP w P v T) : Calls Try.prog 9 #[.pointer (some ⟨q, 0, none⟩), .agg #[.int .i64 (p : Int), v], .int .i64 x] w fun e w' => e = .returned (.bool true) ∧ Below w.heap.size w w' := by
  obtain ⟨A, c, rfl⟩ := rp_slice hr
  obtain ⟨N, hN⟩ : ∃ N, N = T.length := ⟨_, rfl⟩
  rw [← hN] at hr ⊢
  have hN' := Lib.hid hN
  clear hN
  have hln := qs_lens h
  obtain ⟨⟨a0, a1, a2⟩, ha⟩ : ∃ t, t = (findT T x).getD z38 := ⟨_, rfl⟩
  obtain ⟨ba, hba⟩ : ∃ o, o = (findT T x).isSome := ⟨_, rfl⟩
  obtain ⟨⟨m0, m1, m2⟩, hm⟩ : ∃ t, t = (minT T).1 := ⟨_, rfl⟩
  obtain ⟨bm, hbm⟩ : ∃ o, o = (minT T).2 := ⟨_, rfl⟩
  have ha' := Lib.hid ha
  have hba' := Lib.hid hba
  have hm' := Lib.hid hm
  have hbm' := Lib.hid hbm
  clear ha hba hm hbm
  have hN6 : N ≤ 1000000 := by have := hN'.out; omega
  have B := Below.refl w.heap.size w
  have zm := World.alloc_heap_new w (.cells #[.int .i64 (p : Int), .slice A N c] 27)
  replace B := B.alloc (Nat.le_refl _) (.cells #[.int .i64 (p : Int), .slice A N c] 27)
  replace h := h.alloc (.cells #[.int .i64 (p : Int), .slice A N c] 27)
  replace hr := rp_alloc hr (.cells #[.int .i64 (p : Int), .slice A N c] 27)
  go_enter Try.func9, Try.ntmps9
  go_wp2_with fail
  go_at_call 14
  generalize w.alloc (.cells #[.int .i64 (p : Int), .slice A N c] 27) = W0 at *
  refine (get_T x h).mono ?_
  rintro e w7 ⟨rfl, k⟩
  rw [← ha'.out, ← hba'.out]
  replace h := h.below k
  replace hr := rp_below hr k
  replace B := B.trans (k.mono B.size)
  replace zm := bel_blk k zm
  clear k
  have ys7 := World.alloc_heap_new w7 (.cells #[.int .u64 a0, .int .u64 a1, .int .i64 a2] 38)
  replace zm := blk_alloc zm (.cells #[.int .u64 a0, .int .u64 a1, .int .i64 a2] 38)
  replace h := h.alloc (.cells #[.int .u64 a0, .int .u64 a1, .int .i64 a2] 38)
  replace hr := rp_alloc hr (.cells #[.int .u64 a0, .int .u64 a1, .int .i64 a2] 38)
  replace B := B.alloc B.size (.cells #[.int .u64 a0, .int .u64 a1, .int .i64 a2] 38)
  have t0 := blk_cell zm 0
  have t1 := blk_cell zm 1
  simp only [tv]
  go_wp2_with fail
  generalize w7.alloc (.cells #[.int .u64 a0, .int .u64 a1, .int .i64 a2] 38) = Vs7 at *
  generalize w7.heap.size = s7 at *
  clear t0 t1
  go_at_call 25
  refine (refGet (p := p) x hr hln.1).mono ?_
  rintro e w9 ⟨rfl, k⟩
  rw [← ha'.out, ← hba'.out]
  replace h := h.below k
  replace hr := rp_below hr k
  replace B := B.trans (k.mono B.size)
  replace zm := bel_blk k zm
  replace ys7 := bel_blk k ys7
  clear k
  have ys9 := World.alloc_heap_new w9 (.cells #[.int .u64 a0, .int .u64 a1, .int .i64 a2] 38)
  replace zm := blk_alloc zm (.cells #[.int .u64 a0, .int .u64 a1, .int .i64 a2] 38)
  replace ys7 := blk_alloc ys7 (.cells #[.int .u64 a0, .int .u64 a1, .int .i64 a2] 38)
  replace h := h.alloc (.cells #[.int .u64 a0, .int .u64 a1, .int .i64 a2] 38)
  replace hr := rp_alloc hr (.cells #[.int .u64 a0, .int .u64 a1, .int .i64 a2] 38)
  replace B := B.alloc B.size (.cells #[.int .u64 a0, .int .u64 a1, .int .i64 a2] 38)
  have t0 := blk_cell zm 0
  have t1 := blk_cell zm 1
  simp only [tv]
  go_wp2_with fail
  generalize w9.alloc (.cells #[.int .u64 a0, .int .u64 a1, .int .i64 a2] 38) = Vs9 at *
  generalize w9.heap.size = s9 at *
  clear t0 t1
  go_at_call 15
  refine (min_T h).mono ?_
  rintro e w11 ⟨rfl, k⟩
  rw [← hm'.out, ← hbm'.out]
  replace h := h.below k
  replace hr := rp_below hr k
  replace B := B.trans (k.mono B.size)
  replace zm := bel_blk k zm
  replace ys7 := bel_blk k ys7
  replace ys9 := bel_blk k ys9
  clear k
  have ys11 := World.alloc_heap_new w11 (.cells #[.int .u64 m0, .int .u64 m1, .int .i64 m2] 38)
  replace zm := blk_alloc zm (.cells #[.int .u64 m0, .int .u64 m1, .int .i64 m2] 38)
  replace ys7 := blk_alloc ys7 (.cells #[.int .u64 m0, .int .u64 m1, .int .i64 m2] 38)
  replace ys9 := blk_alloc ys9 (.cells #[.int .u64 m0, .int .u64 m1, .int .i64 m2] 38)
  replace h := h.alloc (.cells #[.int .u64 m0, .int .u64 m1, .int .i64 m2] 38)
  replace hr := rp_alloc hr (.cells #[.int .u64 m0, .int .u64 m1, .int .i64 m2] 38)
  replace B := B.alloc B.size (.cells #[.int .u64 m0, .int .u64 m1, .int .i64 m2] 38)
  have t0 := blk_cell zm 0
  have t1 := blk_cell zm 1
  simp only [tv]
  go_wp2_with fail
  generalize w11.alloc (.cells #[.int .u64 m0, .int .u64 m1, .int .i64 m2] 38) = Vs11 at *
  generalize w11.heap.size = s11 at *
  clear t0 t1
  go_at_call 26
  refine (refMin (p := p) hr).mono ?_
  rintro e w13 ⟨rfl, k⟩
  rw [← hm'.out, ← hbm'.out]
  replace h := h.below k
  replace hr := rp_below hr k
  replace B := B.trans (k.mono B.size)
  replace zm := bel_blk k zm
  replace ys7 := bel_blk k ys7
  replace ys9 := bel_blk k ys9
  replace ys11 := bel_blk k ys11
  clear k
  have ys13 := World.alloc_heap_new w13 (.cells #[.int .u64 m0, .int .u64 m1, .int .i64 m2] 38)
  replace zm := blk_alloc zm (.cells #[.int .u64 m0, .int .u64 m1, .int .i64 m2] 38)
  replace ys7 := blk_alloc ys7 (.cells #[.int .u64 m0, .int .u64 m1, .int .i64 m2] 38)
  replace ys9 := blk_alloc ys9 (.cells #[.int .u64 m0, .int .u64 m1, .int .i64 m2] 38)
  replace ys11 := blk_alloc ys11 (.cells #[.int .u64 m0, .int .u64 m1, .int .i64 m2] 38)
  replace h := h.alloc (.cells #[.int .u64 m0, .int .u64 m1, .int .i64 m2] 38)
  replace hr := rp_alloc hr (.cells #[.int .u64 m0, .int .u64 m1, .int .i64 m2] 38)
  replace B := B.alloc B.size (.cells #[.int .u64 m0, .int .u64 m1, .int .i64 m2] 38)
  have t0 := blk_cell zm 0
  have t1 := blk_cell zm 1
  simp only [tv]
  go_wp2_with fail
  generalize w13.alloc (.cells #[.int .u64 m0, .int .u64 m1, .int .i64 m2] 38) = Vs13 at *
  generalize w13.heap.size = s13 at *
  clear t0 t1
  have t0 := blk_cell zm 1
  go_region_held3 (fun w' => w'.cell? ⟨w.heap.size, 1, none⟩ = some (.slice A N c)) (go_keep) ((first
    | (go_at_call 10; with_reducible refine (all_N (QS_drew h) hN'.out).mono ?_; rintro e w15 ⟨A5, c5, rfl, r5, hc5, k⟩; replace h := (QS_drew h).below k; have hr5 := rp_below (rp_drew hr) k; replace B := B.trans ((drew_bel _).trans k |>.mono B.size); replace zm := bd_blk k zm; replace ys7 := bd_blk k ys7; replace ys9 := bd_blk k ys9; replace ys11 := bd_blk k ys11; replace ys13 := bd_blk k ys13; have t1 := blk_cell zm 1)
    | (go_at_call 12; with_reducible refine (same_yes r5 hc5 (rp_C hr5 hN'.out).1 (rp_C hr5 hN'.out).2 hN6).mono ?_; rintro e w16 ⟨rfl, k6⟩; replace h := h.below k6; replace B := B.trans (k6.mono B.size); replace zm := bel_blk k6 zm; replace ys7 := bel_blk k6 ys7; replace ys9 := bel_blk k6 ys9; replace ys11 := bel_blk k6 ys11; replace ys13 := bel_blk k6 ys13; have t2 := blk_cell zm 1)))
  go_wp2_with fail
  clear t0 t1 t2 r5 hr hr5 hc5
  obtain ⟨⟨g0, g1⟩, g2⟩ := cell_of3 ys7
  obtain ⟨⟨g3, g4⟩, g5⟩ := cell_of3 ys9
  obtain ⟨⟨g6, g7⟩, g8⟩ := cell_of3 ys11
  obtain ⟨⟨g9, g10⟩, g11⟩ := cell_of3 ys13
  have g12 := blk_cell zm 1
  have hl : ((T.length : Nat) : Int) = (N : Int) := by rw [hN'.out]
  have hl' := Lib.hid hl
  clear hl
  go_region_held3 (fun w' => ((w'.cell? ⟨s7, 0, none⟩ = some (.int .u64 a0) ∧ w'.cell? ⟨s7, 1, none⟩ = some (.int .u64 a1)) ∧ w'.cell? ⟨s7, 2, none⟩ = some (.int .i64 a2)) ∧ ((w'.cell? ⟨s9, 0, none⟩ = some (.int .u64 a0) ∧ w'.cell? ⟨s9, 1, none⟩ = some (.int .u64 a1)) ∧ w'.cell? ⟨s9, 2, none⟩ = some (.int .i64 a2)) ∧ ((w'.cell? ⟨s11, 0, none⟩ = some (.int .u64 m0) ∧ w'.cell? ⟨s11, 1, none⟩ = some (.int .u64 m1)) ∧ w'.cell? ⟨s11, 2, none⟩ = some (.int .i64 m2)) ∧ ((w'.cell? ⟨s13, 0, none⟩ = some (.int .u64 m0) ∧ w'.cell? ⟨s13, 1, none⟩ = some (.int .u64 m1)) ∧ w'.cell? ⟨s13, 2, none⟩ = some (.int .i64 m2)) ∧ w'.cell? ⟨w.heap.size, 1, none⟩ = some (.slice A N c)) (go_keep) ((go_at_call 20; refine (len_T (QS_drew h)).mono ?_; rintro e w17 ⟨rfl, rfl⟩; rw [hl'.out]))
  go_wp2_with fail
  go_ret
  exact ⟨rfl, B.trans ((drew_bel _).mono B.size)⟩
end Go.Proofs.Ytokhbiaaaflphaa.ListJ
namespace Go.Proofs.Ytokhbiaaaflphaa.ListPlays
open Go.Proofs.Ytokhbiaaaflphaa.ListW Go.Proofs.Ytokhbiaaaflphaa.ListJ Go.Proofs.Ytokhbiaaaflphaa.ListK Go.RowKit Go.Shelf Go.Proofs.Ytokhbiaaaflphaa.ChainA Go.Proofs.Ytokhbiaaaflphaa.ListM Go.Proofs.Ytokhbiaaaflphaa.ListA Go.Proofs.Ytokhbiaaaflphaa.ListB Go.Proofs.Ytokhbiaaaflphaa.ListE Go.Proofs.Ytokhbiaaaflphaa.ListF Go.Proofs.Ytokhbiaaaflphaa.ListR Go.Proofs.Ytokhbiaaaflphaa.ListG Go.Proofs.Ytokhbiaaaflphaa.ListH Go.Proofs.Ytokhbiaaaflphaa.ListI Go.Proofs.Ytokhbiaaaflphaa.GListqPlays Go.Proofs.YtokhbiaaaflphaaW.PrintWords Go.Proofs.YtokhbiaaaflphaaW.PrintLast Go.Proofs.YtokhbiaaaflphaaW.PrintMore
set_option linter.unusedVariables false
set_option linter.unusedSimpArgs false
variable {w : World} {q gT g b p : Nat} {P : Nat → Prop} {T T0 T1 : List S38} {v : Value}

set_option maxRecDepth 100000 in
set_option maxHeartbeats 4000000 in
theorem plays_calls (p : Int) (A : Option Addr) (cap : Nat) (ls : List S59) (x : Int) (w : World) (hC : Kd.C k59 w A ls.length ls) (hmx : ls.length ≤ 140737488355328) :
    Calls Try.prog 3 #[.int .i64 p, .slice A ls.length cap, .int .i64 x] w fun e w' => e = .returned (.bool true) ∧ Below w.heap.size w w' := by
  have hu27 := Try.underlying27
  by_cases hlen : 60 < ls.length
  · have d0 : decide ((60 : Int) < (ls.length : Int)) = true := decide_eq_true (by omega)
    go_enter Try.func3, Try.ntmps3
    go_wp2_with fail
    go_at_call 7
    refine (works_calls _).mono ?_
    rintro e w1 ⟨rfl, k1⟩
    simp only []
    go_wp2_with fail
    go_ret
    exact ⟨rfl, k1⟩
  have d0 : decide ((60 : Int) < (ls.length : Int)) = false := decide_eq_false (by omega)
  go_enter Try.func3, Try.ntmps3
  go_wp2_with fail
  go_at_call 7
  refine (works_calls _).mono ?_
  rintro e w1 ⟨rfl, k1⟩
  simp only []
  go_wp2_with fail
  go_at_call 8
  by_cases hbad : p < 0 ∨ 1024 < p
  · refine (made_no p A cap ls _ hbad hmx).mono ?_
    rintro e w2 ⟨A0, c0, rfl, k2⟩
    simp only []
    go_wp2_with fail
    go_ret
    exact ⟨rfl, (k1.trans (k2.mono k1.size)).alloc (by have := k1.size; have := k2.size; omega) _⟩
  obtain ⟨pn, rfl⟩ : ∃ n : Nat, p = n := ⟨p.toNat, by omega⟩
  refine (made_yes pn A cap ls _ (by omega) (Kd.C_below hC k1) hmx).mono ?_
  rintro e w2 ⟨q, gT, g, b, v, rfl, hS, hr⟩
  obtain ⟨A1, c1, rfl⟩ := rp_slice hr
  generalize mActs pn [] ls = T at *
  obtain ⟨N1, hN1⟩ : ∃ N, N = T.length := ⟨_, rfl⟩
  rw [← hN1] at hr ⊢
  clear hN1
  have hK := k1.trans (hS.bel.mono k1.size)
  have hsz := hK.size
  have h3 := hS.qs.alloc (.cells #[.int .i64 (pn : Int), .slice A1 N1 c1] 27)
  have hr3 := rp_alloc hr (.cells #[.int .i64 (pn : Int), .slice A1 N1 c1] 27)
  have hK3 := hK.alloc hsz (.cells #[.int .i64 (pn : Int), .slice A1 N1 c1] 27)
  simp only []
  go_wp2_with fail
  go_at_call 9
  refine (alike_T x h3 hr3).mono ?_
  rintro e w4 ⟨rfl, k4⟩
  simp only []
  go_wp2_with fail
  go_ret
  exact ⟨rfl, hK3.trans (k4.mono hK3.size)⟩
end Go.Proofs.Ytokhbiaaaflphaa.ListPlays
