/-
  Queues in memory: Insert: put behind all.
  No condition.
-/
import Derived.Test.YtokhbiaaaflphaaListD0
import Derived.Shelf.RegionOpen
namespace Go.Proofs.Ytokhbiaaaflphaa.ListD
open Go.RowKit Go.Shelf Go.Proofs.Ytokhbiaaaflphaa.ChainA Go.Proofs.Ytokhbiaaaflphaa.ChainM Go.Proofs.Ytokhbiaaaflphaa.ChainN Go.Proofs.Ytokhbiaaaflphaa.ChainE Go.Proofs.Ytokhbiaaaflphaa.ListM Go.Proofs.Ytokhbiaaaflphaa.ListA Go.Proofs.Ytokhbiaaaflphaa.ListB Go.Proofs.Ytokhbiaaaflphaa.ListC Go.Proofs.Ytokhbiaaaflphaa.GListqPlays Go.Proofs.YtokhbiaaaflphaaW.PrintWords Go.Proofs.YtokhbiaaaflphaaW.PrintLast Go.Proofs.YtokhbiaaaflphaaW.PrintMore
set_option linter.unusedVariables false
set_option linter.unusedSimpArgs false
section
attribute [local go_sem] Oper.semAt_some
set_option maxRecDepth 100000 in
set_option maxHeartbeats 4000000 in
theorem insT_app (n : Nat) (hn : 1 ≤ n) (q gT g b p i : Nat) (f0 f1 : Int) (ts : List S38) (l : List Nat) (w W0 : World) (hS : InsW q gT g b p i f0 f1 ts l w W0) (D : Nat) (W : World) (hD : W0.heap.size ≤ D) (hK : KeepL [q, gT, g, b, w.heap.size, w.heap.size + 1, w.heap.size + 1 + 1 + 1] W0 W) (hBW : Below w.heap.size w W) (hKd : W.heap[D]? = some (.deferred (some []))) (hB5 : Boxed W (w.heap.size + 1 + 1) 3 (.int .i64 (-1))) (hm1 : mApp p [l] 0 (i : Int) = ([l ++ [i]], 0)) (hA : l = [] ∨ ∃ A' x, l = A' ++ [x] ∧ bef (tn ts x) ⟨f0, f1, (i : Int)⟩) :
    insT.wpIn Fence.wide n Try.prog (bodyPostM Fence.wide n Try.prog Try.f18 (InsPost q gT g b p i ⟨f0, f1, (i : Int)⟩ ts l w)) ⟨insF q gT p i w.heap.size f0 f1 undef undef, [⟨.collected D, #[]⟩]⟩ W := by
  obtain ⟨h, h0, x0, x1, y3, hB0, hi⟩ := hS
  have hlb := h.lb
  have hq := h.lq
  have hT := h.lT
  have hg := hlb.1
  have hb := hlb.2.1
  have hmx : Try.prog.follows .mixedOrders = true := by kernel_rfl
  have hqk := (hK q (by simp)).trans h0.hq
  have hTk := (hK gT (by simp)).trans h0.hT
  have hil0 : i < ts.length := by have := h.ht; omega
  have c0 := blk_cell ((hK w.heap.size (by simp)).trans x0) 0
  have c1 := blk_cell ((hK (w.heap.size + 1) (by simp)).trans x1) 0
  have c2 := blk_cell ((hK (w.heap.size + 1) (by simp)).trans x1) 1
  have c3 := blk_cell ((hK (w.heap.size + 1) (by simp)).trans x1) 2
  have q0 := blk_cell hqk 0
  have q1 := blk_cell hqk 1
  have q2 := blk_cell hqk 2
  have qf := blk_frozen hqk 2
  have z0 : W.cell? ⟨gT, i * 3, none⟩ = some (.int .u64 (tn ts i).f0) := (blk_cell hTk (i * 3)).trans (by rw [List.getElem?_toArray]; exact tc_0 ts i hil0)
  have z1 : W.cell? ⟨gT, i * 3 + 1, none⟩ = some (.int .u64 (tn ts i).f1) := (blk_cell hTk (i * 3 + 1)).trans (by rw [List.getElem?_toArray]; exact tc_1 ts i hil0)
  have z2 : W.cell? ⟨gT, i * 3 + 2, none⟩ = some (.int .i64 (tn ts i).f2) := (blk_cell hTk (i * 3 + 2)).trans (by rw [List.getElem?_toArray]; exact tc_2 ts i hil0)
  have zf0 := blk_frozen hTk (i * 3)
  have zf1 := blk_frozen hTk (i * 3 + 1)
  have zf2 := blk_frozen hTk (i * 3 + 2)
  have g1 : (i : Int) < (p : Int) := by omega
  have hc5 := hB5.cell
  have hChk : Chn W g b p [l] := h0.hC.keep (hK g (by simp)) (hK b (by simp))
  have hChs0 := stored_chn (i := i) (f0 := f0) (f1 := f1) (f2 := (i : Int)) (m := (l.length : Int) + 1) hChk h.n2 h.n3 h.n4 h.n5
  have hChs : Chn ((stored W q gT i f0 f1 (i : Int) ((l.length : Int) + 1)).drew.drew) g b p [l] := hChs0.keep rfl rfl
  have s0f : (stored W q gT i f0 f1 (i : Int) ((l.length : Int) + 1)).heap[w.heap.size]? = some (.cells #[.pointer (some ⟨q, 0, none⟩)] 24 (0, 0)) := (stored_far W q gT i f0 f1 (i : Int) _ (by omega) (by omega)).trans ((hK w.heap.size (by simp)).trans x0)
  have s1f : (stored W q gT i f0 f1 (i : Int) ((l.length : Int) + 1)).heap[w.heap.size + 1]? = some (.cells #[.int .u64 f0, .int .u64 f1, .int .i64 (i : Int)] 38 (0, 0)) := (stored_far W q gT i f0 f1 (i : Int) _ (by omega) (by omega)).trans ((hK (w.heap.size + 1) (by simp)).trans x1)
  have s2f := (stored_far W q gT i f0 f1 (i : Int) ((l.length : Int) + 1) (k := w.heap.size + 1 + 1) (by omega) (by omega)).trans hB5
  have sqf : (stored W q gT i f0 f1 (i : Int) ((l.length : Int) + 1)).heap[q]? = some (.cells #[.slice (some ⟨gT, 0, none⟩) p p, .pointer (some ⟨g, 0, none⟩), .int .i64 ((l.length : Int) + 1)] 70 (0, 0)) := stored_q hqk h.n1
  have sbn : b ≠ w.heap.size ∧ b ≠ w.heap.size + 1 ∧ b ≠ w.heap.size + 1 + 1 := by omega
  have hsq0 : ((((W.setCell ⟨gT, i * 3, none⟩ (.int .u64 f0)).setCell ⟨gT, i * 3 + 1, none⟩ (.int .u64 f1)).setCell ⟨gT, i * 3 + 2, none⟩ (.int .i64 (i : Int))).setCell ⟨q, 2, none⟩ (.int .i64 ((l.length : Int) + 1))).cell? ⟨q, 1, none⟩ = some (.pointer (some ⟨g, 0, none⟩)) := blk_cell (stored_q hqk h.n1) 1
  have hsq : ((((W.setCell ⟨gT, i * 3, none⟩ (.int .u64 f0)).setCell ⟨gT, i * 3 + 1, none⟩ (.int .u64 f1)).setCell ⟨gT, i * 3 + 2, none⟩ (.int .i64 (i : Int))).setCell ⟨q, 2, none⟩ (.int .i64 ((l.length : Int) + 1))).drew.drew.cell? ⟨q, 1, none⟩ = some (.pointer (some ⟨g, 0, none⟩)) := hsq0
  have n1 := h.n1
  have n2 := h.n2
  have n4 := h.n4
  have nq5 : q ≠ w.heap.size + 1 + 1 := by omega
  have nT5 : gT ≠ w.heap.size + 1 + 1 := by omega
  have nq1 : q ≠ w.heap.size + 1 := by omega
  have nT1 : gT ≠ w.heap.size + 1 := by omega
  have nq0 : q ≠ w.heap.size := by omega
  have nT0 : gT ≠ w.heap.size := by omega
  have hql : W.heap[q]? = w.heap[q]? := (hK q (by simp)).trans (hB0.block q hq)
  have hTl : W.heap[gT]? = w.heap[gT]? := (hK gT (by simp)).trans (hB0.block gT hT)
  have hDb : D ≠ b := by have := hB0.size; omega
  have hDq : D ≠ q := by have := hB0.size; omega
  have hDT : D ≠ gT := by have := hB0.size; omega
  have hDs : w.heap.size ≤ D := by have := hB0.size; omega
  have hKs : ∀ w3, Wr b (stored W q gT i f0 f1 (i : Int) ((l.length : Int) + 1)) w3 → w3.heap[D]? = some (.deferred (some [])) := fun w3 hk =>
    wr_blk hk ((stored_far W q gT i f0 f1 (i : Int) _ hDq hDT).trans hKd) hDb
  simp only [insT, Try.f18, insF]
  gi_wp2
  refine wpIn_wide.2 ?_
  go_region
  go_wp2
  try refine wpIn_wide.2 ?_
  go_wp2
  go_region_held3 (fun w' => w'.cell? ⟨w.heap.size, 0, none⟩ = some (.pointer (some ⟨q, 0, none⟩)) ∧ w'.cell? ⟨q, 1, none⟩ = some (.pointer (some ⟨g, 0, none⟩)) ∧ w'.cell? ⟨w.heap.size + 1, 2, none⟩ = some (.int .i64 (i : Int))) (go_keep) ((go_at_call 35; refine (app_calls (i : Int) 0 hChs).mono ?_; rintro e w3 ⟨rfl, hC3, hk3⟩; rw [hm1] at hC3 ⊢; have hk4 : Wr b (stored W q gT i f0 f1 (i : Int) ((l.length : Int) + 1)) w3 := wr_drewL (wr_drewL hk3); have r0 := blk_cell (wr_blk hk4 s0f sbn.1.symm) 0; have r1 := blk_cell (wr_blk hk4 s1f sbn.2.1.symm) 2; have rq := blk_cell (wr_blk hk4 sqf h.n3) 1; have r2 := blk_cell (wr_blk hk4 s2f sbn.2.2.symm) 0))
  go_wp2
  all_goals
    have hk4 : Wr b (stored W q gT i f0 f1 (i : Int) ((l.length : Int) + 1)) w3 := wr_drewL (wr_drewL hk3)
    refine ⟨by simp, .inl ⟨_, _, rfl, run_takeDeferred (hKs w3 hk4), ?_⟩⟩
    have hfin := ins_fin (o := .deferred none) (t := ⟨f0, f1, (i : Int)⟩) h hi hBW hql hTl hDs hk4 hC3 (by simp)
    exact ⟨_, results_tmp rfl _ _ _, rfl, l, [], (by simp), (fun x hx => by cases hx), hA, hfin.1, hfin.2⟩
end
end Go.Proofs.Ytokhbiaaaflphaa.ListD
