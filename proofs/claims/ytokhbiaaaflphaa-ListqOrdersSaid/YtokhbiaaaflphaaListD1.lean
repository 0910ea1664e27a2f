/-
  Queues in memory: Insert: a round that ends the search.
  No condition.
-/
import Derived.Test.YtokhbiaaaflphaaListD0
import Derived.Shelf.RegionOpen
namespace Go.Proofs.Ytokhbiaaaflphaa.ListD
open Go.RowKit Go.Shelf Go.Proofs.Ytokhbiaaaflphaa.ChainA Go.Proofs.Ytokhbiaaaflphaa.ChainM Go.Proofs.Ytokhbiaaaflphaa.ChainN Go.Proofs.Ytokhbiaaaflphaa.ChainE Go.Proofs.Ytokhbiaaaflphaa.ListM Go.Proofs.Ytokhbiaaaflphaa.ListA Go.Proofs.Ytokhbiaaaflphaa.ListB Go.Proofs.Ytokhbiaaaflphaa.ListC Go.Proofs.Ytokhbiaaaflphaa.GListqPlays Go.Proofs.YtokhbiaaaflphaaW.PrintWords Go.Proofs.YtokhbiaaaflphaaW.PrintLast Go.Proofs.YtokhbiaaaflphaaW.PrintMore
set_option linter.unusedVariables false
set_option linter.unusedSimpArgs false
section
attribute [local go_sem] Oper.semAt_some
set_option maxRecDepth 100000 in
set_option maxHeartbeats 4000000 in
theorem insB_lt (n : Nat) (hn : 1 ≤ n) (q gT g b p i : Nat) (f0 f1 : Int) (ts : List S38) (l : List Nat) (w W0 : World) (hS : InsW q gT g b p i f0 f1 ts l w W0) (y : Nat) (pre : List (Pl p)) (x : Pl p) (W : World) (hI : insI q gT g b p i f0 f1 ts w W0 pre W) (hb0 : bef (tn ts x.1) ⟨f0, f1, (i : Int)⟩) :
    insB.wpIn (Fence.wide.inRound y) n Try.prog (ownPostG W0.heap.size (KeepL [q, g, b, w.heap.size + 1 + 1 + 1]) (insI q gT g b p i f0 f1 ts w W0) (insX q gT g b p i f0 f1 ts w W0) (pre ++ [x]) W) ⟨insF q gT p i w.heap.size f0 f1 (.int .i64 (x.1 : Int)) (.int .i64 (x.1 : Int)), []⟩ W := by
  obtain ⟨⟨hK, hB5, hpre⟩, hBW⟩ := hI
  obtain ⟨h, h0, x0, x1, y3, hB0, hi⟩ := hS
  have hlb := h.lb
  have hq := h.lq
  have hT := h.lT
  have hg := hlb.1
  have hb := hlb.2.1
  have hmx : Try.prog.follows .mixedOrders = true := by kernel_rfl
  have hd : 1 ≤ n := by omega
  have c0 := blk_cell ((hK w.heap.size (by simp)).trans x0) 0
  have c1 := blk_cell ((hK (w.heap.size + 1) (by simp)).trans x1) 0
  have c2 := blk_cell ((hK (w.heap.size + 1) (by simp)).trans x1) 1
  have c3 := blk_cell ((hK (w.heap.size + 1) (by simp)).trans x1) 2
  have q0 := blk_cell ((hK q (by simp)).trans h0.hq) 0
  have hT1 := (hK gT (by simp)).trans h0.hT
  have hxl : x.1 < ts.length := by have := h.ht; have := x.2; omega
  have z0 : W.cell? ⟨gT, x.1 * 3, none⟩ = some (.int .u64 (tn ts x.1).f0) := (blk_cell hT1 (x.1 * 3)).trans (by rw [List.getElem?_toArray]; exact tc_0 ts x.1 hxl)
  have z1 : W.cell? ⟨gT, x.1 * 3 + 1, none⟩ = some (.int .u64 (tn ts x.1).f1) := (blk_cell hT1 (x.1 * 3 + 1)).trans (by rw [List.getElem?_toArray]; exact tc_1 ts x.1 hxl)
  have z2 : W.cell? ⟨gT, x.1 * 3 + 2, none⟩ = some (.int .i64 (tn ts x.1).f2) := (blk_cell hT1 (x.1 * 3 + 2)).trans (by rw [List.getElem?_toArray]; exact tc_2 ts x.1 hxl)
  have g1 : (x.1 : Int) < (p : Int) := by have := x.2; omega
  have hsW : w.heap.size + 1 + 1 + 1 < W.heap.size := blk_lt ((hK (w.heap.size + 1 + 1 + 1) (by simp)).trans y3)
  have hkl : ∀ k, k ∈ [q, gT, g, b, w.heap.size, w.heap.size + 1, w.heap.size + 1 + 1 + 1] → k < W.heap.size := by intro k hk; simp at hk; omega
  have hcm := fun W : World => tick_Compare.calls 10 (tn ts x.1).f0 (tn ts x.1).f1 (tn ts x.1).f2 f0 f1 (i : Int) _ W (compare_f (tn ts x.1) ⟨f0, f1, (i : Int)⟩)
  have hb := hb0
  simp only [insB, Try.f18, insF]
  rw [cmp_lt hb] at hcm
  gi_wp2
  gi_region_with_o (refine ⟨trivial, ?_⟩; gi_at_call 34; refine (CallsIn.inRound y (callsIn_wide.2 (hcm _))).mono ?_; rintro e w1 ⟨rfl, hb1⟩)
  all_goals gi_wp2
  all_goals
    have hb2 : Below W.heap.size W w1 := ⟨hb1.os, hb1.tape, hb1.output, hb1.size, hb1.block⟩
    exact ⟨keepsFrom_below hb2, ⟨rfl, keepL_t hK (keepL_below hb2 hkl), pre, x, rfl, below_blk hb2 hB5 hB5.lt, hpre, hb⟩, hBW.trans (hb2.mono hBW.size)⟩
end
end Go.Proofs.Ytokhbiaaaflphaa.ListD
