/-
  Chains in memory: the iterator, and what is collected of it.
  No condition.
-/
import Derived.Test.YtokhbiaaaflphaaChainN
import Derived.BigRegionIn
import Derived.RangeFuncNested
import Derived.RangeFuncBound
import Derived.RangeFuncCalls
import Derived.RangeFuncLeaves
import Derived.RangeFuncBox
import Derived.Shelf.Abstract
import Derived.OwnWalkIn
import Derived.TacticsInMore
import Derived.LoopNIn
import Derived.LoopIn
import Derived.Maps.AppendAt
import Derived.Lib.Hide
namespace Go.Proofs.Ytokhbiaaaflphaa.ChainE
open Go.RowKit Go.Shelf Go.Proofs.Ytokhbiaaaflphaa.ChainA Go.Proofs.Ytokhbiaaaflphaa.ChainM Go.Proofs.Ytokhbiaaaflphaa.ChainN Go.Proofs.Ytokhbiaaaflphaa.GListqPlays Go.Proofs.YtokhbiaaaflphaaW.PrintWords Go.Proofs.YtokhbiaaaflphaaW.PrintLast Go.Proofs.YtokhbiaaaflphaaW.PrintMore
set_option linter.unusedVariables false
set_option linter.unusedSimpArgs false
/-- These blocks lie as they lay. -/
def KeepL (ks : List Nat) (W W' : World) : Prop := ∀ k, k ∈ ks → W'.heap[k]? = W.heap[k]?
theorem keepL_t {ks : List Nat} {A B C : World} (h : KeepL ks A B) (k : KeepL ks B C) : KeepL ks A C := fun i hi => (k i hi).trans (h i hi)
theorem keepL_b {ks : List Nat} {w : World} (hk : ∀ k, k ∈ ks → k < w.heap.size) (W : World) (l : Nat) (o o' : Obj) (hl : w.heap.size ≤ l) (_ : W.heap[l]? = some o) (_ : o.isCells = false) (_ : o.isWalk = false) : KeepL ks W (W.putObj l o') :=
  fun k h => World.putObj_heap_other (by have := hk k h; omega)
theorem keepL_below {ks : List Nat} {n : Nat} {W W' : World} (h : Below n W W') (hk : ∀ k, k ∈ ks → k < n) : KeepL ks W W' := fun k hm => h.block k (hk k hm)
/-- How much of the list is left from x on. -/
def sfx : List Nat → Nat → Nat
  | [], _ => 0
  | y :: t, x => if y = x then t.length + 1 else sfx t x
theorem sfx_at (x : Nat) (r : List Nat) : ∀ d : List Nat, (d ++ x :: r).Nodup → sfx (d ++ x :: r) x = r.length + 1
  | [], _ => by simp [sfx]
  | y :: d, h => by
    have hn := List.nodup_cons.1 h
    have : y ≠ x := fun e => hn.1 (by rw [e]; exact List.mem_append_right _ List.mem_cons_self)
    simp only [List.cons_append, sfx, if_neg this]
    exact sfx_at x r d hn.2
theorem sfx_no (x : Nat) : ∀ d : List Nat, x ∉ d → sfx d x = 0
  | [], _ => rfl
  | y :: d, h => by
    have : y ≠ x := fun e => h (by rw [e]; exact List.mem_cons_self)
    simp only [sfx, if_neg this]
    exact sfx_no x d (fun q => h (List.mem_cons_of_mem _ q))
theorem seg_first {nx pv : Nat → Int} {a b : Nat} : ∀ {l : List Nat}, ChainR.Seg nx pv a l b → nx a = (ChainR.nxt b l : Int)
  | [], h => h.1
  | _ :: _, h => h.1
set_option maxRecDepth 100000 in
set_option maxHeartbeats 4000000 in
/-- each makes a closure over two new cells. -/
theorem each_calls (g : Nat) (j : Int) (w : World) :
    Calls Try.prog 43 #[.pointer (some ⟨g, 0, none⟩), .int .i64 j] w fun e w' => e = .returned (.func (.func 59) #[] #[.pointer (some ⟨w.heap.size, 0, none⟩), .pointer (some ⟨w.heap.size + 1, 0, none⟩)]) ∧
      w' = (w.alloc (.cells #[.pointer (some ⟨g, 0, none⟩)] 68)).alloc (.cells #[.int .i64 j] 3) := by
  have hmf : ∀ (fn : Fn) (first cap : Array Value) (w : World), (Instr.makeFunc fn first cap).run Try.prog w = .ok (.func fn first cap) w := fun _ _ _ _ => rfl
  go_enter Try.func43, Try.ntmps43
  go_wp2_with fail
  go_ret
  exact ⟨rfl, rfl⟩
set_option maxRecDepth 100000 in
set_option maxHeartbeats 4000000 in
theorem each0_in (n : Nat) (hn : 1 ≤ n) (g b c1 c2 l p : Nat) (j : Int) (L : List (List Nat)) (W : World) (h1 : W.heap[c1]? = some (.cells #[.pointer (some ⟨g, 0, none⟩)] 68 (0, 0))) (h2 : W.heap[c2]? = some (.cells #[.int .i64 j] 3 (0, 0))) (hC : Chn W g b p L) (hj : ¬ (0 ≤ j ∧ j < L.length)) :
    CallsIn Fence.wide n Try.prog 59 #[.func (.yield l) #[] #[], .pointer (some ⟨c1, 0, none⟩), .pointer (some ⟨c2, 0, none⟩)] W fun e W' => (∃ v, e = .returned v) ∧ W' = W := by
  have k1 := blk_cell h1 0
  have k2 := blk_cell h2 0
  obtain ⟨ns, hCh, hR⟩ := hC
  refine callsIn_of_wp Try.func59 rfl trivial ?_ rfl
  simp only [Try.ntmps59, List.size_toArray, List.length_cons, List.length_nil, Nat.reduceAdd, Nat.reduceSub, Array.replicate_succ, Array.replicate_zero, List.push_toArray, List.append_toArray, List.nil_append, List.cons_append]
  gi_wp2_with (refine ⟨trivial, ?_⟩; gi_at_call 53; refine (callsIn_wide.2 (list_no g b p L.length j ns _ hCh hj)).mono ?_; rintro e w1 ⟨rfl, rfl⟩)
  refine bodyPost_ret (results_none rfl _ _ _) rfl ?_
  exact ⟨⟨_, rfl⟩, rfl⟩
set_option maxRecDepth 100000 in
set_option maxHeartbeats 4000000 in
theorem each1_in (n : Nat) (hn : 1 ≤ n) (g b c1 c2 l p : Nat) (j : Nat) (L : List (List Nat)) (xs : List Nat) (J Jx : List Nat → World → Prop) (W : World)
    (hY : ∀ (pre : List Nat) (x : Nat) (W1 : World), J pre W1 → pre.length < xs.length → YieldAt Fence.wide (n - 1) Try.prog l #[.int .i64 (x : Int)] W1 fun e W' =>
      (e = .returned (.bool true) ∧ J (pre ++ [x]) W' ∧ KeepL [g, b, c1, c2] W1 W') ∨ (e = .returned (.bool false) ∧ Jx (pre ++ [x]) W'))
    (hJ : AbidesFrom W.heap.size J) (h1 : W.heap[c1]? = some (.cells #[.pointer (some ⟨g, 0, none⟩)] 68 (0, 0))) (h2 : W.heap[c2]? = some (.cells #[.int .i64 (j : Int)] 3 (0, 0))) (hC : Chn W g b p L) (hj : L[j]? = some xs) (h0 : J [] W) :
    CallsIn Fence.wide n Try.prog 59 #[.func (.yield l) #[] #[], .pointer (some ⟨c1, 0, none⟩), .pointer (some ⟨c2, 0, none⟩)] W fun e W' => (∃ v, e = .returned v) ∧
      ((∃ ys, ys = xs ∧ J ys W') ∨ (∃ pre, pre <+: xs ∧ Jx pre W')) := by
  have k1 := blk_cell h1 0
  have k2 := blk_cell h2 0
  obtain ⟨ns, hCh, hR⟩ := hC
  have hjl := ChainS.lt_len hj
  have hs := hR.seg j xs hj
  have hnd := hR.hd j xs hj
  have hlen := hR.len
  have h2048 := hCh.2.2.2
  have k0 := hCh.c0
  refine callsIn_of_wp Try.func59 rfl trivial ?_ rfl
  simp only [Try.ntmps59, List.size_toArray, List.length_cons, List.length_nil, Nat.reduceAdd, Nat.reduceSub, Array.replicate_succ, Array.replicate_zero, List.push_toArray, List.append_toArray, List.nil_append, List.cons_append]
  gi_wp2_with (refine ⟨trivial, ?_⟩; gi_at_call 53; refine (callsIn_wide.2 (list_yes g b p L.length j ns _ hCh (by omega) (by omega))).mono ?_; rintro e w1 ⟨rfl, rfl⟩)
  gi_region
  have g0 : (0 : Int) ≤ (p : Int) + (j : Int) := by omega
  have g1 : (p : Int) + (j : Int) < (ns.length : Int) := by omega
  have e2 : ((p : Int) + (j : Int)).toNat = p + j := by omega
  have m2 := hCh.c2
  have m0 := hCh.n0 (p + j) (by omega)
  have hf : (nd ns (p + j)).f0.f0 = (ChainR.nxt (p + j) xs : Int) := seg_first hs
  rw [hf] at m0
  have hJd0 : J [] w1.drew := hJ _ _ _ none h0 ⟨rfl, rfl, rfl, Nat.le_refl _, fun _ _ _ => rfl⟩ (fun _ e => by cases e)
  have hs' := Lib.hid hs
  have hlen' := Lib.hid hlen
  clear hs hlen hf
  gi_wp2
  gi_loopw [5] (fun i wr => ∃ d r : List Nat, xs = d ++ r ∧ i = .int .i64 (ChainR.nxt (p + j) r : Int) ∧ J d wr ∧ KeepL [g, b, c1, c2] w1 wr) (fun i _ => sfx xs (intOf i).toNat)
  case atStart => exact ⟨[], xs, rfl, rfl, hJd0, fun _ _ => rfl⟩
  case round =>
    obtain ⟨d, r, hx, rfl, hJd, hK⟩ := hrel
    cases r with
    | nil =>
      rw [List.append_nil] at hx
      rw [show ChainR.nxt (p + j) ([] : List Nat) = p + j from rfl]
      have hb : (((p + j : Nat) : Int) != (p : Int) + (j : Int)) = false := by simp
      gi_wp2
      go_end0
      exact ⟨⟨_, rfl⟩, .inl ⟨d, hx.symm, hJd⟩⟩
    | cons x r =>
      have hxp : x < p := (hR.mem j xs x hj (by rw [hx]; exact List.mem_append_right _ List.mem_cons_self)).1
      rw [show ChainR.nxt (p + j) (x :: r) = x from rfl]
      have hb : ((x : Int) != (p : Int) + (j : Int)) = true := bne_iff_ne.mpr (by omega)
      obtain ⟨fn, tmps, assign, body, hy, hR1⟩ := hY d x wr hJd (by rw [hx]; simp)
      gi_wp2
      refine hR1.mono ?_
      rintro e W3 (⟨rfl, hJ3, hk3⟩ | ⟨rfl, hJx3⟩)
      · have hK3 := keepL_t hK hk3
        have z1 := blk_cell ((hK3 c1 (by simp)).trans h1) 0
        have hC3 : Ch W3 g b (p : Int) (L.length : Int) ns := hCh.keep (hK3 g (by simp)) (hK3 b (by simp))
        have z2 := hC3.c2
        have z0 := hC3.n0 x (by have := hlen'.out; omega)
        have hsx : (nd ns x).f0.f0 = (ChainR.nxt (p + j) r : Int) := by
          have := hs'.out
          rw [hx, ChainR.seg_app] at this
          exact seg_first this.2
        rw [hsx] at z0
        have g3 : (x : Int) < (ns.length : Int) := by have := hlen'.out; omega
        have hx' := Lib.hid hx
        clear hx hsx
        gi_wp2
        go_roundw
        case rel => exact ⟨d ++ [x], r, by rw [hx'.out]; simp, rfl, hJ3, hK3⟩
        case measure =>
          have hdn := (List.nodup_cons.1 hnd).2
          have hpj := (List.nodup_cons.1 hnd).1
          simp only [intOf, Int.toNat_natCast]
          rw [hx'.out] at hdn hpj ⊢
          rw [sfx_at x r d hdn]
          cases r with
          | nil => rw [show ChainR.nxt (p + j) [] = p + j from rfl, sfx_no _ _ hpj]; omega
          | cons y r2 =>
            rw [show ChainR.nxt (p + j) (y :: r2) = y from rfl, show d ++ x :: y :: r2 = (d ++ [x]) ++ y :: r2 by simp, sfx_at y r2 (d ++ [x]) (by simpa using hdn)]
            simp
      · gi_wp2
        refine bodyPost_ret (results_none rfl _ _ _) rfl ?_
        exact ⟨⟨_, rfl⟩, .inr ⟨d ++ [x], ⟨r, by rw [hx]; simp⟩, hJx3⟩⟩
/-- each's value: all of the list in its order, or a part of it, if a round has said that it is enough. -/
theorem each_stops (n : Nat) (hn : 1 ≤ n) (g b c1 c2 p : Nat) (j : Int) (L : List (List Nat)) (w : World) (h1 : w.heap[c1]? = some (.cells #[.pointer (some ⟨g, 0, none⟩)] 68 (0, 0))) (h2 : w.heap[c2]? = some (.cells #[.int .i64 j] 3 (0, 0))) (hC : Chn w g b p L) :
    SeqStopsK Fence.wide n Try.prog 59 #[.pointer (some ⟨c1, 0, none⟩), .pointer (some ⟨c2, 0, none⟩)] (fun x : Nat => #[Value.int .i64 (x : Int)]) (KeepL [g, b, c1, c2]) (fun ys => ys = atL L j) (fun pre => pre <+: atL L j) (atL L j).length w := fun l J Jx W hW hJ hJx hY h0 => by
  have h1' := (hW.block c1 (blk_lt h1)).trans h1
  have h2' := (hW.block c2 (blk_lt h2)).trans h2
  have hC' := hC.below hW
  by_cases hj : 0 ≤ j ∧ j < L.length
  · obtain ⟨jn, rfl⟩ : ∃ m : Nat, j = m := ⟨j.toNat, by omega⟩
    rw [atL_nat] at hY ⊢
    exact each1_in n hn g b c1 c2 l p jn L _ J Jx W hY hJ h1' h2' hC' (getD_at (by omega)) h0
  · rw [atL_no L j hj]
    refine (each0_in n hn g b c1 c2 l p j L W h1' h2' hC' hj).mono ?_
    rintro e W' ⟨hv, rfl⟩
    exact ⟨hv, .inl ⟨[], rfl, h0⟩⟩
end Go.Proofs.Ytokhbiaaaflphaa.ChainE
