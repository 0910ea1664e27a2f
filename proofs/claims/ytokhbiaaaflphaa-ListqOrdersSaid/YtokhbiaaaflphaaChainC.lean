/-
  Chains in memory: New.
  No condition.
-/
import Derived.Test.YtokhbiaaaflphaaChainA
namespace Go.Proofs.Ytokhbiaaaflphaa.ChainC
open Go.RowKit Go.Proofs.Ytokhbiaaaflphaa.ChainA Go.Proofs.Ytokhbiaaaflphaa.GListqPlays Go.Proofs.YtokhbiaaaflphaaW.PrintWords Go.Proofs.YtokhbiaaaflphaaW.PrintLast Go.Proofs.YtokhbiaaaflphaaW.PrintMore
set_option linter.unusedVariables false
set_option linter.unusedSimpArgs false
theorem cl_zero : ∀ m : Nat, cl (List.replicate m z94) = List.replicate (m * 3) (.int .i64 0)
  | 0 => rfl
  | m + 1 => by
    rw [List.replicate_succ, show (m + 1) * 3 = m * 3 + 1 + 1 + 1 by omega, List.replicate_succ, List.replicate_succ, List.replicate_succ]
    simp only [cl, cl_zero m]; rfl
theorem made_zero (m : Nat) : madeCells #[.int .i64 0, .int .i64 0, .int .i64 0] (m * 3) = (cl (List.replicate m z94)).toArray := by
  rw [cl_zero]
  apply Array.ext
  · simp [madeCells]
  · intro i h1 h2
    have h3 : i % 3 < 3 := Nat.mod_lt _ (by decide)
    simp [madeCells]
    rcases (show i % 3 = 0 ∨ i % 3 = 1 ∨ i % 3 = 2 by omega) with h | h | h <;> simp [h]
theorem info94 : (Try.prog.info? 94).map (fun i => (i.zero, i.size, i.bytes)) = some (some (.agg #[.int .i64 0, .int .i64 0, .int .i64 0]), 3, 24) := by kernel_rfl
theorem mk_nodes (m : Nat) (hm : m ≤ 2048) : ∀ W : World, (Instr.makeSlice 95 (.int .i64 (m : Int)) (.int .i64 (m : Int))).run Try.prog W = .ok (.slice (some ⟨W.heap.size, 0, none⟩) m m) (W.alloc (.cells (cl (List.replicate m z94)).toArray 94)) := by
  intro W
  obtain ⟨i0, hi, hzz⟩ := Option.map_eq_some_iff.1 info94
  simp only [Prod.mk.injEq] at hzz
  obtain ⟨hz0, hz1, hz2⟩ := hzz
  have hr := run_make (P := Try.prog) W 95 94 i0 _ Try.underlying95 hi hz0 .i64 .i64 (m : Int) (m : Int) (by omega) (by omega) (by rw [hz2]; omega) (by omega)
  simp only [Int.toNat_natCast] at hr
  rw [hr, hz1, ← made_zero]
  rfl
/-- Nodes of which none stands in a list. -/
def fresh (n : Nat) : List S94 := (List.range n).map fun (i : Nat) => ⟨⟨(i : Int), (i : Int)⟩, -1⟩
/-- Nodes, the first j of which are laid. -/
def part (n j : Nat) : List S94 := (List.range n).map fun (i : Nat) => if i < j then ⟨⟨(i : Int), (i : Int)⟩, -1⟩ else z94
theorem part_len (n j : Nat) : (part n j).length = n := by simp [part]
theorem part_0 (n : Nat) : part n 0 = List.replicate n z94 := by
  apply List.ext_getElem
  · simp [part]
  · intro i h1 h2; simp [part]
theorem part_all (n : Nat) : part n n = fresh n := by
  apply List.ext_getElem
  · simp [part, fresh]
  · intro i h1 h2
    have : i < n := by simpa [part] using h1
    simp [part, fresh, this]
theorem nd_set (ns : List S94) (i : Nat) (x : S94) (h : i < ns.length) : nd (ns.set i x) i = x := by
  unfold nd; rw [List.getD_eq_getElem?_getD, List.getElem?_set_self h]; rfl
theorem laid (ns : List S94) (j : Nat) (h : j < ns.length) (a b c : Int) : sIn (sPrev (sNext ns j a) j b) j c = ns.set j ⟨⟨a, b⟩, c⟩ := by
  simp only [sIn, sPrev, sNext, List.set_set, nd_set ns j _ h]
theorem part_step (n j : Nat) (h : j < n) : (part n j).set j ⟨⟨(j : Int), (j : Int)⟩, -1⟩ = part n (j + 1) := by
  apply List.ext_getElem
  · simp [part]
  · intro i h1 h2
    rw [List.getElem_set]
    by_cases hij : j = i
    · subst hij; simp [part]
    · rw [if_neg hij]
      by_cases h3 : i < j
      · have : i < j + 1 := by omega
        simp [part, h3, this]
      · have : ¬ i < j + 1 := by omega
        simp [part, h3, this]
set_option maxRecDepth 100000 in
set_option maxHeartbeats 4000000 in
theorem new_arg (p l : Int) (w : World) (hn : p < 0 ∨ 1024 < p ∨ l < 0 ∨ 1024 < l) :
    Calls Try.prog 37 #[.int .i64 p, .int .i64 l] w fun e w' => e = .returned (.tuple #[.pointer none, .int .i64 1]) ∧ w' = w := by
  by_cases h1 : p < 0
  · have d1 : decide (p < 0) = true := decide_eq_true h1
    go_enter Try.func37, Try.ntmps37
    go_wp2_with fail
    go_ret2
    exact ⟨rfl, rfl⟩
  have d1 : decide (p < 0) = false := decide_eq_false h1
  by_cases h2 : 1024 < p
  · have d2 : decide (1024 < p) = true := decide_eq_true h2
    go_enter Try.func37, Try.ntmps37
    go_wp2_with fail
    go_ret2
    exact ⟨rfl, rfl⟩
  have d2 : decide (1024 < p) = false := decide_eq_false h2
  by_cases h3 : l < 0
  · have d3 : decide (l < 0) = true := decide_eq_true h3
    go_enter Try.func37, Try.ntmps37
    go_wp2_with fail
    go_ret2
    exact ⟨rfl, rfl⟩
  have d3 : decide (l < 0) = false := decide_eq_false h3
  have d4 : decide (1024 < l) = true := decide_eq_true (by omega)
  go_enter Try.func37, Try.ntmps37
  go_wp2_with fail
  go_ret2
  exact ⟨rfl, rfl⟩
set_option maxRecDepth 100000 in
set_option maxHeartbeats 4000000 in
theorem new_ok (p l : Nat) (w : World) (hp : p ≤ 1024) (hl : l ≤ 1024) :
    Calls Try.prog 37 #[.int .i64 p, .int .i64 l] w fun e w' => ∃ g b : Nat, e = .returned (.tuple #[.pointer (some ⟨g, 0, none⟩), .int .i64 0]) ∧ Ch w' g b p l (fresh (p + l)) ∧ w.heap.size ≤ g ∧ w.heap.size ≤ b ∧ Below w.heap.size w w' := by
  have d1 : decide ((p : Int) < 0) = false := decide_eq_false (by omega)
  have d2 : decide (1024 < (p : Int)) = false := decide_eq_false (by omega)
  have d3 : decide ((l : Int) < 0) = false := decide_eq_false (by omega)
  have d4 : decide (1024 < (l : Int)) = false := decide_eq_false (by omega)
  have hmk : ∀ W : World, (Instr.makeSlice 95 (.int .i64 ((p : Int) + (l : Int))) (.int .i64 ((p : Int) + (l : Int)))).run Try.prog W = .ok (.slice (some ⟨W.heap.size, 0, none⟩) (p + l) (p + l)) (W.alloc (.cells (cl (List.replicate (p + l) z94)).toArray 94)) := by
    have := mk_nodes (p + l) (by omega)
    simpa using this
  go_enter Try.func37, Try.ntmps37
  go_wp2_with fail
  have hC0 : Ch ((w.alloc (Obj.cells (cl (List.replicate (p + l) z94)).toArray 94)).alloc (Obj.cells #[Value.int IntKind.i64 ↑p, Value.int IntKind.i64 ↑l, Value.slice (some { block := w.heap.size, off := 0 }) (p + l) (p + l)] 97)) (w.heap.size + 1) w.heap.size p l (part (p + l) 0) := by
    refine ⟨?_, ?_, by omega, by rw [part_len]; omega⟩
    · have := heap_alloc_new (w.alloc (Obj.cells (cl (List.replicate (p + l) z94)).toArray 94)) (Obj.cells #[Value.int IntKind.i64 ↑p, Value.int IntKind.i64 ↑l, Value.slice (some { block := w.heap.size, off := 0 }) (p + l) (p + l)] 97)
      rw [part_len]
      simpa using this
    · rw [part_0]
      exact (Below.heap_alloc _ _ _ (by simp)).trans (heap_alloc_new w _)
  have hB0 : Below w.heap.size w ((w.alloc (Obj.cells (cl (List.replicate (p + l) z94)).toArray 94)).alloc (Obj.cells #[Value.int IntKind.i64 ↑p, Value.int IntKind.i64 ↑l, Value.slice (some { block := w.heap.size, off := 0 }) (p + l) (p + l)] 97)) := ((Below.refl _ _).alloc (Nat.le_refl _) _).alloc (by simp) _
  generalize ((w.alloc (Obj.cells (cl (List.replicate (p + l) z94)).toArray 94)).alloc (Obj.cells #[Value.int IntKind.i64 ↑p, Value.int IntKind.i64 ↑l, Value.slice (some { block := w.heap.size, off := 0 }) (p + l) (p + l)] 97)) = W0 at hC0 hB0
  have hu62 := Try.underlying94
  have hu60 := Try.underlying92
  go_loopw [35] (fun i wr => ∃ j : Nat, i = .int .i64 j ∧ j ≤ p + l ∧ Ch wr (w.heap.size + 1) w.heap.size p l (part (p + l) j) ∧ Below w.heap.size w wr) (fun i _ => p + l - (intOf i).toNat)
  case atStart => exact ⟨0, rfl, Nat.zero_le _, hC0, hB0⟩
  case round =>
    obtain ⟨j, rfl, hj, hC, hB⟩ := hrel
    have c2 := hC.c2
    rw [part_len] at c2
    by_cases hlt : j < p + l
    · have hl : j < (part (p + l) j).length := by rw [part_len]; exact hlt
      have b0 := hC.n0 j hl
      have b1 := hC.n1 j hl
      have b2 := hC.n2 j hl
      have f0 := blk_frozen hC.2.1 (j * 3)
      have f1 := blk_frozen hC.2.1 (j * 3 + 1)
      have f2 := blk_frozen hC.2.1 (j * 3 + 2)
      go_wp2_with fail
      have hC1 := ((hC.s0 j hl j).s1 j (by rw [sNext_len]; exact hl) j).s2 j (by rw [sPrev_len, sNext_len]; exact hl) (-1)
      rw [laid _ j hl, part_step (p + l) j hlt] at hC1
      refine ⟨⟨j + 1, by simp, by omega, hC1, ((hB.setCell (p := ⟨w.heap.size, j * 3, none⟩) (Nat.le_refl _) _).setCell (p := ⟨w.heap.size, j * 3 + 1, none⟩) (Nat.le_refl _) _).setCell (p := ⟨w.heap.size, j * 3 + 2, none⟩) (Nat.le_refl _) _⟩, ?_⟩
      simp only [intOf]
      omega
    · go_wp2_with fail
      go_ret2
      have hjj : j = p + l := by omega
      subst hjj
      rw [part_all] at hC
      exact ⟨_, _, rfl, hC, by omega, Nat.le_refl _, hB⟩
end Go.Proofs.Ytokhbiaaaflphaa.ChainC
