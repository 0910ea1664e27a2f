/-
  Chains in memory: All and First.
  No condition.
-/
import Derived.Test.YtokhbiaaaflphaaChainE
namespace Go.Proofs.Ytokhbiaaaflphaa.ChainF
open Go.RowKit Go.Shelf Go.Proofs.Ytokhbiaaaflphaa.ChainA Go.Proofs.Ytokhbiaaaflphaa.ChainM Go.Proofs.Ytokhbiaaaflphaa.ChainN Go.Proofs.Ytokhbiaaaflphaa.ChainE Go.Proofs.Ytokhbiaaaflphaa.GListqPlays Go.Proofs.YtokhbiaaaflphaaW.PrintWords Go.Proofs.YtokhbiaaaflphaaW.PrintLast Go.Proofs.YtokhbiaaaflphaaW.PrintMore
set_option linter.unusedVariables false
set_option linter.unusedSimpArgs false
theorem nodup_le : ∀ (p : Nat) (l : List Nat), l.Nodup → (∀ x, x ∈ l → x < p) → l.length ≤ p
  | 0, [], _, _ => Nat.le_refl _
  | 0, x :: l, _, h => absurd (h x List.mem_cons_self) (Nat.not_lt_zero _)
  | p + 1, l, hn, h => by
    have h1 := nodup_le p (l.erase p) (hn.erase p) (fun x hx => by
      have := (List.Nodup.mem_erase_iff hn).1 hx
      have := h x this.2
      omega)
    have h2 : l.length ≤ (l.erase p).length + 1 := by
      rw [List.length_erase]; split <;> omega
    omega
theorem chn_small {w : World} {g b p : Nat} {L : List (List Nat)} (h : Chn w g b p L) : p + L.length ≤ 2048 := by
  obtain ⟨ns, h1, h2⟩ := h
  have := h1.2.2.2
  have := h2.len
  omega
theorem chn_len {w : World} {g b p : Nat} {L : List (List Nat)} (h : Chn w g b p L) (j : Int) : (atL L j).length ≤ p := by
  obtain ⟨ns, h1, h2⟩ := h
  by_cases hj : 0 ≤ j ∧ j < L.length
  · obtain ⟨m, rfl⟩ : ∃ m : Nat, j = m := ⟨j.toNat, by omega⟩
    rw [atL_nat]
    have hl := getD_at (L := L) (j := m) (by omega)
    exact nodup_le p _ (h2.nodup m _ hl) (fun x hx => (h2.mem m _ x hl hx).1)
  · rw [atL_no L j hj]; exact Nat.zero_le _
theorem chn_lt {w : World} {g b p : Nat} {L : List (List Nat)} (h : Chn w g b p L) (j : Int) (x : Nat) (hx : x ∈ atL L j) : x < p := by
  obtain ⟨ns, h1, h2⟩ := h
  by_cases hj : 0 ≤ j ∧ j < L.length
  · obtain ⟨m, rfl⟩ : ∃ m : Nat, j = m := ⟨j.toNat, by omega⟩
    rw [atL_nat] at hx
    exact (h2.mem m _ x (getD_at (L := L) (j := m) (by omega)) hx).1
  · rw [atL_no L j hj] at hx; cases hx
theorem info3_ : (Try.prog.info? 3).map (fun i => (i.zero, i.size, i.bytes)) = some (some (.int .i64 0), 1, 8) := by kernel_rfl
/-- Whole numbers of a list of places. -/
def toI (l : List Nat) : List Int := l.map fun (x : Nat) => (x : Int)
theorem toI_len (l : List Nat) : (toI l).length = l.length := by simp [toI]
section
attribute [local go_sem] Oper.semAt_some
set_option maxRecDepth 100000 in
set_option maxHeartbeats 4000000 in
theorem seq_in (n : Nat) (hn : 3 ≤ n) (g b c1 c2 p : Nat) (j : Int) (L : List (List Nat)) (w : World) (h1 : w.heap[c1]? = some (.cells #[.pointer (some ⟨g, 0, none⟩)] 68 (0, 0))) (h2 : w.heap[c2]? = some (.cells #[.int .i64 j] 3 (0, 0))) (hC : Chn w g b p L) :
    CallsIn Fence.wide n Try.prog 58 #[.slice none 0 0, .func (.func 59) #[] #[.pointer (some ⟨c1, 0, none⟩), .pointer (some ⟨c2, 0, none⟩)]] w fun e w' => ∃ v, e = .returned v ∧ w'.ownsRow w.heap.size 3 1 v (toI (atL L j)).length ((toI (atL L j)).map (Value.int .i64)) ∧ Below w.heap.size w w' := by
  have hn1 : 1 ≤ n := by omega
  have hlen := chn_len hC j
  have hsm := chn_small hC
  obtain ⟨i0, hi, hz0, hz1, hz2⟩ := info_parts info3_
  have hg := hC.glt
  have hb := hC.blt
  have hc1 := blk_lt h1
  have hc2 := blk_lt h2
  refine callsIn_of_wp_marks Try.func58 rfl trivial ?_ rfl
  simp only [Try.ntmps58, List.size_toArray, List.length_cons, List.length_nil, Nat.reduceAdd, Nat.reduceSub, Array.replicate_succ, Array.replicate_zero, List.push_toArray, List.append_toArray, List.nil_append, List.cons_append]
  gi_wp2
  have bO := Boxed.new w 67 (.slice none 0 0)
  have hB0 : Below w.heap.size w (w.alloc (.cells #[.slice none 0 0] 67)) := (Below.refl _ w).alloc (Nat.le_refl _) _
  have e1 : (w.alloc (.cells #[.slice none 0 0] 67)).heap[c1]? = some (.cells #[.pointer (some ⟨g, 0, none⟩)] 68 (0, 0)) := blk_alloc h1 _
  have e2 : (w.alloc (.cells #[.slice none 0 0] 67)).heap[c2]? = some (.cells #[.int .i64 j] 3 (0, 0)) := blk_alloc h2 _
  have eC := hC.alloc (.cells #[.slice none 0 0] 67)
  refine wpIn_rangeFunc_ownG rfl hn1 (gf := 59) (lb := #[.pointer (some ⟨c1, 0, none⟩), .pointer (some ⟨c2, 0, none⟩)]) rfl trivial (enters_of Try.func59 (by kernel_rfl) rfl)
    (each_stops (n - 1) (by omega) g b c1 c2 p j L _ e1 e2 eC) keepL_t (keepL_b (by intro k hk; simp at hk; rcases hk with rfl | rfl | rfl | rfl <;> simp <;> omega)) (Below.refl _ _) (fun _ => rfl)
    (fun pre W => (∃ v, Boxed W w.heap.size 67 v ∧ W.ownsRow w.heap.size 3 1 v (toI pre).length ((toI pre).map (Value.int .i64)) ∧ True) ∧ Below w.heap.size w W)
    (fun _ _ _ => False)
    (OwnFrom.and (Own.from (holdsRow_own w.heap.size w.heap.size 67 3 1 (fun pre => (toI pre).length) (fun pre => (toI pre).map (Value.int .i64)) (fun pre v => True)) _) (ownFrom_below (Nat.le_refl _) (by simp)))
    (fun _ _ _ _ _ hs _ _ => hs)
    ⟨⟨_, bO, World.ownsRow_nil _ _ _ _, trivial⟩, hB0⟩
    (fun x => { tmps := #[.slice none 0 0, .func (.func 59) #[] #[.pointer (some ⟨c1, 0, none⟩), .pointer (some ⟨c2, 0, none⟩)], .pointer (some ⟨w.heap.size, 0, none⟩), undef, .slice none 0 0, .int .i64 (x : Int), .func (.func 59) #[] #[.pointer (some ⟨c1, 0, none⟩), .pointer (some ⟨c2, 0, none⟩)], .int .i64 (x : Int), undef, undef, undef, undef, undef], defers := [] }) ?assign ?body ?done ?stop
  case assign =>
    intro l x W K hK
    gi_wp2
    exact hK
  case body =>
    rintro l pre x W ⟨⟨v, hv, hrow, -⟩, hB⟩ hlt
    have hc := hv.cell
    have hpl := toI_len pre
    have hmx : maxLen = 9223372036854775807 := rfl
    have hlt' := Lib.hid hlt
    have hpl' := Lib.hid hpl
    have hmx' := Lib.hid hmx
    clear hpl hlt hmx
    gi_wp2_with (gi_at_builtin; refine wpListIn_append_own _ rfl _ _ 67 rfl w.heap.size 3 i0 (.int .i64 0) 1 8 Try.underlying67 hi hz0 hz1 hz2 rfl (by decide) _ _ _ rfl (hrow.alloc _) ⟨W.heap.size, 0, none⟩ 1 1 [.int .i64 (x : Int)] rfl rfl (cell_one_new _ _ _) (by simp [Value.oneCell']) (by have := hlt'.out; have := hpl'.out; have := hmx'.out; omega) (by have := hlt'.out; have := hpl'.out; omega) (by have := hB.size; simp; omega) ?_; intro v' w1 hown' hgrow _; obtain ⟨g', cap', rfl⟩ := ownsRow_succ hown'; obtain ⟨hv1, hv2, hr2, hk2, hb2⟩ := hv.appended (by decide) hrow hB.size (Nat.le_refl _) hown' hgrow; have hc1 := hv1.cell; have hf1 := hv1.frozen)
    exact ⟨hk2.from _, keepL_below hb2 (by intro k hk; simp at hk; rcases hk with rfl | rfl | rfl | rfl <;> omega), ⟨_, hv2, by simpa [toI] using hr2, trivial⟩, hB.trans hb2⟩
  case done =>
    rintro D ys W hD rfl ⟨⟨v, hv, hrow, -⟩, hB⟩ hK
    have hc := hv.cell
    gi_wp2
    refine ⟨by simp, .inl ⟨_, _, rfl, run_takeDeferred hK, ?_⟩⟩
    exact ⟨_, results_tmp rfl _ _ _, v, rfl, ownsRow_putObj hrow _ hK rfl, hB.trans (belowK_b (w := w) (Nat.le_refl _) W D _ _ (by simp at hD; omega) hK rfl rfl)⟩
  case stop =>
    rintro D c pre W _ _ h _
    exact h.elim
end
set_option maxRecDepth 100000 in
set_option maxHeartbeats 4000000 in
theorem collect_in (n : Nat) (hn : 4 ≤ n) (g b c1 c2 p : Nat) (j : Int) (L : List (List Nat)) (w : World) (h1 : w.heap[c1]? = some (.cells #[.pointer (some ⟨g, 0, none⟩)] 68 (0, 0))) (h2 : w.heap[c2]? = some (.cells #[.int .i64 j] 3 (0, 0))) (hC : Chn w g b p L) :
    CallsIn Fence.wide n Try.prog 42 #[.func (.func 59) #[] #[.pointer (some ⟨c1, 0, none⟩), .pointer (some ⟨c2, 0, none⟩)]] w fun e w' => ∃ v, e = .returned v ∧ w'.ownsRow w.heap.size 3 1 v (toI (atL L j)).length ((toI (atL L j)).map (Value.int .i64)) ∧ Below w.heap.size w w' := by
  have hn1 : 1 ≤ n := by omega
  refine callsIn_of_wp Try.func42 rfl trivial ?_ rfl
  simp only [Try.ntmps42, List.size_toArray, List.length_cons, List.length_nil, Nat.reduceAdd, Nat.reduceSub, Array.replicate_succ, Array.replicate_zero, List.push_toArray, List.append_toArray, List.nil_append, List.cons_append]
  gi_wp2_with (refine ⟨trivial, ?_⟩; gi_at_call 58; refine (seq_in (n - 1) (by omega) g b c1 c2 p j L _ h1 h2 hC).mono ?_; rintro e w1 ⟨v, rfl, ho, hb⟩)
  refine bodyPost_ret (results_tmp rfl _ _ _) rfl ?_
  exact ⟨_, rfl, ho, hb⟩
set_option maxRecDepth 100000 in
set_option maxHeartbeats 4000000 in
theorem all_calls (g b p : Nat) (j : Int) (L : List (List Nat)) (w : World) (hC : Chn w g b p L) :
    Calls Try.prog 28 #[.pointer (some ⟨g, 0, none⟩), .int .i64 j] w fun e w' => ∃ v, e = .returned v ∧ w'.ownsRow w.heap.size 3 1 v (toI (atL L j)).length ((toI (atL L j)).map (Value.int .i64)) ∧ Below w.heap.size w w' := by
  go_enter Try.func28, Try.ntmps28
  go_wp2_with fail
  go_at_call 43
  refine (each_calls g j _).mono ?_
  rintro e w1 ⟨rfl, rfl⟩
  simp only []
  go_wp2_with fail
  go_at_call 42
  have e1 := blk_alloc (World.alloc_heap_new w (.cells #[.pointer (some ⟨g, 0, none⟩)] 68)) (.cells #[.int .i64 j] 3)
  have e2 := World.alloc_heap_new (w.alloc (.cells #[.pointer (some ⟨g, 0, none⟩)] 68)) (.cells #[.int .i64 j] 3)
  rw [World.size_alloc] at e2
  have hB0 : Below w.heap.size w ((w.alloc (.cells #[.pointer (some ⟨g, 0, none⟩)] 68)).alloc (.cells #[.int .i64 j] 3)) := ((Below.refl _ w).alloc (Nat.le_refl _) _).alloc (by simp) _
  refine (callsIn_wide.1 (collect_in 5 (by omega) g b w.heap.size (w.heap.size + 1) p j L _ e1 e2 ((hC.alloc _).alloc _))).mono ?_
  rintro e w2 ⟨v, rfl, ho, hb⟩
  simp only []
  go_wp2_with fail
  go_ret
  refine ⟨_, rfl, ?_, ?_⟩
  · obtain ⟨o1, o2⟩ := ho
    refine ⟨o1, ?_⟩
    rcases o2 with o2 | ⟨gg, cap, cur, rfl, hg, r⟩
    · exact .inl o2
    · exact .inr ⟨gg, cap, cur, rfl, by simp at hg; omega, r⟩
  · exact hB0.trans (hb.mono (by simp; omega))
section
attribute [local go_sem] Oper.semAt_some
set_option maxRecDepth 100000 in
set_option maxHeartbeats 4000000 in
theorem first_in (n : Nat) (hn : 3 ≤ n) (g b p : Nat) (j : Int) (L : List (List Nat)) (w : World) (hC : Chn w g b p L) :
    CallsIn Fence.wide n Try.prog 31 #[.pointer (some ⟨g, 0, none⟩), .int .i64 j] w fun e w' => e = .returned (.tuple #[.int .i64 (hdP (atL L j)).1, .bool (hdP (atL L j)).2]) ∧ Below w.heap.size w w' := by
  have hn1 : 1 ≤ n := by omega
  have hg := hC.glt
  have hb := hC.blt
  refine callsIn_of_wp_marks Try.func31 rfl trivial ?_ rfl
  simp only [Try.ntmps31, List.size_toArray, List.length_cons, List.length_nil, Nat.reduceAdd, Nat.reduceSub, Array.replicate_succ, Array.replicate_zero, List.push_toArray, List.append_toArray, List.nil_append, List.cons_append]
  gi_wp2_with (refine ⟨trivial, ?_⟩; gi_at_call 43; refine (callsIn_wide.2 (each_calls g j _)).mono ?_; rintro e w' ⟨rfl, rfl⟩)
  have hgW : g < w.heap.size + 1 + 1 := by omega
  have bA := Boxed.new w 3 (.int .i64 0)
  have bB := Boxed.new (w.alloc (.cells #[.int .i64 0] 3)) 4 (.bool false)
  have b1 := Boxed.new ((w.alloc (.cells #[.int .i64 0] 3)).alloc (.cells #[.bool false] 4)) 68 (.pointer (some ⟨g, 0, none⟩))
  have b2 := Boxed.new (((w.alloc (.cells #[.int .i64 0] 3)).alloc (.cells #[.bool false] 4)).alloc (.cells #[.pointer (some ⟨g, 0, none⟩)] 68)) 3 (.int .i64 j)
  simp only [World.size_alloc] at bB b1 b2
  have eA := ((bA.alloc (.cells #[.bool false] 4)).alloc (.cells #[.pointer (some ⟨g, 0, none⟩)] 68)).alloc (.cells #[.int .i64 j] 3)
  have eB := (bB.alloc (.cells #[.pointer (some ⟨g, 0, none⟩)] 68)).alloc (.cells #[.int .i64 j] 3)
  have e1 := b1.alloc (.cells #[.int .i64 j] 3)
  have eC := (((hC.alloc (.cells #[.int .i64 0] 3)).alloc (.cells #[.bool false] 4)).alloc (.cells #[.pointer (some ⟨g, 0, none⟩)] 68)).alloc (.cells #[.int .i64 j] 3)
  have hB0 : Below w.heap.size w ((((w.alloc (.cells #[.int .i64 0] 3)).alloc (.cells #[.bool false] 4)).alloc (.cells #[.pointer (some ⟨g, 0, none⟩)] 68)).alloc (.cells #[.int .i64 j] 3)) := ((((Below.refl _ w).alloc (Nat.le_refl _) _).alloc (by simp) _).alloc (by simp; omega) _).alloc (by simp; omega) _
  clear bA bB b1
  refine wpIn_rangeFunc_ownG rfl hn1 (gf := 59) (lb := #[.pointer (some ⟨w.heap.size + 1 + 1, 0, none⟩), .pointer (some ⟨w.heap.size + 1 + 1 + 1, 0, none⟩)]) rfl trivial (enters_of Try.func59 (by kernel_rfl) rfl)
    (each_stops (n - 1) (by omega) g b (w.heap.size + 1 + 1) (w.heap.size + 1 + 1 + 1) p j L _ e1 b2 eC) keepL_t (keepL_b (by intro k hk; simp at hk; rcases hk with rfl | rfl | rfl | rfl <;> simp <;> omega)) (Below.refl _ _) (fun _ => rfl)
    (fun pre W => pre = [] ∧ (Boxed W w.heap.size 3 (.int .i64 0) ∧ Boxed W (w.heap.size + 1) 4 (.bool false)) ∧ Below w.heap.size w W)
    (fun c pre W => (c = .ret ∧ ∃ x : Nat, pre = [x] ∧ Boxed W w.heap.size 3 (.int .i64 (x : Int)) ∧ Boxed W (w.heap.size + 1) 4 (.bool true)) ∧ Below w.heap.size w W)
    (OwnFrom.and (ownFrom_pure _ _) (OwnFrom.and (OwnFrom.and (Own.from (boxed_own _ _ (fun _ => _)) _) (Own.from (boxed_own _ _ (fun _ => _)) _)) (ownFrom_below (Nat.le_refl _) (by simp; omega))))
    (fun c => OwnFrom.and (fun s A B row hs hg hr => by
      obtain ⟨h1, x, h2, h3, h4⟩ := hs
      have own : ∀ (q : Nat) (t : TypeId) (u : Value), Boxed A q t u → Boxed B q t u := fun q t u hq => boxed_own q t (fun _ : Unit => u) () A B row hq hg (fun r e => (hr r e).2)
      exact ⟨h1, x, h2, own _ _ _ h3, own _ _ _ h4⟩) (ownFrom_below (Nat.le_refl _) (by simp; omega)))
    ⟨rfl, ⟨eA, eB⟩, hB0⟩
    (fun x => { tmps := #[.pointer (some ⟨g, 0, none⟩), .int .i64 j, undef, undef, .pointer (some ⟨w.heap.size, 0, none⟩), .pointer (some ⟨w.heap.size + 1, 0, none⟩), .int .i64 (x : Int), .pointer (some ⟨g, 0, none⟩), .int .i64 j, .func (.func 59) #[] #[.pointer (some ⟨w.heap.size + 1 + 1, 0, none⟩), .pointer (some ⟨w.heap.size + 1 + 1 + 1, 0, none⟩)], .int .i64 (x : Int), undef], defers := [] }) ?assign ?body ?done ?stop
  case assign =>
    intro l x W K hK
    gi_wp2
    exact hK
  case body =>
    rintro l pre x W ⟨rfl, ⟨hA, hB⟩, hBW⟩ -
    have hcA := hA.cell
    have hcB := hB.cell
    have hfA := hA.frozen
    have hfB := hB.frozen
    gi_wp2
    refine ⟨((KeepsOthers.setCell _ _ _).trans (KeepsOthers.setCell _ _ _)).from _, ⟨rfl, x, rfl, ?_, ?_⟩, (hBW.setCell (p := ⟨w.heap.size, 0, none⟩) (Nat.le_refl _) _).setCell (p := ⟨w.heap.size + 1, 0, none⟩) (by simp) _⟩
    · exact (hA.set _).other (by omega) _
    · exact (hB.other (by omega) _).set _
  case done =>
    rintro D ys W hD rfl ⟨hnil, ⟨hA, hB⟩, hBW⟩ hK
    have hcA := hA.cell
    have hcB := hB.cell
    have hfA := hA.frozen
    have hfB := hB.frozen
    gi_wp2
    have hK' := ((KeepsOthers.setCell W ⟨w.heap.size, 0, none⟩ (.int .i64 0)).trans (KeepsOthers.setCell _ ⟨w.heap.size + 1, 0, none⟩ (.bool false))).same D _ hK rfl
    refine ⟨by simp, .inl ⟨_, _, rfl, run_takeDeferred hK', ?_⟩⟩
    have x1 := cell_kept ((hA.set (.int .i64 0)).other (B' := w.heap.size + 1) (by omega) (.bool false)).cell (grownBy_putObj' _ D (.deferred none)) (fun r e => by cases e; exact ⟨_, hK', rfl⟩)
    have x2 := cell_kept ((hB.other (B' := w.heap.size) (by omega) (.int .i64 0)).set (.bool false)).cell (grownBy_putObj' _ D (.deferred none)) (fun r e => by cases e; exact ⟨_, hK', rfl⟩)
    refine ⟨.tuple #[.int .i64 0, .bool false], ?_, by rw [hnil]; rfl, ((hBW.setCell (p := ⟨w.heap.size, 0, none⟩) (Nat.le_refl _) _).setCell (p := ⟨w.heap.size + 1, 0, none⟩) (by simp) _).trans (belowK_b (w := w) (Nat.le_refl _) _ D _ _ (by simp at hD; omega) hK' rfl rfl)⟩
    simp [results, Try.f31, go_sem, x1, x2]
  case stop =>
    rintro D c pre W hD hpre ⟨⟨rfl, x, rfl, hA, hB⟩, hBW⟩ hK
    gi_wp2
    refine ⟨by simp, .inl ⟨_, _, rfl, run_takeDeferred hK, ?_⟩⟩
    have x1 := cell_kept hA.cell (grownBy_putObj' _ D (.deferred none)) (fun r e => by cases e; exact ⟨_, hK, rfl⟩)
    have x2 := cell_kept hB.cell (grownBy_putObj' _ D (.deferred none)) (fun r e => by cases e; exact ⟨_, hK, rfl⟩)
    obtain ⟨rest, hrest⟩ := hpre
    refine ⟨.tuple #[.int .i64 (x : Int), .bool true], ?_, by rw [← hrest]; rfl, hBW.trans (belowK_b (w := w) (Nat.le_refl _) W D _ _ (by simp at hD; omega) hK rfl rfl)⟩
    simp [results, Try.f31, go_sem, x1, x2]
end
theorem first_calls (g b p : Nat) (j : Int) (L : List (List Nat)) (w : World) (hC : Chn w g b p L) :
    Calls Try.prog 31 #[.pointer (some ⟨g, 0, none⟩), .int .i64 j] w fun e w' => e = .returned (.tuple #[.int .i64 (hdP (atL L j)).1, .bool (hdP (atL L j)).2]) ∧ Below w.heap.size w w' :=
  callsIn_wide.1 (first_in 3 (by omega) g b p j L w hC)
end Go.Proofs.Ytokhbiaaaflphaa.ChainF
