/-
  Queues in memory: New, Get, Min, Cancel, Len, told of timers.
  No condition.
-/
import Derived.Test.YtokhbiaaaflphaaListA
import Derived.Test.YtokhbiaaaflphaaChainC
namespace Go.Proofs.Ytokhbiaaaflphaa.ListB
open Go.RowKit Go.Proofs.Ytokhbiaaaflphaa.ChainA Go.Proofs.Ytokhbiaaaflphaa.ChainM Go.Proofs.Ytokhbiaaaflphaa.ChainN Go.Proofs.Ytokhbiaaaflphaa.ListM Go.Proofs.Ytokhbiaaaflphaa.ListA Go.Proofs.Ytokhbiaaaflphaa.GListqPlays Go.Proofs.YtokhbiaaaflphaaW.PrintWords Go.Proofs.YtokhbiaaaflphaaW.PrintLast Go.Proofs.YtokhbiaaaflphaaW.PrintMore
set_option linter.unusedVariables false
set_option linter.unusedSimpArgs false
variable {w : World} {q gT g b p : Nat} {ts T : List S38} {l : List Nat}
/-! Places and timers. -/
theorem wh_one (l : List Nat) (x : Nat) : wh [l] x = if x ∈ l then 0 else -1 := by
  simp only [wh]
  by_cases h : x ∈ l
  · rw [if_pos h, if_pos h]
  · rw [if_neg h, if_neg h]; rfl
theorem ql_nd (h : QL w q gT g b p ts l T) : l.Nodup := by
  obtain ⟨ns, h1, h2⟩ := h.bl.hC
  exact h2.nodup 0 l rfl
theorem ql_lt (h : QL w q gT g b p ts l T) {i : Nat} (hi : i ∈ l) : i < p := ChainF.chn_lt h.bl.hC 0 i hi
theorem ql_len (h : QL w q gT g b p ts l T) : T.length = l.length := by rw [h.eT, List.length_map]
theorem find_mem (h : QL w q gT g b p ts l T) {i : Nat} (hi : i ∈ l) : findT T (i : Int) = some (tn ts i) := by
  have hm : tn ts i ∈ T := by rw [h.eT]; exact List.mem_map.2 ⟨i, hi, rfl⟩
  have := findT_mem h.hQ hm
  rwa [h.eF i hi] at this
theorem find_not (h : QL w q gT g b p ts l T) {x : Int} (hx : ∀ i : Nat, i ∈ l → x ≠ (i : Int)) : findT T x = none := by
  cases hf : findT T x with
  | none => rfl
  | some t =>
    obtain ⟨h1, h2⟩ := findT_some hf
    rw [h.eT] at h1
    obtain ⟨i, hi, rfl⟩ := List.mem_map.1 h1
    rw [h.eF i hi] at h2
    exact absurd h2.symm (hx i hi)
theorem which_T (h : QL w q gT g b p ts l T) (x : Int) : (mWhich p [l] x).2 = (findT T x).isSome := by
  unfold mWhich
  by_cases hx : 0 ≤ x ∧ x < p
  · obtain ⟨n, rfl⟩ : ∃ n : Nat, x = n := ⟨x.toNat, by omega⟩
    rw [Int.toNat_natCast, wh_one]
    by_cases hm : n ∈ l
    · rw [if_pos hm, if_pos ⟨hx, Int.le_refl 0⟩, find_mem h hm]; rfl
    · rw [if_neg hm, if_neg (fun q => by omega), find_not h (x := (n : Int)) (fun i hi e => hm ((show n = i by omega) ▸ hi))]; rfl
  · rw [if_neg (fun q => hx q.1), find_not h (fun i hi e => hx (by have := ql_lt h hi; omega))]; rfl
theorem out_T (h : QL w q gT g b p ts l T) {x : Nat} {A B : List Nat} (e : l = A ++ x :: B) : outT T (x : Int) = (A ++ B).map (tn ts) := by
  have hn := ql_nd h
  rw [e, List.nodup_append] at hn
  have hB := (List.nodup_cons.1 hn.2.1).1
  have hA : x ∉ A := fun q => hn.2.2 x q x List.mem_cons_self rfl
  have key : ∀ M : List Nat, (∀ i, i ∈ M → i ∈ l ∧ i ≠ x) → (M.map (tn ts)).filter (fun a => decide (a.f2 ≠ (x : Int))) = M.map (tn ts) := by
    intro M hM
    refine List.filter_eq_self.2 (fun a ha => ?_)
    obtain ⟨i, hi, rfl⟩ := List.mem_map.1 ha
    have := hM i hi
    rw [h.eF i this.1]
    simp only [decide_eq_true_eq]
    omega
  have hx : (tn ts x).f2 = (x : Int) := h.eF x (by rw [e]; simp)
  unfold outT
  rw [h.eT, e, List.map_append, List.filter_append, List.map_cons, List.filter_cons_of_neg (by simp [hx]), key A (fun i hi => ⟨by rw [e]; simp [hi], fun q => hA (q ▸ hi)⟩), key B (fun i hi => ⟨by rw [e]; simp [hi], fun q => hB (q ▸ hi)⟩), List.map_append]
theorem get_T (x : Int) (h : QS w q gT g b p T) :
    Calls Try.prog 14 #[.pointer (some ⟨q, 0, none⟩), .int .i64 x] w fun e w' => e = .returned (.tuple #[tv ((findT T x).getD z38), .bool (findT T x).isSome]) ∧ Below w.heap.size w w' := by
  obtain ⟨ts, l, h⟩ := h
  have hw := which_T h x
  by_cases hx : ∃ i : Nat, i ∈ l ∧ x = (i : Int)
  · obtain ⟨i, hi, rfl⟩ := hx
    have hf := find_mem h hi
    rw [hf] at hw ⊢
    exact get_yes q gT g b p i ts l w h.bl hw (ql_lt h hi)
  · have hf := find_not h (x := x) (fun i hi e => hx ⟨i, hi, e⟩)
    rw [hf] at hw ⊢
    exact get_no q gT g b p x ts l w h.bl hw
theorem len_T (h : QS w q gT g b p T) :
    Calls Try.prog 20 #[.pointer (some ⟨q, 0, none⟩)] w fun e w' => e = .returned (.int .i64 (T.length : Int)) ∧ w' = w := by
  obtain ⟨ts, l, h⟩ := h
  rw [ql_len h]
  exact len_calls q gT g b p ts l w h.bl
def minT (T : List S38) : S38 × Bool := match T with
  | [] => (z38, false)
  | t :: _ => (t, true)
theorem min_T (h : QS w q gT g b p T) :
    Calls Try.prog 15 #[.pointer (some ⟨q, 0, none⟩)] w fun e w' => e = .returned (.tuple #[tv (minT T).1, .bool (minT T).2]) ∧ Below w.heap.size w w' := by
  obtain ⟨ts, l, h⟩ := h
  have e := h.eT
  cases l with
  | nil => rw [e]; exact min_no q gT g b p ts w h.bl
  | cons i r => rw [e]; exact min_yes q gT g b p i r ts w h.bl
theorem can_T (x : Int) (h : QS w q gT g b p T) :
    Calls Try.prog 17 #[.pointer (some ⟨q, 0, none⟩), .int .i64 x] w fun e w' => e = .returned (.tuple #[tv (ListM.mCan p T x).2.1, .int .i64 (ListM.mCan p T x).2.2]) ∧ QS w' q gT g b p (ListM.mCan p T x).1 ∧ Fr q gT b w w' := by
  obtain ⟨ts, l, h⟩ := h
  have hQ := h.hQ.mCan x
  unfold ListM.mCan at hQ ⊢
  by_cases ha : 0 ≤ x ∧ x < p
  · rw [if_pos ha] at hQ ⊢
    obtain ⟨n, rfl⟩ : ∃ n : Nat, x = n := ⟨x.toNat, by omega⟩
    by_cases hm : n ∈ l
    · rw [find_mem h hm] at hQ ⊢
      have hs := split_at hm
      have hd : mDrop p [l] (n : Int) = ([l.take (l.idxOf n) ++ l.drop (l.idxOf n + 1)], 0) := by
        unfold mDrop
        rw [if_pos ha, Int.toNat_natCast, wh_one, if_pos hm]; rfl
      refine (can_yes q gT g b p n ts l _ w h.bl hd (by omega) ?_).mono ?_
      · have := congrArg List.length hs
        rw [List.length_append, List.length_cons] at this
        rw [List.length_append]; omega
      rintro e w' ⟨rfl, h1, h2⟩
      have ho := out_T h hs
      exact ⟨rfl, ⟨ts, _, h1, ho, fun i hi => h.eF i (by rw [hs]; rcases List.mem_append.1 hi with q | q <;> simp [q]), hQ⟩, h2⟩
    · rw [find_not h (x := (n : Int)) (fun i hi e => hm ((show n = i by omega) ▸ hi))] at hQ ⊢
      have hd : mDrop p [l] (n : Int) = ([l], 5) := by
        unfold mDrop
        rw [if_pos ha, Int.toNat_natCast, wh_one, if_neg hm]; rfl
      refine (can_no q gT g b p n 5 ts l w h.bl hd (by omega)).mono ?_
      rintro e w' ⟨rfl, h1, h2⟩
      exact ⟨rfl, ⟨ts, l, h1, h.eT, h.eF, h.hQ⟩, h2⟩
  · rw [if_neg ha]
    have hd : mDrop p [l] x = ([l], 1) := by
      unfold mDrop
      rw [if_neg ha]
    refine (can_no q gT g b p x 1 ts l w h.bl hd (by omega)).mono ?_
    rintro e w' ⟨rfl, h1, h2⟩
    exact ⟨rfl, ⟨ts, l, h1, h.eT, h.eF, h.hQ⟩, h2⟩
/-! New. -/
theorem tc_zero : ∀ m : Nat, tc (List.replicate m z38) = (List.replicate m [Value.int .u64 0, .int .u64 0, .int .i64 0]).flatten
  | 0 => rfl
  | m + 1 => by
    rw [List.replicate_succ, List.replicate_succ, List.flatten_cons, ← tc_zero m]; rfl
theorem made_T (m : Nat) : madeCells #[.int .u64 0, .int .u64 0, .int .i64 0] (m * 3) = (tc (List.replicate m z38)).toArray := by
  apply Array.ext
  · simp [madeCells, tc_len]; omega
  · intro i h1 h2
    have h3 : i % 3 < 3 := Nat.mod_lt _ (by decide)
    have hm : i < m * 3 := by simpa [madeCells] using h1
    have hj : i / 3 < (List.replicate m z38).length := by rw [List.length_replicate]; omega
    have e0 : tn (List.replicate m z38) (i / 3) = z38 := by
      unfold tn; rw [List.getD_eq_getElem?_getD, List.getElem?_replicate]; split <;> rfl
    have t0 := tc_0 _ _ hj
    have t1 := tc_1 _ _ hj
    have t2 := tc_2 _ _ hj
    rw [e0] at t0 t1 t2
    have hd : i = i / 3 * 3 + i % 3 := by omega
    have key : (tc (List.replicate m z38))[i]? = #[Value.int .u64 0, .int .u64 0, .int .i64 0][i % 3]? := by
      rcases (show i % 3 = 0 ∨ i % 3 = 1 ∨ i % 3 = 2 by omega) with h | h | h
      · rw [h] at hd ⊢; rw [hd]; exact t0
      · rw [h] at hd ⊢; rw [hd]; exact t1
      · rw [h] at hd ⊢; rw [hd]; exact t2
    have h4 : (tc (List.replicate m z38))[i]? = some ((tc (List.replicate m z38)).toArray[i]) := by
      rw [List.getElem_toArray]; exact List.getElem?_eq_getElem _
    rw [h4] at key
    simp only [madeCells, Array.getElem_ofFn]
    rcases (show i % 3 = 0 ∨ i % 3 = 1 ∨ i % 3 = 2 by omega) with h | h | h <;> rw [h] at key <;> simp [h] <;> simpa using key.symm
theorem mk_timers (m : Nat) (hm : m ≤ 2048) : ∀ W : World, (Instr.makeSlice 25 (.int .i64 (m : Int)) (.int .i64 (m : Int))).run Try.prog W = .ok (.slice (some ⟨W.heap.size, 0, none⟩) m m) (W.alloc (.cells (tc (List.replicate m z38)).toArray 38)) := by
  intro W
  obtain ⟨i0, hi, hzz⟩ := Option.map_eq_some_iff.1 info38
  simp only [Prod.mk.injEq] at hzz
  obtain ⟨hz0, hz1, hz2⟩ := hzz
  have hr := run_make (P := Try.prog) W 25 38 i0 _ Try.underlying25 hi hz0 .i64 .i64 (m : Int) (m : Int) (by omega) (by omega) (by rw [hz2]; omega) (by omega)
  simp only [Int.toNat_natCast] at hr
  rw [hr, hz1, ← made_T]
  rfl
set_option maxRecDepth 100000 in
set_option maxHeartbeats 4000000 in
theorem new_no (p : Int) (w : World) (hp : p < 0 ∨ 1024 < p) :
    Calls Try.prog 19 #[.int .i64 p] w fun e w' => e = .returned (.tuple #[.pointer none, .int .i64 1]) ∧ w' = w := by
  go_enter Try.func19, Try.ntmps19
  go_wp2_with fail
  go_at_call 37
  refine (ChainC.new_arg p 1 w (by omega)).mono ?_
  rintro e w' ⟨rfl, rfl⟩
  simp only []
  go_wp2_with fail
  go_ret2
  exact ⟨rfl, rfl⟩
set_option maxRecDepth 100000 in
set_option maxHeartbeats 4000000 in
theorem new_T (p : Nat) (w : World) (hp : p ≤ 1024) :
    Calls Try.prog 19 #[.int .i64 (p : Int)] w fun e w' => ∃ q gT g b : Nat, e = .returned (.tuple #[.pointer (some ⟨q, 0, none⟩), .int .i64 0]) ∧ QS w' q gT g b p [] ∧ (w.heap.size ≤ q ∧ w.heap.size ≤ gT ∧ w.heap.size ≤ g ∧ w.heap.size ≤ b) ∧ Below w.heap.size w w' := by
  have hmk := mk_timers p (by omega)
  go_enter Try.func19, Try.ntmps19
  go_wp2_with fail
  go_at_call 37
  refine (ChainC.new_ok p 1 w (by omega) (by omega)).mono ?_
  rintro e W ⟨g, b, rfl, hC, hg, hb, hB⟩
  simp only []
  go_wp2_with fail
  go_ret2
  have n1 := World.alloc_heap_new W (.cells (tc (List.replicate p z38)).toArray 38)
  have n2 := World.alloc_heap_new (W.alloc (.cells (tc (List.replicate p z38)).toArray 38)) (.cells #[.slice (some ⟨W.heap.size, 0, none⟩) p p, .pointer (some ⟨g, 0, none⟩), .int .i64 0] 70)
  rw [World.size_alloc] at n2
  have hgl := blk_lt hC.1
  have hbl := hC.blt
  refine ⟨W.heap.size + 1, W.heap.size, g, b, rfl, ⟨List.replicate p z38, [], ⟨n2, blk_alloc n1 _, by simp, ⟨ChainC.fresh (p + 1), ?_, ?_⟩, by omega, by omega, by omega, by omega, by omega⟩, rfl, fun _ h => (by cases h), QI.nil p⟩, ⟨?_, hB.size, hg, hb⟩, ?_⟩
  · exact (hC.alloc _).alloc _
  · exact ChainS.rep_fresh p 1
  · have := hB.size; omega
  · exact (hB.alloc hB.size _).alloc (by have := hB.size; simp; omega) _
end Go.Proofs.Ytokhbiaaaflphaa.ListB
