/-
  Queues in memory: Insert told of timers, Move.
  No condition.
-/
import Derived.Test.YtokhbiaaaflphaaListD
namespace Go.Proofs.Ytokhbiaaaflphaa.ListE
open Go.RowKit Go.Shelf Go.Proofs.Ytokhbiaaaflphaa.ChainA Go.Proofs.Ytokhbiaaaflphaa.ChainM Go.Proofs.Ytokhbiaaaflphaa.ChainN Go.Proofs.Ytokhbiaaaflphaa.ChainE Go.Proofs.Ytokhbiaaaflphaa.ListM Go.Proofs.Ytokhbiaaaflphaa.ListA Go.Proofs.Ytokhbiaaaflphaa.ListB Go.Proofs.Ytokhbiaaaflphaa.ListC Go.Proofs.Ytokhbiaaaflphaa.ListD Go.Proofs.Ytokhbiaaaflphaa.GListqPlays Go.Proofs.YtokhbiaaaflphaaW.PrintWords Go.Proofs.YtokhbiaaaflphaaW.PrintLast Go.Proofs.YtokhbiaaaflphaaW.PrintMore
set_option linter.unusedVariables false
set_option linter.unusedSimpArgs false
variable {w : World} {q gT g b p : Nat} {ts T : List S38} {l : List Nat}

set_option maxRecDepth 100000 in
set_option maxHeartbeats 4000000 in
theorem ins_arg (q gT g b p : Nat) (t : S38) (ts : List S38) (l : List Nat) (w : World) (h : QB w q gT g b p ts l) (hn : ¬ (0 ≤ t.f2 ∧ t.f2 < p)) :
    Calls Try.prog 18 #[.pointer (some ⟨q, 0, none⟩), tv t] w fun e w' => e = .returned (.int .i64 1) ∧ Below w.heap.size w w' := by
  have hq := h.lq
  have b0 := blk_cell h.hq 0
  obtain ⟨f0, f1, f2⟩ := t
  simp only at hn
  by_cases h1 : f2 < 0
  · have d1 : decide (f2 < 0) = true := decide_eq_true h1
    simp only [tv]
    go_enter Try.func18, Try.ntmps18
    go_wp2_with fail
    go_region
    go_wp2_with fail
    go_ret
    exact ⟨rfl, (((Below.refl _ w).alloc (Nat.le_refl _) _).alloc (by simp) _).drew⟩
  · have d1 : decide (f2 < 0) = false := decide_eq_false h1
    have d2 : decide ((p : Int) ≤ f2) = true := decide_eq_true (by omega)
    simp only [tv]
    go_enter Try.func18, Try.ntmps18
    go_wp2_with fail
    go_region
    go_wp2_with fail
    go_ret
    exact ⟨rfl, (((Below.refl _ w).alloc (Nat.le_refl _) _).alloc (by simp) _).drew⟩
set_option maxRecDepth 100000 in
set_option maxHeartbeats 4000000 in
theorem ins_twice (q gT g b p i : Nat) (t : S38) (ts : List S38) (l : List Nat) (w : World) (h : QB w q gT g b p ts l) (hi : i < p) (ht : t.f2 = (i : Int)) (hw : (mWhich p [l] (i : Int)).2 = true) :
    Calls Try.prog 18 #[.pointer (some ⟨q, 0, none⟩), tv t] w fun e w' => e = .returned (.int .i64 4) ∧ Below w.heap.size w w' := by
  have hq := h.lq
  have b0 := blk_cell h.hq 0
  obtain ⟨f0, f1, f2⟩ := t
  simp only at ht
  subst ht
  have d1 : decide ((i : Int) < 0) = false := decide_eq_false (by omega)
  have d2 : decide (p ≤ i) = false := decide_eq_false (by omega)
  have hni : ¬ p ≤ i := by omega
  have hB0 : Below w.heap.size w (((w.alloc (.cells #[.pointer (some ⟨q, 0, none⟩)] 24)).alloc (.cells #[.int .u64 f0, .int .u64 f1, .int .i64 (i : Int)] 38)).drew) := (((Below.refl _ w).alloc (Nat.le_refl _) _).alloc (by simp) _).drew
  simp only [tv]
  go_enter Try.func18, Try.ntmps18
  go_wp2_with fail
  go_region
  go_wp2_with fail
  go_at_call 30
  refine (pends_calls q gT g b p i ts l _ (h.below hB0)).mono ?_
  rintro e w' ⟨rfl, rfl⟩
  rw [hw]
  simp only []
  go_wp2_with fail
  go_ret
  exact ⟨rfl, hB0⟩
theorem sorted_all {A : List S38} {x t : S38} (h : (A ++ [x]).Pairwise bef) (hx : bef x t) : ∀ a, a ∈ A ++ [x] → bef a t := fun a ha => by
  rw [List.pairwise_append] at h
  rcases List.mem_append.1 ha with r | r
  · exact bef_trans (h.2.2 a r x List.mem_cons_self) hx
  · rw [List.mem_singleton.1 r]; exact hx
theorem tn_set_ne {ts : List S38} {i j : Nat} {t : S38} (h : j ≠ i) : tn (ts.set i t) j = tn ts j := by
  unfold tn
  rw [List.getD_eq_getElem?_getD, List.getD_eq_getElem?_getD, List.getElem?_set_ne (by omega)]
theorem tn_set_eq {ts : List S38} {i : Nat} {t : S38} (h : i < ts.length) : tn (ts.set i t) i = t := by
  unfold tn
  rw [List.getD_eq_getElem?_getD, List.getElem?_set_self h]; rfl
theorem ins_T (t : S38) (h : QS w q gT g b p T) :
    Calls Try.prog 18 #[.pointer (some ⟨q, 0, none⟩), tv t] w fun e w' => e = .returned (.int .i64 (ListM.mIn p T t).2) ∧ QS w' q gT g b p (ListM.mIn p T t).1 ∧ Fr q gT b w w' := by
  have h9 := h
  obtain ⟨ts, l, h⟩ := h
  have hQ := h.hQ.mIn t
  unfold ListM.mIn at hQ ⊢
  by_cases ha : 0 ≤ t.f2 ∧ t.f2 < p
  · rw [if_pos ha] at hQ ⊢
    obtain ⟨n, hn⟩ : ∃ n : Nat, t.f2 = n := ⟨t.f2.toNat, by omega⟩
    have hw := which_T h t.f2
    cases hf : findT T t.f2 with
    | some a =>
      rw [if_pos (by rfl)]
      rw [hf, hn] at hw
      refine (ins_twice q gT g b p n t ts l w h.bl (by omega) hn hw).mono ?_
      rintro e w' ⟨rfl, hb⟩
      exact ⟨rfl, h9.below hb, Fr.of_below hb⟩
    | none =>
      rw [hf, if_neg (by simp)] at hQ
      rw [if_neg (by simp)]
      have hil : n ∉ l := fun hm => by
        have := find_mem h hm
        rw [← hn, hf] at this; cases this
      have hnl : n < ts.length := by have := h.bl.ht; omega
      refine (callsIn_wide.1 (ins_in 4 (by omega) q gT g b p n t ts l w h.bl (by omega) hn hil)).mono ?_
      rintro e w' ⟨rfl, A, B, hl, hB, hA, hq, hF⟩
      refine ⟨rfl, ⟨ts.set n t, A ++ n :: B, hq, ?_, ?_, hQ⟩, hF⟩
      · have hAn : ∀ j, j ∈ A → j ≠ n := fun j hj e => hil (by rw [hl, ← e]; simp [hj])
        have hBn : ∀ j, j ∈ B → j ≠ n := fun j hj e => hil (by rw [hl, ← e]; simp [hj])
        have hT : T = A.map (tn ts) ++ B.map (tn ts) := by rw [h.eT, hl, List.map_append]
        have hs := h.hQ.sorted
        rw [hT] at hs ⊢
        rw [put_at, List.map_append, List.map_cons, tn_set_eq hnl, List.map_congr_left (fun j hj => tn_set_ne (hAn j hj)), List.map_congr_left (fun j hj => tn_set_ne (hBn j hj))]
        · intro a ha2
          rcases hA with rfl | ⟨A', x, rfl, hx⟩
          · cases ha2
          · rw [List.map_append] at ha2 hs
            exact sorted_all (List.pairwise_append.1 hs).1 hx a ha2
        · intro a ha2
          obtain ⟨j, hj, rfl⟩ := List.mem_map.1 ha2
          exact hB j hj
      · intro j hj
        by_cases hjn : j = n
        · rw [hjn, tn_set_eq hnl]; exact hn
        · rw [tn_set_ne hjn]
          refine h.eF j ?_
          rw [hl]
          rcases List.mem_append.1 hj with r | r
          · exact List.mem_append_left _ r
          · rcases List.mem_cons.1 r with r | r
            · exact absurd r hjn
            · exact List.mem_append_right _ r
  · rw [if_neg ha] at hQ ⊢
    refine (ins_arg q gT g b p t ts l w h.bl ha).mono ?_
    rintro e w' ⟨rfl, hb⟩
    exact ⟨rfl, h9.below hb, Fr.of_below hb⟩
set_option maxRecDepth 100000 in
set_option maxHeartbeats 4000000 in
theorem mov_T (t : S38) (h : QS w q gT g b p T) :
    Calls Try.prog 16 #[.pointer (some ⟨q, 0, none⟩), tv t] w fun e w' => e = .returned (.int .i64 (ListM.mMov p T t).2) ∧ QS w' q gT g b p (ListM.mMov p T t).1 ∧ Fr q gT b w w' := by
  obtain ⟨f0, f1, f2⟩ := t
  obtain ⟨T1, x, c, hm⟩ : ∃ T1 x c, ListM.mCan p T f2 = (T1, x, c) := ⟨_, _, _, rfl⟩
  obtain ⟨x0, x1, x2⟩ := x
  have hmc : T1 = T ∨ c = 0 := by
    unfold ListM.mCan at hm
    split at hm
    · split at hm
      · cases hm; exact .inr rfl
      · cases hm; exact .inl rfl
    · cases hm; exact .inl rfl
  have hbs : ∃ sz : Nat, sz = w.heap.size := ⟨_, rfl⟩
  obtain ⟨sz, hsz⟩ := hbs
  have y0 := World.alloc_heap_new w (.cells #[.int .u64 f0, .int .u64 f1, .int .i64 f2] 38)
  have h0 := h.alloc (.cells #[.int .u64 f0, .int .u64 f1, .int .i64 f2] 38)
  have hF0 := (Fr.refl q gT b w).alloc (.cells #[.int .u64 f0, .int .u64 f1, .int .i64 f2] 38)
  have hlb : b < w.heap.size ∧ q < w.heap.size ∧ gT < w.heap.size := by
    obtain ⟨ts, l, hl⟩ := h
    exact ⟨hl.bl.lb.2.1, hl.bl.lq, hl.bl.lT⟩
  by_cases hc : c = 0
  · subst hc
    have e0 : ListM.mMov p T ⟨f0, f1, f2⟩ = ListM.mIn p T1 ⟨f0, f1, f2⟩ := by unfold ListM.mMov; rw [hm, if_pos rfl]
    rw [e0]
    rw [show tv ⟨f0, f1, f2⟩ = .agg #[.int .u64 f0, .int .u64 f1, .int .i64 f2] from rfl]
    go_enter Try.func16, Try.ntmps16
    go_wp2_with fail
    go_at_call 17
    refine (can_T f2 h0).mono ?_
    rintro e w1 ⟨rfl, h1, hk⟩
    rw [hm] at h1 ⊢
    have hF1 := hF0.trans hk
    have y1 := (hk.block w.heap.size (by simp) (by omega) (by omega) (by omega)).trans y0
    generalize w.alloc (.cells #[.int .u64 f0, .int .u64 f1, .int .i64 f2] 38) = W0 at *
    obtain ⟨⟨c0, c1⟩, c2⟩ := cell_of3 y1
    have hs1 : w.heap.size ≠ w1.heap.size := by have := blk_lt y1; omega
    have y2 := blk_alloc y1 (.cells #[.int .u64 x0, .int .u64 x1, .int .i64 x2] 38)
    obtain ⟨⟨c3, c4⟩, c5⟩ := cell_of3 y2
    have h2 := h1.alloc (.cells #[.int .u64 x0, .int .u64 x1, .int .i64 x2] 38)
    have hF2 := hF1.alloc (.cells #[.int .u64 x0, .int .u64 x1, .int .i64 x2] 38)
    simp only [tv]
    go_wp2_with fail
    go_at_call 18
    refine (ins_T ⟨f0, f1, f2⟩ h2).mono ?_
    rintro e w2 ⟨rfl, h3, hk3⟩
    simp only []
    go_wp2_with fail
    go_ret
    exact ⟨rfl, h3, hF2.trans hk3⟩
  · have e0 : ListM.mMov p T ⟨f0, f1, f2⟩ = (T, c) := by unfold ListM.mMov; rw [hm, if_neg hc]
    rw [e0]
    have hT1 : T1 = T := by rcases hmc with e | e; exact e; exact absurd e hc
    have d0 : (c != 0) = true := bne_iff_ne.mpr hc
    rw [show tv ⟨f0, f1, f2⟩ = .agg #[.int .u64 f0, .int .u64 f1, .int .i64 f2] from rfl]
    go_enter Try.func16, Try.ntmps16
    go_wp2_with fail
    go_at_call 17
    refine (can_T f2 h0).mono ?_
    rintro e w1 ⟨rfl, h1, hk⟩
    rw [hm] at h1 ⊢
    have hF1 := hF0.trans hk
    generalize w.alloc (.cells #[.int .u64 f0, .int .u64 f1, .int .i64 f2] 38) = W0 at *
    have h2 := h1.alloc (.cells #[.int .u64 x0, .int .u64 x1, .int .i64 x2] 38)
    have hF2 := hF1.alloc (.cells #[.int .u64 x0, .int .u64 x1, .int .i64 x2] 38)
    simp only [tv]
    go_wp2_with fail
    go_ret
    exact ⟨rfl, by rw [← hT1]; exact h2, hF2⟩
end Go.Proofs.Ytokhbiaaaflphaa.ListE
