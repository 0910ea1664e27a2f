/-
  Is a row of timers in order: the printed walk of function 13 (the kit's print, turned to this namespace). Queues: the law ListqDues, walked.
  No condition.
-/
import Derived.Test.YtokhbiaaaflphaaListK
namespace Go.Proofs.Ytokhbiaaaflphaa.GListqPlays
open Go.RowKit Go.Proofs.YtokhbiaaaflphaaW.PrintWords Go.Proofs.YtokhbiaaaflphaaW.PrintLast Go.Proofs.YtokhbiaaaflphaaW.PrintMore
attribute [local go_sem] max2_int min2_int max_two min_two max_three min_three max_four min_four   -- for this text's walks alone
set_option linter.unusedVariables false
set_option linter.unusedSimpArgs false
/-! ### complineref04_Sorted: function 13 -/
def complineref04_Sorted.l0 : Nat → List (S38) → Int → Option (Bool)
  | 0, _, _ => none
  | k + 1, x0, x3 => if x3 < (x0.length : Int) then (if 0 ≤ x3 then (if 0 ≤ (wrap64 (x3 - 1)) then (if (wrap64 (x3 - 1)) < (x0.length : Int) then ((complineref01_Before.f ((rd_T38 x0 x3).f0) ((rd_T38 x0 x3).f1) ((rd_T38 x0 x3).f2) ((rd_T38 x0 (wrap64 (x3 - 1))).f0) ((rd_T38 x0 (wrap64 (x3 - 1))).f1) ((rd_T38 x0 (wrap64 (x3 - 1))).f2)).bind fun t263 => (if t263 = true then (some false) else (complineref04_Sorted.l0 k x0 (wrap64 (x3 + 1))))) else (none)) else (none)) else (none)) else (some true)
def complineref04_Sorted.f (k : Nat) (l0 : List (S38)) : Option (Bool) := complineref04_Sorted.l0 k l0 1
theorem complineref04_Sorted.mono_l : ∀ k, (∀ y0 y1, LeO (complineref04_Sorted.l0 k y0 y1) (complineref04_Sorted.l0 (k + 1) y0 y1))
  | 0 => fun _ _ r h => by simp [complineref04_Sorted.l0] at h
  | k + 1 => by
    have ih0 := complineref04_Sorted.mono_l k
    · intro y0 y1
      unfold complineref04_Sorted.l0
      repeat' first
      | (with_reducible exact ih0 _ _)
      | (with_reducible exact LeO.refl _)
      | (with_reducible exact LeO.none _)
      | (with_reducible refine LeO.ite ?_ ?_)
      | (with_reducible refine LeO.bind ?_ (fun _ => ?_))
      | exact ih0 _ _
      | exact LeO.none _
      | refine LeO.ite ?_ ?_
      | refine LeO.bind ?_ (fun _ => ?_)
theorem complineref04_Sorted.mono : ∀ a0 k, LeO (complineref04_Sorted.f k a0) (complineref04_Sorted.f (k + 1) a0) := by
  intro a0 k
  have ih0 := complineref04_Sorted.mono_l k
  unfold complineref04_Sorted.f
  repeat' first
      | (with_reducible exact ih0 _ _)
      | (with_reducible exact LeO.refl _)
      | (with_reducible exact LeO.none _)
      | (with_reducible refine LeO.ite ?_ ?_)
      | (with_reducible refine LeO.bind ?_ (fun _ => ?_))
      | exact ih0 _ _
      | exact LeO.none _
      | refine LeO.ite ?_ ?_
      | refine LeO.bind ?_ (fun _ => ?_)
def complineref04_Sorted.T4 : Bool × List (List Nat × List Nat) := (true, [([], []), ([], []), ([0, 1], [0, 1]), ([2], [2]), ([], []), ([], []), ([5], [5]), ([4, 6], [4, 6]), ([7], [7]), ([3, 8], [3, 8]), ([9, 9, 0, 1, 2, 3, 4, 5, 6, 7, 8, 9], [9])])
def complineref04_Sorted.B4 : List Nat := [0, 0, 3, 7, 0, 0, 32, 112, 240, 511, 1023]
theorem complineref04_Sorted.tab4 : rtab .any (opsOf Try.f13 4) = complineref04_Sorted.T4 := by kernel_rfl
theorem complineref04_Sorted.bits4 : waitsOk complineref04_Sorted.T4.2 complineref04_Sorted.B4 = true := by kernel_rfl
set_option maxHeartbeats 8000000 in
set_option maxRecDepth 100000 in
theorem complineref04_Sorted.calls (k : Nat) (A0 : Option Addr) (c0 : Nat) (l0 : List (S38)) (r : Bool) (w : World) (hr0 : Kd.C k38 w A0 l0.length l0) (hc0 : l0.length ≤ c0) (h : complineref04_Sorted.f k l0 = some r) :
    Calls Try.prog 13 #[.slice A0 l0.length c0] w fun e w' => e = .returned (.bool r) ∧ Below w.heap.size w w' := by
  have hu38 := Try.underlying38
  have HR0 := Aside0.mk hr0
  have HC0 := Aside0.mk hc0
  clear hr0 hc0
  have HB := Aside0.mk (Below.refl w.heap.size w)
  have H : (complineref04_Sorted.l0 k l0 1) = some r := h
  clear h
  have H' := Aside0.mk H
  clear H
  go_enter Try.func13, Try.ntmps13
  go_wp2
  go_loopg [3] k (fun kq v3 w' => ∃ (x3_1 : Int), v3 = .int .i64 x3_1 ∧ Aside0 (complineref04_Sorted.l0 kq l0 x3_1 = some r) ∧ Aside0 (kq ≤ k) ∧ Aside0 (Below w.heap.size w w'))
  case atStart => exact ⟨(1), (by first | rfl | (simp; done) | (simp [*]; done)), H', ⟨Nat.le_refl _⟩, ⟨by repeat (first | (with_reducible first | exact HB.out | apply below_alloc | apply pw_below_drewN | apply below_drew1) | exact HB.out)⟩⟩
  case round =>
    clear H'
    try clear c1
    obtain ⟨x3_1, rfl, HA, HK1, HB⟩ := hrel
    cases gk with
    | zero => exact absurd HA.out (by simp [complineref04_Sorted.l0])
    | succ k1 =>
      have H := HA.out
      clear HA
      simp only [complineref04_Sorted.l0] at H
      by_cases c2 : x3_1 < (l0.length : Int)
      · rw [if_pos c2] at H
        have c2b0 : decide (x3_1 < (l0.length : Int)) = true := decide_eq_true c2
        clear c2
        by_cases c3 : 0 ≤ x3_1
        · rw [if_pos c3] at H
          have c3b0 : decide (0 ≤ x3_1) = true := decide_eq_true c3
          clear c3
          obtain ⟨ji4, hji4⟩ : ∃ j_ : Int, (wrap64 (x3_1 - 1)) = j_ := ⟨_, rfl⟩
          replace H : (if 0 ≤ (ji4) then (if (ji4) < (l0.length : Int) then ((complineref01_Before.f ((rd_T38 l0 x3_1).f0) ((rd_T38 l0 x3_1).f1) ((rd_T38 l0 x3_1).f2) ((rd_T38 l0 (ji4)).f0) ((rd_T38 l0 (ji4)).f1) ((rd_T38 l0 (ji4)).f2)).bind fun t263 => (if t263 = true then (some false) else (complineref04_Sorted.l0 k1 l0 (wrap64 (x3_1 + 1))))) else (none)) else (none)) = some r := by first | (rw [hji4] at H; exact H) | (simp only [hji4] at H ⊢; exact H)
          have hji4w : (IntKind.i64.wrap (x3_1 - 1)) = ji4 := (i64_w _).trans hji4
          by_cases c5 : 0 ≤ (ji4)
          · rw [if_pos c5] at H
            have c5b0 : decide (0 ≤ (ji4)) = true := decide_eq_true c5
            clear c5
            by_cases c6 : (ji4) < (l0.length : Int)
            · rw [if_pos c6] at H
              have c6b0 : decide ((ji4) < (l0.length : Int)) = true := decide_eq_true c6
              clear c6
              replace H := Option.bind_eq_some_iff.mp H
              obtain ⟨t263, A70, H⟩ := H
              replace H : (if t263 = true then (some false) else (complineref04_Sorted.l0 k1 l0 (wrap64 (x3_1 + 1)))) = some r := H
              have A7 := Aside0.mk A70
              clear A70
              by_cases c8 : t263 = true
              · subst c8
                have H1 : (some false) = some r := by rw [if_pos rfl] at H; exact H
                clear H
                have H := H1
                clear H1
                obtain rfl := Option.some.inj H
                try go_wp2
                have n0_ := Aside0.mk (below_drew1 HB.out)
                clear HB
                have HB := n0_
                clear n0_
                have p261 : 0 ≤ (x3_1 : Int) := of_decide_eq_true (by first | (with_reducible assumption) | assumption)
                have q261 : x3_1 < (l0.length : Int) := of_decide_eq_true (by first | (with_reducible assumption) | assumption)
                obtain ⟨ad261, e261, hx261_0, hx261_1, hx261_2⟩ := at_T38 HR0.out x3_1 p261 q261
                have hw261_2 := hx261_2
                have hw261_1 := hx261_1
                have hw261_0 := hx261_0
                cases e261
                replace hx261_0 := (HB.out.cell (World.block_lt_of_cell? w _ hx261_0)).trans hx261_0
                replace hx261_1 := (HB.out.cell (World.block_lt_of_cell? w _ hx261_1)).trans hx261_1
                replace hx261_2 := (HB.out.cell (World.block_lt_of_cell? w _ hx261_2)).trans hx261_2
                replace p261 := eq_true p261
                replace q261 := eq_true q261
                have p262 : 0 ≤ ((ji4) : Int) := of_decide_eq_true (by first | (with_reducible assumption) | assumption)
                have q262 : (ji4) < (l0.length : Int) := of_decide_eq_true (by first | (with_reducible assumption) | assumption)
                obtain ⟨ad262, e262, hx262_0, hx262_1, hx262_2⟩ := at_T38 HR0.out (ji4) p262 q262
                have hw262_2 := hx262_2
                have hw262_1 := hx262_1
                have hw262_0 := hx262_0
                obtain rfl : ad261 = ad262 := (by injection e262)
                replace hx262_0 := (HB.out.cell (World.block_lt_of_cell? w _ hx262_0)).trans hx262_0
                replace hx262_1 := (HB.out.cell (World.block_lt_of_cell? w _ hx262_1)).trans hx262_1
                replace hx262_2 := (HB.out.cell (World.block_lt_of_cell? w _ hx262_2)).trans hx262_2
                replace p262 := eq_true p262
                replace q262 := eq_true q262
                refine start_ (n := 11) (S := fun w' => w'.cell? (ad261.add ((x3_1).toNat * 3)) = some (.int .u64 ((rd_T38 l0 x3_1).f0)) ∧ w'.cell? ⟨(ad261.add ((x3_1).toNat * 3)).block, (ad261.add ((x3_1).toNat * 3)).off + 1, none⟩ = some (.int .u64 ((rd_T38 l0 x3_1).f1)) ∧ w'.cell? ⟨(ad261.add ((x3_1).toNat * 3)).block, (ad261.add ((x3_1).toNat * 3)).off + 2, none⟩ = some (.int .i64 ((rd_T38 l0 x3_1).f2)) ∧ w'.cell? (ad261.add (((ji4)).toNat * 3)) = some (.int .u64 ((rd_T38 l0 (ji4)).f0)) ∧ w'.cell? ⟨(ad261.add (((ji4)).toNat * 3)).block, (ad261.add (((ji4)).toNat * 3)).off + 1, none⟩ = some (.int .u64 ((rd_T38 l0 (ji4)).f1)) ∧ w'.cell? ⟨(ad261.add (((ji4)).toNat * 3)).block, (ad261.add (((ji4)).toNat * 3)).off + 2, none⟩ = some (.int .i64 ((rd_T38 l0 (ji4)).f2))) (ds := []) #[false, false, false, false, false, false, false, false, false, false, false] (by kernel_rfl) rfl rfl ⟨((HB.out.cell (World.block_lt_of_cell? w _ hw261_0)).trans hw261_0), ((HB.out.cell (World.block_lt_of_cell? w _ hw261_1)).trans hw261_1), ((HB.out.cell (World.block_lt_of_cell? w _ hw261_2)).trans hw261_2), ((HB.out.cell (World.block_lt_of_cell? w _ hw262_0)).trans hw262_0), ((HB.out.cell (World.block_lt_of_cell? w _ hw262_1)).trans hw262_1), ((HB.out.cell (World.block_lt_of_cell? w _ hw262_2)).trans hw262_2)⟩ (fun hHeld => ?_); refine with_tabW complineref04_Sorted.tab4 complineref04_Sorted.bits4 (fun HT_ HW_ => ?_)
                generalize wr.drew = w9 at HB hx261_0 hx261_1 hx261_2 hx262_0 hx262_1 hx262_2 hHeld ⊢
                refine pure_ (i := 0) (N := some 11) (v := ?_) (a' := ?_) #[true, false, false, false, false, false, false, false, false, false, false] rfl rfl (any_of HT_.out (by kernel_rfl)) (fun _ _ _ h => h) (Or.inl ⟨by rfl, ?_⟩) ?_ ?_
                rotate_left
                · intro w'
                  go_simp
                  with_reducible rfl
                rotate_left
                · simp only [Act.put, List.setIfInBounds_toArray, List.set_cons_zero, List.set_cons_succ, i64_w, i32_w]
                  rfl
                refine pure_ (i := 1) (N := some 12) (v := ?_) (a' := ?_) #[true, true, false, false, false, false, false, false, false, false, false] rfl rfl (any_of HT_.out (by kernel_rfl)) (fun _ _ _ h => h) (Or.inl ⟨by rfl, ?_⟩) ?_ ?_
                rotate_left
                · intro w'
                  go_simp
                  with_reducible rfl
                rotate_left
                · simp only [Act.put, List.setIfInBounds_toArray, List.set_cons_zero, List.set_cons_succ, i64_w, i32_w]
                  rfl
                refine pure_ (i := 2) (N := some 13) (v := ?_) (a' := ?_) #[true, true, true, false, false, false, false, false, false, false, false] rfl rfl (any_of HT_.out (by kernel_rfl)) (fun _ _ _ h => h) (Or.inl ⟨by rfl, ?_⟩) ?_ ?_
                rotate_left
                · intro w'
                  go_simp
                  with_reducible rfl
                rotate_left
                · simp only [Act.put, List.setIfInBounds_toArray, List.set_cons_zero, List.set_cons_succ, i64_w, i32_w]
                  rfl
                refine pure_ (i := 4) (N := some 15) (v := ?_) (a' := ?_) #[true, true, true, false, true, false, false, false, false, false, false] rfl rfl (any_of HT_.out (by kernel_rfl)) (fun _ _ _ h => h) (Or.inl ⟨by rfl, ?_⟩) ?_ ?_
                rotate_left
                · intro w'
                  go_simp
                  with_reducible rfl
                rotate_left
                · simp only [Act.put, List.setIfInBounds_toArray, List.set_cons_zero, List.set_cons_succ, i64_w, i32_w]
                  rfl
                refine pure_ (i := 5) (N := some 16) (v := ?_) (a' := ?_) #[true, true, true, false, true, true, false, false, false, false, false] rfl rfl (any_of HT_.out (by kernel_rfl)) (fun _ _ _ h => h) (Or.inl ⟨by rfl, ?_⟩) ?_ ?_
                rotate_left
                · intro w'
                  go_simp
                  with_reducible rfl
                rotate_left
                · simp only [Act.put, List.setIfInBounds_toArray, List.set_cons_zero, List.set_cons_succ, i64_w, i32_w]
                  rfl
                refine pure_ (i := 6) (N := some 17) (v := ?_) (a' := ?_) #[true, true, true, false, true, true, true, false, false, false, false] rfl rfl (any_of HT_.out (by kernel_rfl)) (fun _ _ _ h => h) (Or.inl ⟨by rfl, ?_⟩) ?_ ?_
                rotate_left
                · intro w'
                  go_simp
                  with_reducible rfl
                rotate_left
                · simp only [Act.put, List.setIfInBounds_toArray, List.set_cons_zero, List.set_cons_succ, i64_w, i32_w]
                  rfl
                refine pure_ (i := 7) (N := some 18) (v := ?_) (a' := ?_) #[true, true, true, false, true, true, true, true, false, false, false] rfl rfl (any_of HT_.out (by kernel_rfl)) (fun _ _ _ h => h) (Or.inl ⟨by rfl, ?_⟩) ?_ ?_
                rotate_left
                · intro w'
                  go_simp
                  with_reducible rfl
                rotate_left
                · simp only [Act.put, List.setIfInBounds_toArray, List.set_cons_zero, List.set_cons_succ, i64_w, i32_w]
                  rfl
                refine take_ (i := 3) (N := some 14) (v := ?_) (a' := ?_) #[true, true, true, true, true, true, true, true, false, false, false] rfl rfl (take_ofW HT_.out HW_.out (by kernel_rfl)) (fun _ _ _ h => h) (Or.inl ⟨by rfl, ?_⟩) hHeld ?_ ?_
                rotate_left
                · rintro w' ⟨s0, s1, s2, s3, s4, s5⟩
                  go_simp
                  with_reducible rfl
                rotate_left
                · simp only [Act.put, List.setIfInBounds_toArray, List.set_cons_zero, List.set_cons_succ, i64_w, i32_w]
                  rfl
                refine take_ (i := 8) (N := some 19) (v := ?_) (a' := ?_) #[true, true, true, true, true, true, true, true, true, false, false] rfl rfl (take_ofW HT_.out HW_.out (by kernel_rfl)) (fun _ _ _ h => h) (Or.inl ⟨by rfl, ?_⟩) hHeld ?_ ?_
                rotate_left
                · rintro w' ⟨s0, s1, s2, s3, s4, s5⟩
                  go_simp
                  with_reducible rfl
                rotate_left
                · simp only [Act.put, List.setIfInBounds_toArray, List.set_cons_zero, List.set_cons_succ, i64_w, i32_w]
                  rfl
                refine one_ (i := 9) (N := some 20) #[true, true, true, true, true, true, true, true, true, true, false] rfl rfl (one_of HT_.out (by kernel_rfl)) (by decide) (fun K hK => ?_)
                refine goes_ Try.func29 (by kernel_rfl) rfl #[.agg #[.int .u64 ((rd_T38 l0 x3_1).f0), .int .u64 ((rd_T38 l0 x3_1).f1), .int .i64 ((rd_T38 l0 x3_1).f2)], .agg #[.int .u64 ((rd_T38 l0 (ji4)).f0), .int .u64 ((rd_T38 l0 (ji4)).f1), .int .i64 ((rd_T38 l0 (ji4)).f2)]] (by rfl) rfl rfl (by (try simp only [List.map_toArray, List.map_cons, List.map_nil]); first | done | (simp only [hji4]; rfl) | rfl | (simp only [List.length_drop, List.length_take]; rfl)) ?_
                with_reducible refine (complineref01_Before.calls ((rd_T38 l0 x3_1).f0) ((rd_T38 l0 x3_1).f1) ((rd_T38 l0 x3_1).f2) ((rd_T38 l0 (ji4)).f0) ((rd_T38 l0 (ji4)).f1) ((rd_T38 l0 (ji4)).f2) true _ A7.out).mono ?_
                rintro e w10 ⟨rfl, hb⟩
                refine ⟨_, rfl, ?_⟩
                have n0_ := Aside0.mk (below_step (by repeat (first | (with_reducible first | exact HB.out | apply below_alloc | apply pw_below_drewN | apply below_drew1) | exact HB.out)) hb)
                clear HB
                have HB := n0_
                clear n0_
                (try clear hb)
                (try clear hb2)
                (try clear hk)
                (try clear hi)
                refine hK.out _ _ ⟨((HB.out.cell (World.block_lt_of_cell? w _ hw261_0)).trans hw261_0), ((HB.out.cell (World.block_lt_of_cell? w _ hw261_1)).trans hw261_1), ((HB.out.cell (World.block_lt_of_cell? w _ hw261_2)).trans hw261_2), ((HB.out.cell (World.block_lt_of_cell? w _ hw262_0)).trans hw262_0), ((HB.out.cell (World.block_lt_of_cell? w _ hw262_1)).trans hw262_1), ((HB.out.cell (World.block_lt_of_cell? w _ hw262_2)).trans hw262_2)⟩ (fun hHeld => ?_)
                clear hK K
                refine norm_ (a' := ?_) ?_ ?_
                rotate_left
                · show Act.put _ (some 20) _ = _
                  simp only [Act.put, List.setIfInBounds_toArray, List.set_cons_zero, List.set_cons_succ, i64_w, i32_w]
                  rfl
                refine pure_ (i := 10) (N := some 4) (v := ?_) (a' := ?_) #[true, true, true, true, true, true, true, true, true, true, true] rfl rfl (any_of HT_.out (by kernel_rfl)) (fun _ _ _ h => h) (Or.inl ⟨by rfl, ?_⟩) ?_ ?_
                rotate_left
                · intro w'
                  go_simp
                  with_reducible rfl
                rotate_left
                · simp only [Act.put, List.setIfInBounds_toArray, List.set_cons_zero, List.set_cons_succ, i64_w, i32_w]
                  rfl
                refine done_ (done_of HT_.out (by kernel_rfl)) ?_
                try go_wp2
                go_ret
                exact ⟨by first | rfl | (simp [errW_none, errW_some] <;> rfl) | (simp only [← hji4]; first | rfl | (simp [errW_none, errW_some] <;> rfl)) | (simp [*, errW_none, errW_some] <;> rfl), by repeat (first | (with_reducible first | exact HB.out | apply below_alloc | apply pw_below_drewN | apply below_drew1) | exact HB.out)⟩
              · replace c8 := Bool.eq_false_iff.mpr c8
                subst c8
                have H1 : (complineref04_Sorted.l0 k1 l0 (wrap64 (x3_1 + 1))) = some r := by rw [if_neg (show ¬ (false = true) by decide)] at H; exact H
                clear H
                have H := H1
                clear H1
                have H' := Aside0.mk H
                clear H
                try go_wp2
                have n0_ := Aside0.mk (below_drew1 HB.out)
                clear HB
                have HB := n0_
                clear n0_
                have p261 : 0 ≤ (x3_1 : Int) := of_decide_eq_true (by first | (with_reducible assumption) | assumption)
                have q261 : x3_1 < (l0.length : Int) := of_decide_eq_true (by first | (with_reducible assumption) | assumption)
                obtain ⟨ad261, e261, hx261_0, hx261_1, hx261_2⟩ := at_T38 HR0.out x3_1 p261 q261
                have hw261_2 := hx261_2
                have hw261_1 := hx261_1
                have hw261_0 := hx261_0
                cases e261
                replace hx261_0 := (HB.out.cell (World.block_lt_of_cell? w _ hx261_0)).trans hx261_0
                replace hx261_1 := (HB.out.cell (World.block_lt_of_cell? w _ hx261_1)).trans hx261_1
                replace hx261_2 := (HB.out.cell (World.block_lt_of_cell? w _ hx261_2)).trans hx261_2
                replace p261 := eq_true p261
                replace q261 := eq_true q261
                have p262 : 0 ≤ ((ji4) : Int) := of_decide_eq_true (by first | (with_reducible assumption) | assumption)
                have q262 : (ji4) < (l0.length : Int) := of_decide_eq_true (by first | (with_reducible assumption) | assumption)
                obtain ⟨ad262, e262, hx262_0, hx262_1, hx262_2⟩ := at_T38 HR0.out (ji4) p262 q262
                have hw262_2 := hx262_2
                have hw262_1 := hx262_1
                have hw262_0 := hx262_0
                obtain rfl : ad261 = ad262 := (by injection e262)
                replace hx262_0 := (HB.out.cell (World.block_lt_of_cell? w _ hx262_0)).trans hx262_0
                replace hx262_1 := (HB.out.cell (World.block_lt_of_cell? w _ hx262_1)).trans hx262_1
                replace hx262_2 := (HB.out.cell (World.block_lt_of_cell? w _ hx262_2)).trans hx262_2
                replace p262 := eq_true p262
                replace q262 := eq_true q262
                refine start_ (n := 11) (S := fun w' => w'.cell? (ad261.add ((x3_1).toNat * 3)) = some (.int .u64 ((rd_T38 l0 x3_1).f0)) ∧ w'.cell? ⟨(ad261.add ((x3_1).toNat * 3)).block, (ad261.add ((x3_1).toNat * 3)).off + 1, none⟩ = some (.int .u64 ((rd_T38 l0 x3_1).f1)) ∧ w'.cell? ⟨(ad261.add ((x3_1).toNat * 3)).block, (ad261.add ((x3_1).toNat * 3)).off + 2, none⟩ = some (.int .i64 ((rd_T38 l0 x3_1).f2)) ∧ w'.cell? (ad261.add (((ji4)).toNat * 3)) = some (.int .u64 ((rd_T38 l0 (ji4)).f0)) ∧ w'.cell? ⟨(ad261.add (((ji4)).toNat * 3)).block, (ad261.add (((ji4)).toNat * 3)).off + 1, none⟩ = some (.int .u64 ((rd_T38 l0 (ji4)).f1)) ∧ w'.cell? ⟨(ad261.add (((ji4)).toNat * 3)).block, (ad261.add (((ji4)).toNat * 3)).off + 2, none⟩ = some (.int .i64 ((rd_T38 l0 (ji4)).f2))) (ds := []) #[false, false, false, false, false, false, false, false, false, false, false] (by kernel_rfl) rfl rfl ⟨((HB.out.cell (World.block_lt_of_cell? w _ hw261_0)).trans hw261_0), ((HB.out.cell (World.block_lt_of_cell? w _ hw261_1)).trans hw261_1), ((HB.out.cell (World.block_lt_of_cell? w _ hw261_2)).trans hw261_2), ((HB.out.cell (World.block_lt_of_cell? w _ hw262_0)).trans hw262_0), ((HB.out.cell (World.block_lt_of_cell? w _ hw262_1)).trans hw262_1), ((HB.out.cell (World.block_lt_of_cell? w _ hw262_2)).trans hw262_2)⟩ (fun hHeld => ?_); refine with_tabW complineref04_Sorted.tab4 complineref04_Sorted.bits4 (fun HT_ HW_ => ?_)
                generalize wr.drew = w11 at HB hx261_0 hx261_1 hx261_2 hx262_0 hx262_1 hx262_2 hHeld ⊢
                refine pure_ (i := 0) (N := some 11) (v := ?_) (a' := ?_) #[true, false, false, false, false, false, false, false, false, false, false] rfl rfl (any_of HT_.out (by kernel_rfl)) (fun _ _ _ h => h) (Or.inl ⟨by rfl, ?_⟩) ?_ ?_
                rotate_left
                · intro w'
                  go_simp
                  with_reducible rfl
                rotate_left
                · simp only [Act.put, List.setIfInBounds_toArray, List.set_cons_zero, List.set_cons_succ, i64_w, i32_w]
                  rfl
                refine pure_ (i := 1) (N := some 12) (v := ?_) (a' := ?_) #[true, true, false, false, false, false, false, false, false, false, false] rfl rfl (any_of HT_.out (by kernel_rfl)) (fun _ _ _ h => h) (Or.inl ⟨by rfl, ?_⟩) ?_ ?_
                rotate_left
                · intro w'
                  go_simp
                  with_reducible rfl
                rotate_left
                · simp only [Act.put, List.setIfInBounds_toArray, List.set_cons_zero, List.set_cons_succ, i64_w, i32_w]
                  rfl
                refine pure_ (i := 2) (N := some 13) (v := ?_) (a' := ?_) #[true, true, true, false, false, false, false, false, false, false, false] rfl rfl (any_of HT_.out (by kernel_rfl)) (fun _ _ _ h => h) (Or.inl ⟨by rfl, ?_⟩) ?_ ?_
                rotate_left
                · intro w'
                  go_simp
                  with_reducible rfl
                rotate_left
                · simp only [Act.put, List.setIfInBounds_toArray, List.set_cons_zero, List.set_cons_succ, i64_w, i32_w]
                  rfl
                refine pure_ (i := 4) (N := some 15) (v := ?_) (a' := ?_) #[true, true, true, false, true, false, false, false, false, false, false] rfl rfl (any_of HT_.out (by kernel_rfl)) (fun _ _ _ h => h) (Or.inl ⟨by rfl, ?_⟩) ?_ ?_
                rotate_left
                · intro w'
                  go_simp
                  with_reducible rfl
                rotate_left
                · simp only [Act.put, List.setIfInBounds_toArray, List.set_cons_zero, List.set_cons_succ, i64_w, i32_w]
                  rfl
                refine pure_ (i := 5) (N := some 16) (v := ?_) (a' := ?_) #[true, true, true, false, true, true, false, false, false, false, false] rfl rfl (any_of HT_.out (by kernel_rfl)) (fun _ _ _ h => h) (Or.inl ⟨by rfl, ?_⟩) ?_ ?_
                rotate_left
                · intro w'
                  go_simp
                  with_reducible rfl
                rotate_left
                · simp only [Act.put, List.setIfInBounds_toArray, List.set_cons_zero, List.set_cons_succ, i64_w, i32_w]
                  rfl
                refine pure_ (i := 6) (N := some 17) (v := ?_) (a' := ?_) #[true, true, true, false, true, true, true, false, false, false, false] rfl rfl (any_of HT_.out (by kernel_rfl)) (fun _ _ _ h => h) (Or.inl ⟨by rfl, ?_⟩) ?_ ?_
                rotate_left
                · intro w'
                  go_simp
                  with_reducible rfl
                rotate_left
                · simp only [Act.put, List.setIfInBounds_toArray, List.set_cons_zero, List.set_cons_succ, i64_w, i32_w]
                  rfl
                refine pure_ (i := 7) (N := some 18) (v := ?_) (a' := ?_) #[true, true, true, false, true, true, true, true, false, false, false] rfl rfl (any_of HT_.out (by kernel_rfl)) (fun _ _ _ h => h) (Or.inl ⟨by rfl, ?_⟩) ?_ ?_
                rotate_left
                · intro w'
                  go_simp
                  with_reducible rfl
                rotate_left
                · simp only [Act.put, List.setIfInBounds_toArray, List.set_cons_zero, List.set_cons_succ, i64_w, i32_w]
                  rfl
                refine take_ (i := 3) (N := some 14) (v := ?_) (a' := ?_) #[true, true, true, true, true, true, true, true, false, false, false] rfl rfl (take_ofW HT_.out HW_.out (by kernel_rfl)) (fun _ _ _ h => h) (Or.inl ⟨by rfl, ?_⟩) hHeld ?_ ?_
                rotate_left
                · rintro w' ⟨s0, s1, s2, s3, s4, s5⟩
                  go_simp
                  with_reducible rfl
                rotate_left
                · simp only [Act.put, List.setIfInBounds_toArray, List.set_cons_zero, List.set_cons_succ, i64_w, i32_w]
                  rfl
                refine take_ (i := 8) (N := some 19) (v := ?_) (a' := ?_) #[true, true, true, true, true, true, true, true, true, false, false] rfl rfl (take_ofW HT_.out HW_.out (by kernel_rfl)) (fun _ _ _ h => h) (Or.inl ⟨by rfl, ?_⟩) hHeld ?_ ?_
                rotate_left
                · rintro w' ⟨s0, s1, s2, s3, s4, s5⟩
                  go_simp
                  with_reducible rfl
                rotate_left
                · simp only [Act.put, List.setIfInBounds_toArray, List.set_cons_zero, List.set_cons_succ, i64_w, i32_w]
                  rfl
                refine one_ (i := 9) (N := some 20) #[true, true, true, true, true, true, true, true, true, true, false] rfl rfl (one_of HT_.out (by kernel_rfl)) (by decide) (fun K hK => ?_)
                refine goes_ Try.func29 (by kernel_rfl) rfl #[.agg #[.int .u64 ((rd_T38 l0 x3_1).f0), .int .u64 ((rd_T38 l0 x3_1).f1), .int .i64 ((rd_T38 l0 x3_1).f2)], .agg #[.int .u64 ((rd_T38 l0 (ji4)).f0), .int .u64 ((rd_T38 l0 (ji4)).f1), .int .i64 ((rd_T38 l0 (ji4)).f2)]] (by rfl) rfl rfl (by (try simp only [List.map_toArray, List.map_cons, List.map_nil]); first | done | (simp only [hji4]; rfl) | rfl | (simp only [List.length_drop, List.length_take]; rfl)) ?_
                with_reducible refine (complineref01_Before.calls ((rd_T38 l0 x3_1).f0) ((rd_T38 l0 x3_1).f1) ((rd_T38 l0 x3_1).f2) ((rd_T38 l0 (ji4)).f0) ((rd_T38 l0 (ji4)).f1) ((rd_T38 l0 (ji4)).f2) false _ A7.out).mono ?_
                rintro e w12 ⟨rfl, hb⟩
                refine ⟨_, rfl, ?_⟩
                have n0_ := Aside0.mk (below_step (by repeat (first | (with_reducible first | exact HB.out | apply below_alloc | apply pw_below_drewN | apply below_drew1) | exact HB.out)) hb)
                clear HB
                have HB := n0_
                clear n0_
                (try clear hb)
                (try clear hb2)
                (try clear hk)
                (try clear hi)
                refine hK.out _ _ ⟨((HB.out.cell (World.block_lt_of_cell? w _ hw261_0)).trans hw261_0), ((HB.out.cell (World.block_lt_of_cell? w _ hw261_1)).trans hw261_1), ((HB.out.cell (World.block_lt_of_cell? w _ hw261_2)).trans hw261_2), ((HB.out.cell (World.block_lt_of_cell? w _ hw262_0)).trans hw262_0), ((HB.out.cell (World.block_lt_of_cell? w _ hw262_1)).trans hw262_1), ((HB.out.cell (World.block_lt_of_cell? w _ hw262_2)).trans hw262_2)⟩ (fun hHeld => ?_)
                clear hK K
                refine norm_ (a' := ?_) ?_ ?_
                rotate_left
                · show Act.put _ (some 20) _ = _
                  simp only [Act.put, List.setIfInBounds_toArray, List.set_cons_zero, List.set_cons_succ, i64_w, i32_w]
                  rfl
                refine pure_ (i := 10) (N := some 4) (v := ?_) (a' := ?_) #[true, true, true, true, true, true, true, true, true, true, true] rfl rfl (any_of HT_.out (by kernel_rfl)) (fun _ _ _ h => h) (Or.inl ⟨by rfl, ?_⟩) ?_ ?_
                rotate_left
                · intro w'
                  go_simp
                  with_reducible rfl
                rotate_left
                · simp only [Act.put, List.setIfInBounds_toArray, List.set_cons_zero, List.set_cons_succ, i64_w, i32_w]
                  rfl
                refine done_ (done_of HT_.out (by kernel_rfl)) ?_
                try go_wp2
                go_roundg k1
                case measure => have := HK1.out; omega
                case rel => exact ⟨(wrap64 (x3_1 + 1)), (by first | rfl | (simp; done) | (simp [*]; done)), H', ⟨by have := HK1.out; omega⟩, ⟨by repeat (first | (with_reducible first | exact HB.out | apply below_alloc | apply pw_below_drewN | apply below_drew1) | exact HB.out)⟩⟩
            · rw [if_neg c6] at H
              exact absurd H (by simp)
          · rw [if_neg c5] at H
            exact absurd H (by simp)
        · rw [if_neg c3] at H
          exact absurd H (by simp)
      · rw [if_neg c2] at H
        have c2b0 : decide (x3_1 < (l0.length : Int)) = false := decide_eq_false c2
        clear c2
        obtain rfl := Option.some.inj H
        go_wp2
        go_ret
        exact ⟨by first | rfl | (simp [errW_none, errW_some] <;> rfl) | (simp [*, errW_none, errW_some] <;> rfl), by repeat (first | (with_reducible first | exact HB.out | apply below_alloc | apply pw_below_drewN | apply below_drew1) | exact HB.out)⟩


end Go.Proofs.Ytokhbiaaaflphaa.GListqPlays
namespace Go.Proofs.Ytokhbiaaaflphaa.ListDues
open Go.Proofs.Ytokhbiaaaflphaa.ListW Go.Proofs.Ytokhbiaaaflphaa.ListK Go.RowKit Go.Shelf Go.Proofs.Ytokhbiaaaflphaa.ChainA Go.Proofs.Ytokhbiaaaflphaa.ListM Go.Proofs.Ytokhbiaaaflphaa.ListA Go.Proofs.Ytokhbiaaaflphaa.ListB Go.Proofs.Ytokhbiaaaflphaa.ListE Go.Proofs.Ytokhbiaaaflphaa.ListF Go.Proofs.Ytokhbiaaaflphaa.ListR Go.Proofs.Ytokhbiaaaflphaa.ListG Go.Proofs.Ytokhbiaaaflphaa.ListH Go.Proofs.Ytokhbiaaaflphaa.ListI Go.Proofs.Ytokhbiaaaflphaa.GListqPlays Go.Proofs.YtokhbiaaaflphaaW.PrintWords Go.Proofs.YtokhbiaaaflphaaW.PrintLast Go.Proofs.YtokhbiaaaflphaaW.PrintMore
set_option linter.unusedVariables false
set_option linter.unusedSimpArgs false
variable {w : World} {q gT g b p : Nat} {P : Nat → Prop} {T T0 T1 : List S38} {v : Value}

theorem sorted_l0 (T : List S38) (h : T.Pairwise bef) (hN : T.length ≤ 1000000) : ∀ (d k i : Nat), T.length - i = d → 1 ≤ i → d < k → complineref04_Sorted.l0 k T (i : Int) = some true
  | d, 0, i, _, _, hk => by omega
  | d, k + 1, i, hd, hi, hk => by
    simp -implicitDefEqProofs only [complineref04_Sorted.l0]
    by_cases hl : i < T.length
    · have e : wrap64 ((i : Int) - 1) = ((i - 1 : Nat) : Int) := by rw [w64 _ (by omega) (by omega)]; omega
      rw [if_pos (by omega), if_pos (by omega), e, if_pos (by omega), if_pos (by omega), rd_at T i hl, rd_at T (i - 1) (by omega), before_f, Option.bind_some]
      have hb : bef T[i - 1] T[i] := List.pairwise_iff_getElem.1 h (i - 1) i (by omega) hl (by omega)
      rw [if_neg (by simpa using bef_asymm hb), w64 _ (by omega) (by omega), show ((i : Int) + 1) = ((i + 1 : Nat) : Int) by omega]
      exact sorted_l0 T h hN (d - 1) k (i + 1) (by omega) (by omega) (by omega)
    · rw [if_neg (by omega)]
theorem sorted_f (T : List S38) (h : T.Pairwise bef) (hN : T.length ≤ 1000000) : complineref04_Sorted.f (T.length + 1) T = some true :=
  sorted_l0 T h hN (T.length - 1) (T.length + 1) 1 rfl (Nat.le_refl 1) (by omega)
theorem due_rest (now : Int) : ∀ T : List S38, T.Pairwise bef → dueT T now ++ restT T now = T
  | [], _ => rfl
  | a :: T, h => by
    have h2 := List.pairwise_cons.1 h
    have ih := due_rest now T h2.2
    unfold dueT restT at ih ⊢
    by_cases ha : a.f0 ≤ now
    · rw [List.filter_cons_of_pos (by simpa using ha), List.filter_cons_of_neg (by simpa using ha), List.cons_append, ih]
    · have e : T.filter (fun a => decide (a.f0 ≤ now)) = [] := List.filter_eq_nil_iff.2 (fun b hb => by simpa using fun q => ha (bef_due (h2.1 b hb) q))
      rw [e, List.nil_append] at ih
      rw [List.filter_cons_of_neg (by simpa using ha), List.filter_cons_of_pos (by simpa using ha), e, ih]; rfl
theorem due_gone {T : List S38} (h : QI p T) (now : Int) (t : S38) (ht : t ∈ dueT T now) : t.f0 ≤ now ∧ findT (restT T now) t.f2 = none := by
  have h1 := List.mem_filter.1 ht
  have h2 : t.f0 ≤ now := by simpa using h1.2
  refine ⟨h2, ?_⟩
  cases hf : findT (restT T now) t.f2 with
  | none => rfl
  | some a =>
    obtain ⟨ha, e⟩ := findT_some hf
    have h3 := List.mem_filter.1 ha
    have := h.one h3.1 h1.1 e
    subst this
    have h4 : ¬ a.f0 ≤ now := by simpa using h3.2
    exact absurd h2 h4
theorem rest_late {T : List S38} {now : Int} {x : S38} (h : x ∈ restT T now) : now < x.f0 := by
  have h3 := (List.mem_filter.1 h).2
  have h4 : ¬ x.f0 ≤ now := by simpa using h3
  omega
theorem rest_due (T : List S38) (now : Int) : dueT (restT T now) now = [] := by
  unfold dueT
  rw [List.filter_eq_nil_iff]
  intro a ha
  have := rest_late ha
  simp only [decide_eq_true_eq]
  omega
theorem get_none {x : Int} {W : World} (hm : findT T x = none) (h : WS w W q gT g b p T) : Calls Try.prog 14 #[.pointer (some ⟨q, 0, none⟩), .int .i64 x] W fun e w' => e = .returned (.tuple #[tv z38, .bool false]) ∧ WS w w' q gT g b p T ∧ Below W.heap.size W w' := by
  refine (get_T x h.qs).mono ?_
  rintro e w' ⟨rfl, k⟩
  rw [hm]
  exact ⟨rfl, h.below k, k⟩
theorem all_rt {n : Nat} {W : World} (h : WS w W q gT g b p T) (hn : T.length = n) : Calls Try.prog 10 #[.pointer (some ⟨q, 0, none⟩)] W fun e w' => ∃ A c, e = .returned (.slice A n c) ∧ RT w' W.heap.size (.slice A n c) T ∧ Below W.heap.size W w' := by
  subst hn
  refine (all_T h.qs).mono ?_
  rintro e w' ⟨v, rfl, h0, k⟩
  obtain ⟨A, c, rfl⟩ := h0.slice
  exact ⟨A, c, rfl, h0, k⟩
theorem rT_C {n m c : Nat} {A : Option Addr} {W : World} (h : RT W m (.slice A n c) T) (hn : T.length = n) : Kd.C k38 W A n T ∧ n ≤ c := by
  subst hn
  exact ⟨h.C.2.2, h.C.2.1⟩
theorem sorted_C {A0 : Option Addr} {c0 n : Nat} {W : World} (h : T.Pairwise bef) (h0 : Kd.C k38 W A0 n T) (k0 : n ≤ c0) (hl : n ≤ 1000000) :
    Calls Try.prog 13 #[.slice A0 n c0] W fun e w' => e = .returned (.bool true) ∧ Below W.heap.size W w' := by
  obtain rfl := h0.1
  exact complineref04_Sorted.calls _ A0 c0 T true W h0 k0 (sorted_f T h hl)
set_option maxRecDepth 100000 in
set_option maxHeartbeats 4000000 in
theorem dues_calls (p : Int) (A : Option Addr) (cap : Nat) (ls : List S59) (now : Int) (w : World) (hC : Kd.C k59 w A ls.length ls) (hmx : ls.length ≤ 140737488355328) :
    Calls Try.prog 4 #[.int .i64 p, .slice A ls.length cap, .int .u64 now] w fun e w' => e = .returned (.bool true) ∧ Below w.heap.size w w' := by
  have hu27 := Try.underlying27
  by_cases hlen : 60 < ls.length
  · have d0 : decide ((60 : Int) < (ls.length : Int)) = true := decide_eq_true (by omega)
    go_enter Try.func4, Try.ntmps4
    go_wp2_with fail
    go_at_call 7
    refine (works_calls _).mono ?_
    rintro e w1 ⟨rfl, k1⟩
    simp only []
    go_wp2_with fail
    go_ret
    exact ⟨rfl, k1⟩
  have d0 : decide ((60 : Int) < (ls.length : Int)) = false := decide_eq_false (by omega)
  go_enter Try.func4, Try.ntmps4
  go_wp2_with fail
  go_at_call 7
  refine (works_calls _).mono ?_
  rintro e w1 ⟨rfl, k1⟩
  simp only []
  go_wp2_with fail
  go_at_call 8
  by_cases hbad : p < 0 ∨ 1024 < p
  · refine (made_no p A cap ls _ hbad hmx).mono ?_
    rintro e w2 ⟨A0, c0, rfl, k2⟩
    simp only []
    go_wp2_with fail
    go_ret
    exact ⟨rfl, (k1.trans (k2.mono k1.size)).alloc (by have := k1.size; have := k2.size; omega) _⟩
  obtain ⟨pn, rfl⟩ : ∃ n : Nat, p = n := ⟨p.toNat, by omega⟩
  refine (made_yes pn A cap ls _ (by omega) (Kd.C_below hC k1) hmx).mono ?_
  rintro e w2 ⟨q, gT, g, b, v, rfl, hS, hr⟩
  obtain ⟨A1, c1, rfl⟩ := rp_slice hr
  generalize mActs pn [] ls = T at *
  obtain ⟨N1, hN1⟩ : ∃ N, N = T.length := ⟨_, rfl⟩
  rw [← hN1]
  clear hN1 hr hC
  have hz1 := k1.size
  have S2 : WS w w2 q gT g b pn T := ⟨hS.qs, by have := hS.lo; omega, k1.trans (hS.bel.mono hz1)⟩
  have S3 := S2.alloc (.cells #[.int .i64 (pn : Int), .slice A1 N1 c1] 27)
  clear hS k1 hz1 S2
  simp only []
  go_wp2_with fail
  generalize w2.alloc (.cells #[.int .i64 (pn : Int), .slice A1 N1 c1] 27) = w3 at *
  have hQ := qs_qi S3.qs
  have hlT := (qs_lens S3.qs).1
  have hDR := due_rest now T hQ.sorted
  have hgone := due_gone hQ now
  have hlate := fun x => @rest_late T now x
  have hrd := rest_due T now
  obtain ⟨D, hD⟩ : ∃ D, D = dueT T now := ⟨_, rfl⟩
  obtain ⟨R, hR⟩ : ∃ R, R = restT T now := ⟨_, rfl⟩
  rw [← hD] at hDR hgone
  rw [← hR] at hDR hgone hlate hrd
  obtain ⟨nT, hnT⟩ : ∃ n, T.length = n := ⟨_, rfl⟩
  obtain ⟨nD, hnD⟩ : ∃ n, D.length = n := ⟨_, rfl⟩
  obtain ⟨nR, hnR⟩ : ∃ n, R.length = n := ⟨_, rfl⟩
  have hsum : nD + nR = nT := by rw [← hnD, ← hnR, ← hnT, ← hDR, List.length_append]
  have hD' := Lib.hid hD
  have hR' := Lib.hid hR
  have hnT' := Lib.hid hnT
  have hnD' := Lib.hid hnD
  have hnR' := Lib.hid hnR
  have hlT2 : nT ≤ 2048 := by omega
  have hDR' := Lib.hid hDR
  have hrd' := Lib.hid hrd
  have hlD2 : nD ≤ 2048 := by omega
  have hlR2 : nR ≤ 2048 := by omega
  clear hD hR hnT hnD hnR hDR hlT hrd
  go_at_call 10
  have hF3 := ws_lt S3
  refine (all_rt S3 hnT'.out).mono ?_
  rintro e w4 ⟨AT, cT, rfl, rT, k4⟩
  have S4 := S3.below k4
  have hF4 := ws_lt S4
  clear S3 k4
  simp only []
  go_wp2_with fail
  go_at_call 11
  refine (due_T now S4.qs).mono ?_
  rintro e w5 ⟨vD, rfl, rD, h5, k5⟩
  rw [← hD'.out] at rD
  rw [← hR'.out] at h5
  obtain ⟨AD, cD, rfl⟩ := rD.slice
  rw [hnD'.out] at rD ⊢
  have S5 := S4.fr h5 k5
  replace rT := rT.fr k5 hF3.1 hF3.2.1 hF3.2.2.2
  have hF5 := ws_lt S5
  clear S4 h5 k5 hF3 hF4
  simp only []
  go_wp2_with fail
  go_at_call 10
  refine (all_rt S5 hnR'.out).mono ?_
  rintro e w6 ⟨AR, cR, rfl, rR, k6⟩
  have S6 := S5.below k6
  replace rT := rT.below k6
  replace rD := rD.below k6
  clear S5 k6
  have tT := (rT_C rT hnT'.out)
  have tD := (rT_C rD hnD'.out)
  have tR := (rT_C rR hnR'.out)
  simp only []
  go_wp2_with (first
    | ((with_reducible refine gate_dst (N := 51) rfl ?_); refine Kd.R_lit k38 _ 38 ?hg (N := 51) ?hd (xs := ([] : List (S38))) (inner := []) (ok := fun _ => True) (okp := fun _ => True) ?hr ?hp (fun _ hk => hk) trivial (Below.refl _ _) (Nat.le_refl _) (by simp) ?_; (case hd => rfl); (case hg => rfl); (case hr => first | (go_simp; done) | (go_simp; rfl)); (case hp => exact (Reps.none _ _)); intro v7 w7 o7 b7 hg_ hnew_; clear hg_ hnew_)
    | ((with_reducible refine gate_builtin (b := .append) (xs := #[.tmp 51, .tmp 52]) rfl ?_); at_builtin; refine Kd.R_append_rows k38 (w0 := w6) w6.heap.size rfl (.tmp 51) (.tmp 52) 25 38 (.agg #[(.int .u64 0), (.int .u64 0), (.int .i64 0)]) 24 rfl Try.underlying25 info38 rfl (by decide) (by omega) v7 [] D _ _ _ (fun _ => True) (fun _ => False) rfl rfl ?aO ?aR (fun _ _ h => h) (fun _ h => h.elim) ?aF ?aB ?aS ?aL ?_; (case aR => exact (Kd.C_below tD.1 b7)); (case aB => exact b7); (case aF => exact (fun _ _ => trivial)); (case aO => exact o7); (case aS => exact b7.size); (case aL => exact by simp only [List.length_nil]; omega); intro v8 w8 o8 b8 hg_ hnew_; clear hg_ hnew_)
    | ((with_reducible refine gate_builtin (b := .append) (xs := #[.tmp 53, .tmp 54]) rfl ?_); at_builtin; refine Kd.R_append_rows k38 (w0 := w6) w6.heap.size rfl (.tmp 53) (.tmp 54) 25 38 (.agg #[(.int .u64 0), (.int .u64 0), (.int .i64 0)]) 24 rfl Try.underlying25 info38 rfl (by decide) (by omega) v8 ([] ++ D) R _ _ _ (fun _ => True) (fun _ => False) rfl rfl ?aO ?aR (fun _ _ h => h) (fun _ h => h.elim) ?aF ?aB ?aS ?aL ?_; (case aR => exact (Kd.C_below tR.1 b8)); (case aB => exact b8); (case aF => exact (fun _ _ => trivial)); (case aO => exact o8); (case aS => exact b8.size); (case aL => exact by rw [List.nil_append, hnD'.out]; omega); intro v9 w9 o9 b9 hg_ hnew_; clear hg_ hnew_; obtain ⟨A9, c9, rfl⟩ := Kd.R_slice o9; obtain ⟨n9, hn9⟩ : ∃ n, n = (([] ++ D) ++ R).length := ⟨_, rfl⟩; rw [← hn9] at o9 ⊢; obtain rfl : n9 = nT := (by rw [hn9, List.nil_append, hDR'.out]; exact hnT'.out); rw [List.nil_append, hDR'.out] at o9; clear hn9))
  have t9 := RT.of_R o9 (Nat.le_refl _)
  have r9 := rT_C t9 hnT'.out
  have S9 := S6.below b9
  have tT9 := Kd.C_below tT.1 b9
  have cDl := tD.2
  replace rD := rD.below b9
  replace rR := rR.below b9
  clear t9 o9 S6 b9 b8 b7 o7 o8 tD tR rT
  go_at_call 12
  refine (same_yes r9.1 r9.2 tT9 tT.2 (by omega)).mono ?_
  rintro e w10 ⟨rfl, k10⟩
  have S10 := S9.below k10
  have tT10 := Kd.C_below tT9 k10
  replace rD := rD.below k10
  replace rR := rR.below k10
  clear S9 tT9 k10 r9
  simp only []
  go_wp2_with fail
  go_at_call 13
  refine (sorted_C hQ.sorted tT10 tT.2 (by omega)).mono ?_
  rintro e w11 ⟨rfl, k11⟩
  have S11 := S10.below k11
  replace rD := rD.below k11
  replace rR := rR.below k11
  clear S10 tT10 k11 tT
  simp only []
  go_wp2_with fail
  go_loopw [15] (fun i wr => ∃ k : Nat, i = .int .i64 (k : Int) ∧ k ≤ nD ∧ Below w11.heap.size w11 wr) (fun i _ => nD - (intOf i).toNat)
  case atStart => exact ⟨0, rfl, Nat.zero_le _, Below.refl _ _⟩
  case round =>
    obtain ⟨k, rfl, hk, hb⟩ := hrel
    have Sk := S11.below hb
    have rDk := rT_C (rD.below hb) hnD'.out
    have rRk := rR.below hb
    have hbs := hb.size
    by_cases hlt : k < nD
    · obtain ⟨ad, rfl, a0, a1, a2⟩ := at_T38 rDk.1 (k : Int) (by omega) (by omega)
      rw [Int.toNat_natCast] at a0 a1 a2
      have hkl : k < D.length := by rw [hnD'.out]; exact hlt
      have hg := hgone (rd_T38 D (k : Int)) (by rw [rd_at D k hkl]; exact List.getElem_mem hkl)
      generalize rd_T38 D (k : Int) = t at *
      obtain ⟨f0, f1, f2⟩ := t
      simp only at a0 a1 a2 hg
      have d1 : decide ((k : Int) < (nD : Int)) = true := decide_eq_true (by omega)
      have d2 : decide (now < f0) = false := decide_eq_false (by omega)
      have hk0 : (0 : Int) ≤ (k : Int) := by omega
      have hk1 : (k : Int) < (nD : Int) := by omega
      have hk2 : k < nD := hlt
      clear hgone hlate hrd' hDR' hsum
      go_wp2_with fail
      go_at_call 14
      refine (get_none hg.2 Sk).mono ?_
      rintro e w12 ⟨rfl, S12, k12⟩
      have b0 := cell_alloc (bel_cell k12 a0) (.cells #[.int .u64 0, .int .u64 0, .int .i64 0] 38)
      clear a0 a1 a2 hg
      simp only [tv, z38]
      have hb2 := (hb.trans (k12.mono hbs)).alloc (by have := k12.size; omega) (.cells #[.int .u64 0, .int .u64 0, .int .i64 0] 38)
      go_wp2_with fail
      generalize w12.alloc (.cells #[.int .u64 0, .int .u64 0, .int .i64 0] 38) = w13 at *
      go_wp2_with fail
      go_roundw
      case rel => exact ⟨k + 1, by simp, by omega, hb2⟩
      case measure => simp only [intOf]; omega
    · have hkN : k = nD := by omega
      subst hkN
      have d1 : decide ((k : Int) < (k : Int)) = false := decide_eq_false (by omega)
      clear rDk hgone
      go_wp2_with fail
      go_at_call 15
      cases R with
      | nil =>
        refine (min_as (t := z38) (c := false) rfl Sk).mono ?_
        rintro e w12 ⟨rfl, S12, k12⟩
        obtain rfl : 0 = nR := hnR'.out
        have S13 := S12.alloc (.cells #[.int .u64 0, .int .u64 0, .int .i64 0] 38)
        have y13 := World.alloc_heap_new w12 (.cells #[.int .u64 0, .int .u64 0, .int .i64 0] 38)
        have hoff := S12.off
        simp only [tv, z38]
        go_wp2_with fail
        generalize w12.alloc (.cells #[.int .u64 0, .int .u64 0, .int .i64 0] 38) = w13 at *
        generalize w12.heap.size = s12 at *
        refine wp_region_noPanic ?_
        refine wp_region_held_drew (S := fun _ => True) (by kernel_rfl) trivial (fun hHeld => ?_)
        refine wpAnyH_take (i := 0) (v := ?_) rfl (by kernel_rfl) (by kernel_rfl) (by kernel_rfl) (fun _ _ _ h => h) (Or.inl ⟨by rfl, fun w hSw => ?_⟩) (by assumption) ?_
        rotate_left
        · (go_simp; try with_reducible rfl)
        try simp only [List.getElem_toArray, List.getElem_cons_succ, List.getElem_cons_zero, Act.put, List.setIfInBounds_toArray, List.set_cons_zero, List.set_cons_succ]
        refine wpAnyH_take (i := 1) (v := ?_) rfl (by kernel_rfl) (by kernel_rfl) (by kernel_rfl) (fun _ _ _ h => h) (Or.inl ⟨by rfl, fun w hSw => ?_⟩) (by assumption) ?_
        rotate_left
        · (go_simp; try with_reducible rfl)
        try simp only [List.getElem_toArray, List.getElem_cons_succ, List.getElem_cons_zero, Act.put, List.setIfInBounds_toArray, List.set_cons_zero, List.set_cons_succ]
        refine wpAnyH_take (i := 2) (v := ?_) rfl (by kernel_rfl) (by kernel_rfl) (by kernel_rfl) (fun _ _ _ h => h) (Or.inl ⟨by rfl, fun w hSw => ?_⟩) (by assumption) ?_
        rotate_left
        · (go_simp; try with_reducible rfl)
        try simp only [List.getElem_toArray, List.getElem_cons_succ, List.getElem_cons_zero, Act.put, List.setIfInBounds_toArray, List.set_cons_zero, List.set_cons_succ]
        refine wpAnyH_take (i := 3) (v := ?_) rfl (by kernel_rfl) (by kernel_rfl) (by kernel_rfl) (fun _ _ _ h => h) (Or.inl ⟨by rfl, fun w hSw => ?_⟩) (by assumption) ?_
        rotate_left
        · (go_simp; try with_reducible rfl)
        try simp only [List.getElem_toArray, List.getElem_cons_succ, List.getElem_cons_zero, Act.put, List.setIfInBounds_toArray, List.set_cons_zero, List.set_cons_succ]
        refine wpAnyH_take (i := 4) (v := ?_) rfl (by kernel_rfl) (by kernel_rfl) (by kernel_rfl) (fun _ _ _ h => h) (Or.inl ⟨by rfl, fun w hSw => ?_⟩) (by assumption) ?_
        rotate_left
        · (go_simp; try with_reducible rfl)
        try simp only [List.getElem_toArray, List.getElem_cons_succ, List.getElem_cons_zero, Act.put, List.setIfInBounds_toArray, List.set_cons_zero, List.set_cons_succ]
        refine wpAnyH_take (i := 5) (v := ?_) rfl (by kernel_rfl) (by kernel_rfl) (by kernel_rfl) (fun _ _ _ h => h) (Or.inl ⟨by rfl, fun w hSw => ?_⟩) (by assumption) ?_
        rotate_left
        · (go_simp; try with_reducible rfl)
        try simp only [List.getElem_toArray, List.getElem_cons_succ, List.getElem_cons_zero, Act.put, List.setIfInBounds_toArray, List.set_cons_zero, List.set_cons_succ]
        refine wpAnyH_take (i := 6) (v := ?_) rfl (by kernel_rfl) (by kernel_rfl) (by kernel_rfl) (fun _ _ _ h => h) (Or.inl ⟨by rfl, fun w hSw => ?_⟩) (by assumption) ?_
        rotate_left
        · (go_simp; try with_reducible rfl)
        try simp only [List.getElem_toArray, List.getElem_cons_succ, List.getElem_cons_zero, Act.put, List.setIfInBounds_toArray, List.set_cons_zero, List.set_cons_succ]
        refine wpAnyH_take (i := 7) (v := ?_) rfl (by kernel_rfl) (by kernel_rfl) (by kernel_rfl) (fun _ _ _ h => h) (Or.inl ⟨by rfl, fun w hSw => ?_⟩) (by assumption) ?_
        rotate_left
        · (go_simp; try with_reducible rfl)
        try simp only [List.getElem_toArray, List.getElem_cons_succ, List.getElem_cons_zero, Act.put, List.setIfInBounds_toArray, List.set_cons_zero, List.set_cons_succ]
        refine wpAnyH_take (i := 8) (v := ?_) rfl (by kernel_rfl) (by kernel_rfl) (by kernel_rfl) (fun _ _ _ h => h) (Or.inl ⟨by rfl, fun w hSw => ?_⟩) (by assumption) ?_
        rotate_left
        · (go_simp; try with_reducible rfl)
        try simp only [List.getElem_toArray, List.getElem_cons_succ, List.getElem_cons_zero, Act.put, List.setIfInBounds_toArray, List.set_cons_zero, List.set_cons_succ]
        refine wpAnyH_take (i := 9) (v := ?_) rfl (by kernel_rfl) (by kernel_rfl) (by kernel_rfl) (fun _ _ _ h => h) (Or.inl ⟨by rfl, fun w hSw => ?_⟩) (by assumption) ?_
        rotate_left
        · (go_simp; try with_reducible rfl)
        try simp only [List.getElem_toArray, List.getElem_cons_succ, List.getElem_cons_zero, Act.put, List.setIfInBounds_toArray, List.set_cons_zero, List.set_cons_succ]
        refine wpAnyH_take (i := 10) (v := ?_) rfl (by kernel_rfl) (by kernel_rfl) (by kernel_rfl) (fun _ _ _ h => h) (Or.inl ⟨by rfl, fun w hSw => ?_⟩) (by assumption) ?_
        rotate_left
        · (go_simp; try with_reducible rfl)
        try simp only [List.getElem_toArray, List.getElem_cons_succ, List.getElem_cons_zero, Act.put, List.setIfInBounds_toArray, List.set_cons_zero, List.set_cons_succ]
        refine wpAnyH_take (i := 11) (v := ?_) rfl (by kernel_rfl) (by kernel_rfl) (by kernel_rfl) (fun _ _ _ h => h) (Or.inl ⟨by rfl, fun w hSw => ?_⟩) (by assumption) ?_
        rotate_left
        · (go_simp; try with_reducible rfl)
        try simp only [List.getElem_toArray, List.getElem_cons_succ, List.getElem_cons_zero, Act.put, List.setIfInBounds_toArray, List.set_cons_zero, List.set_cons_succ]
        refine wpAnyH_take (i := 12) (v := undef) rfl (by kernel_rfl) (by kernel_rfl) (by kernel_rfl) (fun _ _ _ h => h) (Or.inr ⟨by rfl, rfl⟩) (by assumption) ?_
        try simp only [List.getElem_toArray, List.getElem_cons_succ, List.getElem_cons_zero, Act.put, List.setIfInBounds_toArray, List.set_cons_zero, List.set_cons_succ]
        refine wpAnyH_take (i := 13) (v := undef) rfl (by kernel_rfl) (by kernel_rfl) (by kernel_rfl) (fun _ _ _ h => h) (Or.inr ⟨by rfl, rfl⟩) (by assumption) ?_
        try simp only [List.getElem_toArray, List.getElem_cons_succ, List.getElem_cons_zero, Act.put, List.setIfInBounds_toArray, List.set_cons_zero, List.set_cons_succ]
        refine wpAnyH_take (i := 14) (v := undef) rfl (by kernel_rfl) (by kernel_rfl) (by kernel_rfl) (fun _ _ _ h => h) (Or.inr ⟨by rfl, rfl⟩) (by assumption) ?_
        try simp only [List.getElem_toArray, List.getElem_cons_succ, List.getElem_cons_zero, Act.put, List.setIfInBounds_toArray, List.set_cons_zero, List.set_cons_succ]
        refine wpAnyH_take (i := 15) (v := undef) rfl (by kernel_rfl) (by kernel_rfl) (by kernel_rfl) (fun _ _ _ h => h) (Or.inr ⟨by rfl, rfl⟩) (by assumption) ?_
        try simp only [List.getElem_toArray, List.getElem_cons_succ, List.getElem_cons_zero, Act.put, List.setIfInBounds_toArray, List.set_cons_zero, List.set_cons_succ]
        refine wpAnyH_take (i := 16) (v := undef) rfl (by kernel_rfl) (by kernel_rfl) (by kernel_rfl) (fun _ _ _ h => h) (Or.inr ⟨by rfl, rfl⟩) (by assumption) ?_
        try simp only [List.getElem_toArray, List.getElem_cons_succ, List.getElem_cons_zero, Act.put, List.setIfInBounds_toArray, List.set_cons_zero, List.set_cons_succ]
        refine wpAnyH_take (i := 17) (v := undef) rfl (by kernel_rfl) (by kernel_rfl) (by kernel_rfl) (fun _ _ _ h => h) (Or.inr ⟨by rfl, rfl⟩) (by assumption) ?_
        try simp only [List.getElem_toArray, List.getElem_cons_succ, List.getElem_cons_zero, Act.put, List.setIfInBounds_toArray, List.set_cons_zero, List.set_cons_succ]
        refine wpAnyH_take (i := 18) (v := undef) rfl (by kernel_rfl) (by kernel_rfl) (by kernel_rfl) (fun _ _ _ h => h) (Or.inr ⟨by rfl, rfl⟩) (by assumption) ?_
        try simp only [List.getElem_toArray, List.getElem_cons_succ, List.getElem_cons_zero, Act.put, List.setIfInBounds_toArray, List.set_cons_zero, List.set_cons_succ]
        refine wpAnyH_take (i := 19) (v := undef) rfl (by kernel_rfl) (by kernel_rfl) (by kernel_rfl) (fun _ _ _ h => h) (Or.inr ⟨by rfl, rfl⟩) (by assumption) ?_
        try simp only [List.getElem_toArray, List.getElem_cons_succ, List.getElem_cons_zero, Act.put, List.setIfInBounds_toArray, List.set_cons_zero, List.set_cons_succ]
        refine wpAnyH_take (i := 20) (v := undef) rfl (by kernel_rfl) (by kernel_rfl) (by kernel_rfl) (fun _ _ _ h => h) (Or.inr ⟨by rfl, rfl⟩) (by assumption) ?_
        try simp only [List.getElem_toArray, List.getElem_cons_succ, List.getElem_cons_zero, Act.put, List.setIfInBounds_toArray, List.set_cons_zero, List.set_cons_succ]
        refine wpAnyH_take (i := 21) (v := undef) rfl (by kernel_rfl) (by kernel_rfl) (by kernel_rfl) (fun _ _ _ h => h) (Or.inr ⟨by rfl, rfl⟩) (by assumption) ?_
        try simp only [List.getElem_toArray, List.getElem_cons_succ, List.getElem_cons_zero, Act.put, List.setIfInBounds_toArray, List.set_cons_zero, List.set_cons_succ]
        refine wpAnyH_take (i := 22) (v := undef) rfl (by kernel_rfl) (by kernel_rfl) (by kernel_rfl) (fun _ _ _ h => h) (Or.inr ⟨by rfl, rfl⟩) (by assumption) ?_
        try simp only [List.getElem_toArray, List.getElem_cons_succ, List.getElem_cons_zero, Act.put, List.setIfInBounds_toArray, List.set_cons_zero, List.set_cons_succ]
        refine wpAnyH_take (i := 23) (v := ?_) rfl (by kernel_rfl) (by kernel_rfl) (by kernel_rfl) (fun _ _ _ h => h) (Or.inl ⟨by rfl, fun w hSw => ?_⟩) (by assumption) ?_
        rotate_left
        · (go_simp; try with_reducible rfl)
        try simp only [List.getElem_toArray, List.getElem_cons_succ, List.getElem_cons_zero, Act.put, List.setIfInBounds_toArray, List.set_cons_zero, List.set_cons_succ]
        refine wpAnyH_take (i := 24) (v := ?_) rfl (by kernel_rfl) (by kernel_rfl) (by kernel_rfl) (fun _ _ _ h => h) (Or.inl ⟨by rfl, fun w hSw => ?_⟩) (by assumption) ?_
        rotate_left
        · (go_simp; try with_reducible rfl)
        try simp only [List.getElem_toArray, List.getElem_cons_succ, List.getElem_cons_zero, Act.put, List.setIfInBounds_toArray, List.set_cons_zero, List.set_cons_succ]
        refine wpAnyH_take (i := 25) (v := ?_) rfl (by kernel_rfl) (by kernel_rfl) (by kernel_rfl) (fun _ _ _ h => h) (Or.inl ⟨by rfl, fun w hSw => ?_⟩) (by assumption) ?_
        rotate_left
        · (go_simp; try with_reducible rfl)
        try simp only [List.getElem_toArray, List.getElem_cons_succ, List.getElem_cons_zero, Act.put, List.setIfInBounds_toArray, List.set_cons_zero, List.set_cons_succ]
        refine wpAnyH_take (i := 26) (v := ?_) rfl (by kernel_rfl) (by kernel_rfl) (by kernel_rfl) (fun _ _ _ h => h) (Or.inl ⟨by rfl, fun w hSw => ?_⟩) (by assumption) ?_
        rotate_left
        · (go_simp; try with_reducible rfl)
        try simp only [List.getElem_toArray, List.getElem_cons_succ, List.getElem_cons_zero, Act.put, List.setIfInBounds_toArray, List.set_cons_zero, List.set_cons_succ]
        refine wpAnyH_take (i := 27) (v := ?_) rfl (by kernel_rfl) (by kernel_rfl) (by kernel_rfl) (fun _ _ _ h => h) (Or.inl ⟨by rfl, fun w hSw => ?_⟩) (by assumption) ?_
        rotate_left
        · (go_simp; try with_reducible rfl)
        try simp only [List.getElem_toArray, List.getElem_cons_succ, List.getElem_cons_zero, Act.put, List.setIfInBounds_toArray, List.set_cons_zero, List.set_cons_succ]
        refine wpAnyH_ready (rs := [28]) (by kernel_rfl) (by simp) ?_
        refine AllReadyH.cons rfl (fun K hK => ?step) AllReadyH.nil
        case step =>
          go_simp
          go_at_call 11
          refine (due_lit (D := []) (R := []) (n := 0) rfl rfl S13.drew rfl).mono ?_
          rintro e w14 ⟨A5, c5, rfl, r5, l5, S14, k14⟩
          simp only []
          refine hK.out _ _ trivial (fun hHeld2 => ?_)
          clear hHeld
          try simp only [List.getElem_toArray, List.getElem_cons_succ, List.getElem_cons_zero, Act.put, List.setIfInBounds_toArray, List.set_cons_zero, List.set_cons_succ]
          refine wpAnyH_take (i := 29) (v := ?_) rfl (by kernel_rfl) (by kernel_rfl) (by kernel_rfl) (fun _ _ _ h => h) (Or.inl ⟨by rfl, fun w hSw => ?_⟩) (by assumption) ?_
          rotate_left
          · (go_simp; try with_reducible rfl)
          try simp only [List.getElem_toArray, List.getElem_cons_succ, List.getElem_cons_zero, Act.put, List.setIfInBounds_toArray, List.set_cons_zero, List.set_cons_succ]
          refine wpAnyH_take (i := 30) (v := ?_) rfl (by kernel_rfl) (by kernel_rfl) (by kernel_rfl) (fun _ _ _ h => h) (Or.inl ⟨by rfl, fun w hSw => ?_⟩) (by assumption) ?_
          rotate_left
          · (go_simp; try with_reducible rfl)
          try simp only [List.getElem_toArray, List.getElem_cons_succ, List.getElem_cons_zero, Act.put, List.setIfInBounds_toArray, List.set_cons_zero, List.set_cons_succ]
          refine wpAnyH_take (i := 31) (v := ?_) rfl (by kernel_rfl) (by kernel_rfl) (by kernel_rfl) (fun _ _ _ h => h) (Or.inl ⟨by rfl, fun w hSw => ?_⟩) (by assumption) ?_
          rotate_left
          · (go_simp; try with_reducible rfl)
          try simp only [List.getElem_toArray, List.getElem_cons_succ, List.getElem_cons_zero, Act.put, List.setIfInBounds_toArray, List.set_cons_zero, List.set_cons_succ]
          refine wpAnyH_take (i := 32) (v := ?_) rfl (by kernel_rfl) (by kernel_rfl) (by kernel_rfl) (fun _ _ _ h => h) (Or.inl ⟨by rfl, fun w hSw => ?_⟩) (by assumption) ?_
          rotate_left
          · (go_simp; try with_reducible rfl)
          try simp only [List.getElem_toArray, List.getElem_cons_succ, List.getElem_cons_zero, Act.put, List.setIfInBounds_toArray, List.set_cons_zero, List.set_cons_succ]
          refine wpAnyH_done (by kernel_rfl) ?_ _
          refine NoPanic.normal ?_
          go_wp2_with fail
          go_ret
          exact ⟨rfl, S14.bel⟩
      | cons x R' =>
        have hx := hlate x List.mem_cons_self
        obtain ⟨x0, x1, x2⟩ := x
        simp only at hx
        refine (min_as (t := ⟨x0, x1, x2⟩) (c := true) rfl Sk).mono ?_
        rintro e w12 ⟨rfl, S12, k12⟩
        have hn1 : decide ((0 : Int) < (nR : Int)) = true := decide_eq_true (by have := hnR'.out; simp only [List.length_cons] at this; omega)
        have hn2 : (0 : Int) < (nR : Int) := of_decide_eq_true hn1
        have hn3 : 0 < nR := by omega
        have hx1 : decide (now < x0) = true := decide_eq_true hx
        have rR12 := (rRk.below k12).alloc (.cells #[.int .u64 x0, .int .u64 x1, .int .i64 x2] 38)
        have S13 := S12.alloc (.cells #[.int .u64 x0, .int .u64 x1, .int .i64 x2] 38)
        have y13 := World.alloc_heap_new w12 (.cells #[.int .u64 x0, .int .u64 x1, .int .i64 x2] 38)
        have hoff := S12.off
        simp only [tv]
        go_wp2_with fail
        generalize w12.alloc (.cells #[.int .u64 x0, .int .u64 x1, .int .i64 x2] 38) = w13 at *
        generalize w12.heap.size = s12 at *
        obtain ⟨⟨y0, y1⟩, y2⟩ := cell_of3 y13
        obtain ⟨ad, rfl, g0, g1, g2⟩ := at_T38 (rT_C rR12 hnR'.out).1 0 (by omega) (by omega)
        have e0 : rd_T38 ((⟨x0, x1, x2⟩ : S38) :: R') 0 = ⟨x0, x1, x2⟩ := rfl
        rw [e0] at g0 g1 g2
        simp only [Int.toNat_zero, Nat.zero_mul, Addr.add_zero'] at g0 g1 g2
        clear S12 k12 Sk rRk hb hbs
        go_region_held3 (fun w' => ((w'.cell? ⟨s12, 0, none⟩ = some (.int .u64 x0) ∧ w'.cell? ⟨s12, 1, none⟩ = some (.int .u64 x1)) ∧ w'.cell? ⟨s12, 2, none⟩ = some (.int .i64 x2)) ∧ w'.cell? ad = some (.int .u64 x0) ∧ w'.cell? ⟨ad.block, ad.off + 1, none⟩ = some (.int .u64 x1) ∧ w'.cell? ⟨ad.block, ad.off + 2, none⟩ = some (.int .i64 x2)) (go_keep) ((go_at_call 11; refine (due_lit (D := []) (n := 0) hrd'.out rfl S13.drew rfl).mono ?_; rintro e w14 ⟨A5, c5, rfl, r5, l5, S14, k14⟩; have y14 := fr_blk k14 (blk_drew y13) hoff; obtain ⟨⟨y3, y4⟩, y5⟩ := cell_of3 y14; obtain ⟨ad2, e2, v0, v1, v2⟩ := at_T38 (rT_C (RT.fr (Kd.V_drew rR12) k14 hF5.1 hF5.2.1 hF5.2.2.2) hnR'.out).1 0 (by omega) (by omega); obtain rfl : ad = ad2 := Option.some.inj e2; rw [e0] at v0 v1 v2; simp only [Int.toNat_zero, Nat.zero_mul, Addr.add_zero'] at v0 v1 v2))
        go_wp2_with fail
        go_ret
        exact ⟨rfl, S14.bel⟩
end Go.Proofs.Ytokhbiaaaflphaa.ListDues
