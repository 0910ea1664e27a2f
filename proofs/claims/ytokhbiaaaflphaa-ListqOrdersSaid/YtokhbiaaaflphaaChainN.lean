/-
  Chains in memory: what each call answers and leaves, told of lists of places.
  No condition.
-/
import Derived.Test.YtokhbiaaaflphaaChainM
namespace Go.Proofs.Ytokhbiaaaflphaa.ChainN
open Go.RowKit Go.Proofs.Ytokhbiaaaflphaa.ChainA Go.Proofs.Ytokhbiaaaflphaa.ChainB Go.Proofs.Ytokhbiaaaflphaa.ChainC Go.Proofs.Ytokhbiaaaflphaa.ChainR Go.Proofs.Ytokhbiaaaflphaa.ChainS Go.Proofs.Ytokhbiaaaflphaa.ChainM Go.Proofs.Ytokhbiaaaflphaa.GListqPlays
set_option linter.unusedVariables false
variable {g b p : Nat} {L : List (List Nat)} {w : World}
theorem app_calls (x j : Int) (h : Chn w g b p L) :
    Calls Try.prog 35 #[.pointer (some ⟨g, 0, none⟩), .int .i64 j, .int .i64 x] w fun e w' => e = .returned (.int .i64 (mApp p L j x).2) ∧ Chn w' g b p (mApp p L j x).1 ∧ Wr b w w' := by
  have h0 := h
  obtain ⟨ns, hC, hR⟩ := h
  unfold mApp
  by_cases ha : (0 ≤ j ∧ j < L.length) ∧ (0 ≤ x ∧ x < p)
  · rw [if_pos ha]
    obtain ⟨jn, rfl⟩ : ∃ n : Nat, j = n := ⟨j.toNat, by omega⟩
    obtain ⟨xn, rfl⟩ : ∃ n : Nat, x = n := ⟨x.toNat, by omega⟩
    simp only [Int.toNat_natCast]
    have hx : xn < p := by omega
    have hj : jn < L.length := by omega
    have hi := wh_is hR hx
    have hr := wh_range L xn
    have hl := getD_at hj
    by_cases hw : wh L xn < 0
    · rw [if_pos hw]
      have hf : inn ns xn = -1 := by omega
      have hq : lst (p + jn) (L.getD jn []) < ns.length := by
        rw [hR.len]
        rcases List.mem_cons.1 (lst_mem (L.getD jn []) (p + jn)) with e | e
        · omega
        · have := (hR.mem jn _ _ hl e).1; omega
      refine (append_ok g b p L.length xn jn ns w hC hR.len hx hj hf _ hq (seg_last _ _ _ (hR.seg jn _ hl)).1).mono ?_
      rintro e w' ⟨rfl, h1, h2⟩
      refine ⟨rfl, ⟨_, by rw [List.length_set]; exact h1, ?_⟩, h2⟩
      exact rep_put hR jn xn (L.getD jn []) [] (by rw [List.append_nil]; exact hl) hx hf
    · rw [if_neg hw]
      refine (append_twice g b p L.length xn jn ns w hC hR.len hx hj (by show inn ns xn ≠ -1; omega)).mono ?_
      rintro e w' ⟨rfl, rfl⟩
      exact ⟨rfl, h0, Wr.refl _ _⟩
  · rw [if_neg ha]
    refine (append_arg g b p L.length x j ns w hC (by by_cases h1 : 0 ≤ j ∧ j < L.length; exact .inr (fun q => ha ⟨h1, q⟩); exact .inl h1)).mono ?_
    rintro e w' ⟨rfl, rfl⟩
    exact ⟨rfl, h0, Wr.refl _ _⟩
theorem ins_calls (x y : Int) (h : Chn w g b p L) :
    Calls Try.prog 36 #[.pointer (some ⟨g, 0, none⟩), .int .i64 x, .int .i64 y] w fun e w' => e = .returned (.int .i64 (mIns p L x y).2) ∧ Chn w' g b p (mIns p L x y).1 ∧ Wr b w w' := by
  have h0 := h
  obtain ⟨ns, hC, hR⟩ := h
  unfold mIns
  by_cases ha : (0 ≤ x ∧ x < p) ∧ (0 ≤ y ∧ y < p)
  · rw [if_pos ha]
    obtain ⟨xn, rfl⟩ : ∃ n : Nat, x = n := ⟨x.toNat, by omega⟩
    obtain ⟨yn, rfl⟩ : ∃ n : Nat, y = n := ⟨y.toNat, by omega⟩
    simp only [Int.toNat_natCast]
    have hx : xn < p := by omega
    have hy : yn < p := by omega
    have hi := wh_is hR hx
    have hi2 := wh_is hR hy
    have hr := wh_range L xn
    have hr2 := wh_range L yn
    by_cases hw : wh L xn < 0
    · rw [if_pos hw]
      have hf : inn ns xn = -1 := by omega
      by_cases hw2 : wh L yn < 0
      · rw [if_pos hw2]
        refine (insert_none g b p L.length xn yn ns w hC hR.len hx hy hf (by show inn ns yn = -1; omega)).mono ?_
        rintro e w' ⟨rfl, rfl⟩
        exact ⟨rfl, h0, Wr.refl _ _⟩
      · rw [if_neg hw2]
        obtain ⟨j, hj⟩ : ∃ j : Nat, wh L yn = j := ⟨(wh L yn).toNat, by omega⟩
        rw [hj] at hi2
        rw [hj, Int.toNat_natCast]
        obtain ⟨l, hl, hm⟩ := wh_mem L yn j hj
        rw [getD_of hl]
        have hil := List.idxOf_lt_length_of_mem hm
        have hbs := (beside hR hl hm).2
        have hnl : nxt (p + j) (l.drop (l.idxOf yn)) = yn := by
          rw [List.drop_eq_getElem_cons hil]; exact List.getElem_idxOf hil
        have hll := lst_take (p + j) l (l.idxOf yn) hil
        have hjl := lt_len hl
        have hq : lst (p + j) (l.take (l.idxOf yn)) < ns.length := by
          rw [hll, hR.len]
          by_cases h1 : 0 < l.idxOf yn
          · rw [if_pos h1]
            have := (hR.mem j l _ hl (getD_mem (i := l.idxOf yn - 1) (by omega))).1; omega
          · rw [if_neg h1]; omega
        refine (insert_ok g b p L.length xn yn j ns w hC hR.len hx hy hf hi2 _ hq (by rw [hll]; exact hbs)).mono ?_
        rintro e w' ⟨rfl, h1, h2⟩
        refine ⟨rfl, ⟨_, by rw [List.length_set]; exact h1, ?_⟩, h2⟩
        have := rep_put hR j xn (l.take (l.idxOf yn)) (l.drop (l.idxOf yn)) (by rw [List.take_append_drop]; exact hl) hx hf
        rw [hnl] at this
        exact this
    · rw [if_neg hw]
      refine (insert_twice g b p L.length xn yn ns w hC hR.len hx hy (by show inn ns xn ≠ -1; omega)).mono ?_
      rintro e w' ⟨rfl, rfl⟩
      exact ⟨rfl, h0, Wr.refl _ _⟩
  · rw [if_neg ha]
    refine (insert_arg g b p L.length x y ns w hC (by by_cases h1 : 0 ≤ x ∧ x < p; exact .inr (fun q => ha ⟨h1, q⟩); exact .inl h1)).mono ?_
    rintro e w' ⟨rfl, rfl⟩
    exact ⟨rfl, h0, Wr.refl _ _⟩
theorem dr_calls (x : Int) (h : Chn w g b p L) :
    Calls Try.prog 32 #[.pointer (some ⟨g, 0, none⟩), .int .i64 x] w fun e w' => e = .returned (.int .i64 (mDrop p L x).2) ∧ Chn w' g b p (mDrop p L x).1 ∧ Wr b w w' := by
  have h0 := h
  obtain ⟨ns, hC, hR⟩ := h
  unfold mDrop
  by_cases ha : 0 ≤ x ∧ x < p
  · rw [if_pos ha]
    obtain ⟨xn, rfl⟩ : ∃ n : Nat, x = n := ⟨x.toNat, by omega⟩
    simp only [Int.toNat_natCast]
    have hx : xn < p := by omega
    have hi := wh_is hR hx
    have hr := wh_range L xn
    by_cases hw : wh L xn < 0
    · rw [if_pos hw]
      refine (drop_none g b p L.length xn ns w hC hR.len hx (by show inn ns xn = -1; omega)).mono ?_
      rintro e w' ⟨rfl, hb⟩
      exact ⟨rfl, h0.below hb, Wr.of_below (by have := h0.blt; omega) hb⟩
    · rw [if_neg hw]
      obtain ⟨j, hj⟩ : ∃ j : Nat, wh L xn = j := ⟨(wh L xn).toNat, by omega⟩
      rw [hj] at hi
      rw [hj, Int.toNat_natCast]
      obtain ⟨l, hl, hm⟩ := wh_mem L xn j hj
      rw [getD_of hl]
      have hil := List.idxOf_lt_length_of_mem hm
      have hbs := beside hR hl hm
      have hll := lst_take (p + j) l (l.idxOf xn) hil
      have hnn := nxt_drop (p + j) l (l.idxOf xn)
      have hjl := lt_len hl
      have hq1 : lst (p + j) (l.take (l.idxOf xn)) < ns.length := by
        rw [hll, hR.len]
        by_cases h1 : 0 < l.idxOf xn
        · rw [if_pos h1]
          have := (hR.mem j l _ hl (getD_mem (i := l.idxOf xn - 1) (by omega))).1; omega
        · rw [if_neg h1]; omega
      have hq2 : nxt (p + j) (l.drop (l.idxOf xn + 1)) < ns.length := by
        rw [hnn, hR.len]
        by_cases h1 : l.idxOf xn + 1 < l.length
        · rw [if_pos h1]
          have := (hR.mem j l _ hl (getD_mem (i := l.idxOf xn + 1) h1)).1; omega
        · rw [if_neg h1]; omega
      refine (drop_ok g b p L.length xn ns w hC hR.len hx (by show inn ns xn ≠ -1; omega) _ _ (by rw [hll]; exact hbs.2) (by rw [hnn]; exact hbs.1) hq1 hq2).mono ?_
      rintro e w' ⟨rfl, h1, h2⟩
      refine ⟨rfl, ⟨_, by rw [List.length_set]; exact h1, ?_⟩, h2⟩
      exact rep_drop hR j xn (l.take (l.idxOf xn)) (l.drop (l.idxOf xn + 1)) (by rw [← split_at hm]; exact hl)
  · rw [if_neg ha]
    refine (drop_arg g b p L.length x ns w hC ha).mono ?_
    rintro e w' ⟨rfl, rfl⟩
    exact ⟨rfl, h0, Wr.refl _ _⟩
theorem which_calls (x : Int) (h : Chn w g b p L) :
    Calls Try.prog 44 #[.pointer (some ⟨g, 0, none⟩), .int .i64 x] w fun e w' => e = .returned (.tuple #[.int .i64 (mWhich p L x).1, .bool (mWhich p L x).2]) ∧ w' = w := by
  obtain ⟨ns, hC, hR⟩ := h
  unfold mWhich
  by_cases ha : (0 ≤ x ∧ x < p) ∧ 0 ≤ wh L x.toNat
  · rw [if_pos ha]
    obtain ⟨xn, rfl⟩ : ∃ n : Nat, x = n := ⟨x.toNat, by omega⟩
    simp only [Int.toNat_natCast] at ha ⊢
    have hx : xn < p := by omega
    have hi := wh_is hR hx
    rw [← hi]
    exact which_yes g b p L.length xn ns w hC hR.len hx (by show inn ns xn ≠ -1; omega)
  · rw [if_neg ha]
    refine which_none g b p L.length x ns w hC hR.len ?_
    by_cases h1 : 0 ≤ x ∧ x < p
    · have := wh_is hR (x := x.toNat) (by omega)
      have := wh_range L x.toNat
      exact .inr (by show inn ns x.toNat = -1; omega)
    · exact .inl h1
theorem prev_calls (x : Int) (h : Chn w g b p L) :
    Calls Try.prog 49 #[.pointer (some ⟨g, 0, none⟩), .int .i64 x] w fun e w' => e = .returned (.tuple #[.int .i64 (mBes p L x (-1)).1, .bool (mBes p L x (-1)).2]) ∧ w' = w := by
  obtain ⟨ns, hC, hR⟩ := h
  unfold mBes
  by_cases ha : (0 ≤ x ∧ x < p) ∧ 0 ≤ wh L x.toNat
  · rw [if_pos ha]
    obtain ⟨xn, rfl⟩ : ∃ n : Nat, x = n := ⟨x.toNat, by omega⟩
    simp only [Int.toNat_natCast] at ha ⊢
    have hx : xn < p := by omega
    have hi := wh_is hR hx
    obtain ⟨j, hj⟩ : ∃ j : Nat, wh L xn = j := ⟨(wh L xn).toNat, by omega⟩
    rw [hj] at hi
    rw [hj, Int.toNat_natCast]
    obtain ⟨l, hl, hm⟩ := wh_mem L xn j hj
    rw [getD_of hl]
    have hbs := (beside hR hl hm).2
    have hil := List.idxOf_lt_length_of_mem hm
    have hin : (nd ns xn).f1 ≠ -1 := by show inn ns xn ≠ -1; omega
    by_cases h1 : 0 < l.idxOf xn
    · rw [if_pos (by omega), show ((l.idxOf xn : Int) + -1).toNat = l.idxOf xn - 1 by omega]
      rw [if_pos h1] at hbs
      exact prev_yes g b p L.length xn ns w hC hR.len hx hin _ hbs (hR.mem j l _ hl (getD_mem (i := l.idxOf xn - 1) (by omega))).1
    · rw [if_neg (by omega)]
      rw [if_neg h1] at hbs
      exact prev_end g b p L.length xn ns w hC hR.len hx hin _ hbs (by omega)
  · rw [if_neg ha]
    refine prev_none g b p L.length x ns w hC hR.len ?_
    by_cases h1 : 0 ≤ x ∧ x < p
    · have := wh_is hR (x := x.toNat) (by omega)
      have := wh_range L x.toNat
      exact .inr (by show inn ns x.toNat = -1; omega)
    · exact .inl h1
theorem last_calls (j : Int) (h : Chn w g b p L) :
    Calls Try.prog 48 #[.pointer (some ⟨g, 0, none⟩), .int .i64 j] w fun e w' => e = .returned (.tuple #[.int .i64 (ltP (atL L j)).1, .bool (ltP (atL L j)).2]) ∧ ∃ n, w' = w.drewN n := by
  obtain ⟨ns, hC, hR⟩ := h
  by_cases ha : 0 ≤ j ∧ j < L.length
  · obtain ⟨jn, rfl⟩ : ∃ n : Nat, j = n := ⟨j.toNat, by omega⟩
    have hj : jn < L.length := by omega
    rw [atL_nat]
    have hl := getD_at hj
    have hs := (seg_last _ _ _ (hR.seg jn _ hl)).1
    cases hd : L.getD jn [] with
    | nil =>
      rw [hd] at hs
      exact last_end g b p L.length jn ns w hC hR.len hj _ hs (by simp only [lst]; omega)
    | cons x l =>
      rw [hd] at hs hl
      exact last_yes g b p L.length jn ns w hC hR.len hj _ hs (hR.mem jn _ _ hl (by
        have := lst_mem l x
        simpa [lst] using this)).1
  · rw [atL_no L j ha]
    exact last_none g b p L.length j ns w hC ha
theorem new_calls (p l : Int) (w : World) :
    Calls Try.prog 37 #[.int .i64 p, .int .i64 l] w fun e w' => ((p < 0 ∨ 1024 < p ∨ l < 0 ∨ 1024 < l) ∧ e = .returned (.tuple #[.pointer none, .int .i64 1]) ∧ w' = w) ∨
      (¬ (p < 0 ∨ 1024 < p ∨ l < 0 ∨ 1024 < l) ∧ ∃ g b : Nat, e = .returned (.tuple #[.pointer (some ⟨g, 0, none⟩), .int .i64 0]) ∧ Chn w' g b p.toNat (List.replicate l.toNat []) ∧ w.heap.size ≤ g ∧ w.heap.size ≤ b ∧ Below w.heap.size w w') := by
  by_cases hn : p < 0 ∨ 1024 < p ∨ l < 0 ∨ 1024 < l
  · exact (new_arg p l w hn).mono fun e w' h => .inl ⟨hn, h⟩
  · obtain ⟨pn, rfl⟩ : ∃ n : Nat, p = n := ⟨p.toNat, by omega⟩
    obtain ⟨ln, rfl⟩ : ∃ n : Nat, l = n := ⟨l.toNat, by omega⟩
    refine (new_ok pn ln w (by omega) (by omega)).mono ?_
    rintro e w' ⟨g, b, he, hc, h1, h2, h3⟩
    refine .inr ⟨hn, g, b, he, ⟨_, ?_, rep_fresh pn ln⟩, h1, h2, h3⟩
    rw [List.length_replicate]; exact hc
end Go.Proofs.Ytokhbiaaaflphaa.ChainN
