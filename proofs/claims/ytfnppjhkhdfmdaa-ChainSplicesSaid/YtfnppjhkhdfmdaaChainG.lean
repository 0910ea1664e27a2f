/-
  Chains in memory: Splice.
  No condition.
-/
import Derived.Test.YtfnppjhkhdfmdaaChainF
namespace Go.Proofs.Ytfnppjhkhdfmdaa.ChainG
open Go.RowKit Go.Shelf Go.Proofs.Ytfnppjhkhdfmdaa.ChainA Go.Proofs.Ytfnppjhkhdfmdaa.ChainR Go.Proofs.Ytfnppjhkhdfmdaa.ChainS Go.Proofs.Ytfnppjhkhdfmdaa.ChainM Go.Proofs.Ytfnppjhkhdfmdaa.ChainN Go.Proofs.Ytfnppjhkhdfmdaa.ChainE Go.Proofs.Ytfnppjhkhdfmdaa.ChainF Go.Proofs.Ytfnppjhkhdfmdaa.GChainPlays Go.Proofs.YtfnppjhkhdfmdaaW.PrintWords Go.Proofs.YtfnppjhkhdfmdaaW.PrintLast Go.Proofs.YtfnppjhkhdfmdaaW.PrintMore
set_option linter.unusedVariables false
set_option linter.unusedSimpArgs false
theorem chn_rep {w : World} {g b p : Nat} {L : List (List Nat)} (h : Chn w g b p L) : ∃ ns, Rep p L ns := by
  obtain ⟨ns, _, h2⟩ := h; exact ⟨ns, h2⟩
theorem chn_c0 {w : World} {g b p : Nat} {L : List (List Nat)} (h : Chn w g b p L) : w.cell? ⟨g, 0, none⟩ = some (.int .i64 (p : Int)) := by
  obtain ⟨ns, h1, _⟩ := h; exact h1.c0
theorem mDrop_head {p : Nat} {L : List (List Nat)} {ns : List S62} (h : Rep p L ns) {j x : Nat} {r : List Nat} (hl : L[j]? = some (x :: r)) : mDrop p L (x : Int) = (L.set j r, 0) := by
  have hm : x ∈ x :: r := List.mem_cons_self
  have hx := (h.mem j _ x hl hm).1
  have hw := wh_at h hl hm
  unfold mDrop
  rw [if_pos (by omega)]
  simp only [Int.toNat_natCast]
  rw [if_neg (by omega), hw, Int.toNat_natCast, getD_of hl]
  simp
theorem out_of {p : Nat} {L : List (List Nat)} {ns : List S62} (h : Rep p L ns) {j x : Nat} {r : List Nat} (hl : L[j]? = some (x :: r)) : wh (L.set j r) x < 0 := by
  by_cases hw : wh (L.set j r) x < 0
  · exact hw
  · exfalso
    obtain ⟨i, hi⟩ : ∃ i : Nat, wh (L.set j r) x = i := ⟨(wh (L.set j r) x).toNat, by omega⟩
    obtain ⟨l, hl2, hm⟩ := wh_mem _ x i hi
    rcases set_at hl hl2 with ⟨rfl, rfl⟩ | ⟨hne, h3⟩
    · exact (List.nodup_cons.1 (h.nodup i _ hl)).1 hm
    · have h4 := (h.mem i l x h3 hm).2
      have h5 := (h.mem j _ x hl List.mem_cons_self).2
      omega
theorem set_same {L : List (List Nat)} {j : Nat} {l : List Nat} (h : L[j]? = some l) : L.set j l = L := by
  apply List.ext_getElem?
  intro i
  rw [List.getElem?_set]
  by_cases e : j = i
  · subst e; rw [if_pos rfl, if_pos (lt_len h), h]
  · rw [if_neg e]
/-- Behind k rounds of a splice. -/
def Lk (L : List (List Nat)) (t f : Nat) (k : Nat) : List (List Nat) := (L.set t (L.getD t [] ++ (L.getD f []).take k)).set f ((L.getD f []).drop k)
theorem Lk_len (L : List (List Nat)) (t f k : Nat) : (Lk L t f k).length = L.length := by simp [Lk]
theorem Lk_0 (L : List (List Nat)) (t f : Nat) (ht : t < L.length) (hf : f < L.length) : Lk L t f 0 = L := by
  unfold Lk
  rw [List.take_zero, List.append_nil, List.drop_zero, set_same (getD_at ht), set_same (getD_at hf)]
theorem Lk_f (L : List (List Nat)) (t f k : Nat) (hf : f < L.length) : (Lk L t f k)[f]? = some ((L.getD f []).drop k) := by
  unfold Lk; rw [List.getElem?_set_self (by simpa using hf)]
theorem Lk_t (L : List (List Nat)) (t f k : Nat) (ht : t < L.length) (hne : t ≠ f) : (Lk L t f k)[t]? = some (L.getD t [] ++ (L.getD f []).take k) := by
  unfold Lk; rw [List.getElem?_set_ne (fun e => hne e.symm), List.getElem?_set_self ht]
theorem getD_lt (l : List Nat) (k : Nat) (h : k < l.length) : l.getD k 0 = l[k] := by
  rw [List.getD_eq_getElem?_getD, List.getElem?_eq_getElem h]; rfl
theorem Lk_step (L : List (List Nat)) (t f k : Nat) (ht : t < L.length) (hf : f < L.length) (hne : t ≠ f) (hk : k < (L.getD f []).length) :
    ((Lk L t f k).set f ((L.getD f []).drop (k + 1))).set t (((Lk L t f k).set f ((L.getD f []).drop (k + 1))).getD t [] ++ [(L.getD f []).getD k 0]) = Lk L t f (k + 1) := by
  have h1 : ((Lk L t f k).set f ((L.getD f []).drop (k + 1)))[t]? = some (L.getD t [] ++ (L.getD f []).take k) := by
    rw [List.getElem?_set_ne (fun e => hne e.symm)]; exact Lk_t L t f k ht hne
  rw [getD_of h1]
  unfold Lk
  rw [List.set_set, List.set_comm _ _ (fun e => hne e.symm), List.set_set]
  congr 2
  rw [List.append_assoc, List.take_succ_eq_append_getElem hk, getD_lt _ _ hk]
theorem Lk_end (L : List (List Nat)) (t f : Nat) : Lk L t f (L.getD f []).length = (L.set t (L.getD t [] ++ L.getD f [])).set f [] := by
  unfold Lk
  rw [List.take_length, List.drop_length]
theorem put_end (g b p x t : Nat) (L : List (List Nat)) (w : World) (h : Chn w g b p L) (hx : x < p) (ht : t < L.length) (hf : wh L x < 0) :
    Calls Try.prog 36 #[.pointer (some ⟨g, 0, none⟩), .int .i64 (x : Int), .int .i64 ((p : Int) + (t : Int)), .int .i64 (t : Int)] w fun e w' => e = .returned undef ∧ Chn w' g b p (L.set t (L.getD t [] ++ [x])) ∧ Wr b w w' := by
  obtain ⟨ns, hC, hR⟩ := h
  have hl := getD_at ht
  have hr := wh_range L x
  have hi := wh_is hR hx
  have hin : inn ns x = -1 := by omega
  have hlen := hR.len
  have hq : lst (p + t) (L.getD t []) < ns.length := by
    rcases List.mem_cons.1 (lst_mem (L.getD t []) (p + t)) with e | e
    · omega
    · have := (hR.mem t _ _ hl e).1; omega
  rw [show ((p : Int) + (t : Int)) = ((p + t : Nat) : Int) by omega]
  refine (put_calls g b p L.length ns x (p + t) _ t w (by omega) (by omega) hq (seg_last _ _ _ (hR.seg t _ hl)).1 hC).mono ?_
  rintro e w' ⟨rfl, h1, h2⟩
  refine ⟨rfl, ⟨_, by rw [List.length_set]; exact h1, ?_⟩, h2⟩
  exact rep_put hR t x (L.getD t []) [] (by rw [List.append_nil]; exact hl) hx hin
/-- A row of one's own, read. -/
theorem own_read {W : World} {base : Nat} {v : Value} {xs : List Int} (h : W.ownsRow base 3 1 v xs.length (xs.map (Value.int .i64))) :
    ∃ A cap, v = .slice A xs.length cap ∧ ∀ k, k < xs.length → ∃ gg, A = some ⟨gg, 0, none⟩ ∧ base ≤ gg ∧ gg < W.heap.size ∧ W.cell? ⟨gg, k, none⟩ = some (.int .i64 (xs.getD k 0)) := by
  rcases h.2 with ⟨rfl, h0⟩ | ⟨gg, cap, cur, rfl, hg, hgb, h1, h2, h3, h4⟩
  · exact ⟨none, 0, by rw [h0], fun k hk => by omega⟩
  · refine ⟨_, _, rfl, fun k hk => ⟨gg, rfl, hg, blk_lt hgb, ?_⟩⟩
    rw [blk_cell hgb k]
    have : cur.toList[k]? = some (.int .i64 (xs.getD k 0)) := by
      have h5 : (cur.toList.take (xs.length * 1))[k]? = cur.toList[k]? := by rw [List.getElem?_take, if_pos (by omega)]
      rw [← h5, h4, List.getElem?_map, List.getElem?_eq_getElem hk, List.getD_eq_getElem?_getD, List.getElem?_eq_getElem hk]; rfl
    simpa using this
theorem toI_getD (l : List Nat) (k : Nat) (hk : k < l.length) : (toI l).getD k 0 = (l.getD k 0 : Nat) := by
  simp [toI, List.getD_eq_getElem?_getD, List.getElem?_eq_getElem hk]
set_option maxRecDepth 100000 in
set_option maxHeartbeats 4000000 in
theorem spl_arg (g b p : Nat) (t f : Int) (L : List (List Nat)) (w : World) (h : Chn w g b p L) (hn : ¬ (0 ≤ t ∧ t < L.length) ∨ ¬ (0 ≤ f ∧ f < L.length)) :
    Calls Try.prog 21 #[.pointer (some ⟨g, 0, none⟩), .int .i64 t, .int .i64 f] w fun e w' => e = .returned (.int .i64 1) ∧ w' = w := by
  obtain ⟨ns, hC, hR⟩ := h
  by_cases hj : 0 ≤ t ∧ t < L.length
  · have hx : ¬ (0 ≤ f ∧ f < L.length) := hn.resolve_left (fun q => q hj)
    go_enter Try.func21, Try.ntmps21
    go_wp2_with (first | (go_at_call 35; with_reducible refine (list_yes g b p L.length t ns _ hC hj.1 hj.2).mono ?_; rintro e w1 ⟨rfl, rfl⟩) | (go_at_call 35; with_reducible refine (list_no g b p L.length f ns _ hC hx).mono ?_; rintro e w2 ⟨rfl, rfl⟩))
    go_ret
    exact ⟨rfl, rfl⟩
  · go_enter Try.func21, Try.ntmps21
    go_wp2_with (go_at_call 35; with_reducible refine (list_no g b p L.length t ns _ hC hj).mono ?_; rintro e w1 ⟨rfl, rfl⟩)
    go_ret
    exact ⟨rfl, rfl⟩
set_option maxRecDepth 100000 in
set_option maxHeartbeats 4000000 in
theorem spl_same (g b p : Nat) (t : Int) (L : List (List Nat)) (w : World) (h : Chn w g b p L) (hj : 0 ≤ t ∧ t < L.length) :
    Calls Try.prog 21 #[.pointer (some ⟨g, 0, none⟩), .int .i64 t, .int .i64 t] w fun e w' => e = .returned (.int .i64 0) ∧ w' = w := by
  obtain ⟨ns, hC, hR⟩ := h
  go_enter Try.func21, Try.ntmps21
  go_wp2_with ((go_at_call 35; with_reducible refine (list_yes g b p L.length t ns _ hC hj.1 hj.2).mono ?_; rintro e w1 ⟨rfl, rfl⟩))
  go_ret
  exact ⟨rfl, rfl⟩
set_option maxRecDepth 100000 in
set_option maxHeartbeats 4000000 in
theorem spl_ok (g b p t f : Nat) (L : List (List Nat)) (w : World) (h : Chn w g b p L) (ht : t < L.length) (hf : f < L.length) (hne : t ≠ f) :
    Calls Try.prog 21 #[.pointer (some ⟨g, 0, none⟩), .int .i64 (t : Int), .int .i64 (f : Int)] w fun e w' => e = .returned (.int .i64 0) ∧ Chn w' g b p ((L.set t (L.getD t [] ++ L.getD f [])).set f []) ∧ Wr b w w' := by
  have h0 := h
  obtain ⟨ns, hC, hR⟩ := h
  have hb : ((t : Int) == (f : Int)) = false := beq_eq_false_iff_ne.mpr (by omega)
  go_enter Try.func21, Try.ntmps21
  go_wp2_with (first | (go_at_call 35; with_reducible refine (list_yes g b p L.length t ns _ hC (by omega) (by omega)).mono ?_; rintro e w1 ⟨rfl, rfl⟩) | (go_at_call 35; with_reducible refine (list_yes g b p L.length f ns _ hC (by omega) (by omega)).mono ?_; rintro e w2 ⟨rfl, rfl⟩))
  refine (all_calls g b p f L _ h0).mono ?_
  rintro e w3 ⟨v, rfl, ho, hbl⟩
  obtain ⟨A, cap, rfl, hrd⟩ := own_read ho
  rw [toI_len, atL_nat] at hrd ⊢
  have hsm := chn_small h0
  have hlen := chn_len h0 f
  rw [atL_nat] at hlen
  have h3 := h0.below hbl
  have hbw := h0.blt
  have hbw3 := h3.blt
  obtain ⟨N, hN⟩ : ∃ N, N = (L.getD f []).length := ⟨_, rfl⟩
  rw [← hN] at hrd hlen ⊢
  have hN' := Lib.hid hN
  clear hN ho
  simp only []
  go_wp2_with fail
  go_loopw [26] (fun i wr => ∃ k : Nat, i = .int .i64 k ∧ k ≤ N ∧ Chn wr g b p (Lk L t f k) ∧ Wr b w3 wr) (fun i _ => N - (intOf i).toNat)
  case atStart => exact ⟨0, rfl, Nat.zero_le _, by rw [Lk_0 L t f ht hf]; exact h3, Wr.refl _ _⟩
  case round =>
    obtain ⟨k, rfl, hk, hCk, hWk⟩ := hrel
    by_cases hlt : k < N
    · obtain ⟨gg, rfl, hgg, hgl, hcell⟩ := hrd k hlt
      have hc0 : wr.cell? ⟨gg, k, none⟩ = some (.int .i64 ((L.getD f []).getD k 0 : Nat)) := by
        rw [toI_getD _ _ (by have := hN'.out; omega)] at hcell
        exact (World.cell?_of_block (hWk.2.2 gg hgl (by omega) (by simp))).trans hcell
      obtain ⟨x, hx⟩ : ∃ x, x = (L.getD f []).getD k 0 := ⟨_, rfl⟩
      rw [← hx] at hc0
      have hl := Lk_f L t f k hf
      have hdr : (L.getD f []).drop k = x :: (L.getD f []).drop (k + 1) := by
        have hk' : k < (L.getD f []).length := by have := hN'.out; omega
        rw [List.drop_eq_getElem_cons hk', hx, getD_lt _ _ hk']
      rw [hdr] at hl
      obtain ⟨ns1, hR1⟩ := chn_rep hCk
      have hxp := (hR1.mem f _ x hl List.mem_cons_self).1
      have hmd := mDrop_head hR1 hl
      have hout := out_of hR1 hl
      have hst := Lk_step L t f k ht hf hne (by have := hN'.out; omega)
      rw [← hx] at hst
      have hd := dr_calls (x : Int) hCk
      rw [hmd] at hd
      have hx' := Lib.hid hx
      have hdr' := Lib.hid hdr
      have hst' := Lib.hid hst
      have hmd' := Lib.hid hmd
      have hl' := Lib.hid hl
      clear hx hdr hst hmd hl hrd hcell
      go_wp2_with fail
      refine hd.mono ?_
      rintro e w4 ⟨rfl, h4, k4⟩
      have c0 := chn_c0 h4
      simp only []
      go_wp2_with fail
      refine (put_end g b p x t _ _ h4 hxp (by rw [List.length_set, Lk_len]; exact ht) hout).mono ?_
      rintro e w5 ⟨rfl, h5, k5⟩
      rw [hst'.out] at h5
      clear c0
      simp only []
      go_wp2_with fail
      go_roundw
      case rel => exact ⟨k + 1, by simp, by omega, h5, (hWk.trans k4).trans k5⟩
      case measure => simp [intOf]; omega
    · go_wp2_with fail
      go_ret
      obtain rfl : k = N := by omega
      refine ⟨rfl, ?_, ?_⟩
      · rw [hN'.out, Lk_end] at hCk; exact hCk
      · exact (Wr.of_below (by omega) hbl).trans hWk
theorem spl_calls (g b p : Nat) (t f : Int) (L : List (List Nat)) (w : World) (h : Chn w g b p L) :
    Calls Try.prog 21 #[.pointer (some ⟨g, 0, none⟩), .int .i64 t, .int .i64 f] w fun e w' => e = .returned (.int .i64 (mSpl L t f).2) ∧ Chn w' g b p (mSpl L t f).1 ∧ Wr b w w' := by
  unfold mSpl
  by_cases ha : (0 ≤ t ∧ t < L.length) ∧ (0 ≤ f ∧ f < L.length)
  · rw [if_pos ha]
    by_cases hne : t = f
    · subst hne
      rw [if_pos rfl]
      refine (spl_same g b p t L w h ha.1).mono ?_
      rintro e w' ⟨rfl, rfl⟩
      exact ⟨rfl, h, Wr.refl _ _⟩
    · rw [if_neg hne]
      obtain ⟨tn, rfl⟩ : ∃ n : Nat, t = n := ⟨t.toNat, by omega⟩
      obtain ⟨fn, rfl⟩ : ∃ n : Nat, f = n := ⟨f.toNat, by omega⟩
      exact spl_ok g b p tn fn L w h (by omega) (by omega) (by omega)
  · rw [if_neg ha]
    refine (spl_arg g b p t f L w h (by by_cases h1 : 0 ≤ t ∧ t < L.length; exact .inr (fun q => ha ⟨h1, q⟩); exact .inl h1)).mono ?_
    rintro e w' ⟨rfl, rfl⟩
    exact ⟨rfl, h, Wr.refl _ _⟩
end Go.Proofs.Ytfnppjhkhdfmdaa.ChainG
