/-
  Chains: the law ChainSplices, walked.
  No condition.
-/
import Derived.Test.YtfnppjhkhdfmdaaChainX
namespace Go.Proofs.Ytfnppjhkhdfmdaa.ChainSplices
open Go.RowKit Go.Proofs.Ytfnppjhkhdfmdaa.ChainA Go.Proofs.Ytfnppjhkhdfmdaa.ChainM Go.Proofs.Ytfnppjhkhdfmdaa.ChainN Go.Proofs.Ytfnppjhkhdfmdaa.ChainF Go.Proofs.Ytfnppjhkhdfmdaa.ChainG Go.Proofs.Ytfnppjhkhdfmdaa.ChainP Go.Proofs.Ytfnppjhkhdfmdaa.ChainQ Go.Proofs.Ytfnppjhkhdfmdaa.ChainT Go.Proofs.Ytfnppjhkhdfmdaa.ChainU Go.Proofs.Ytfnppjhkhdfmdaa.ChainV Go.Proofs.Ytfnppjhkhdfmdaa.ChainX Go.Proofs.Ytfnppjhkhdfmdaa.GChainPlays Go.Proofs.YtfnppjhkhdfmdaaW.PrintWords Go.Proofs.YtfnppjhkhdfmdaaW.PrintLast Go.Proofs.YtfnppjhkhdfmdaaW.PrintMore
set_option linter.unusedVariables false
set_option linter.unusedSimpArgs false
theorem row_of_R {w : World} {n : Nat} {Q : Nat → Prop} {v : Value} {l : List Nat} (h : Kd.R (Kd.int .i64) 3 w n Q v (toI l)) : Row w v l := row_of_V (n := n) (Kd.R_V h)
theorem row_C {w : World} {A : Option Addr} {n c : Nat} {l : List Nat} (h : Row w (.slice A n c) l) : Kd.C (Kd.int .i64) w A n (toI l) := by
  obtain ⟨A', c', e, h1, h2⟩ := h
  cases e; exact h2
theorem spl_facts (L : List (List Nat)) (t f : Int) : (∃ c : Int, (c = 1 ∨ (c = 0 ∧ t = f)) ∧ mSpl L t f = (L, c)) ∨ (t ≠ f ∧ ∃ L', mSpl L t f = (L', 0) ∧ atL L' t = atL L t ++ atL L f ∧ atL L' f = []) := by
  unfold mSpl
  by_cases h : (0 ≤ t ∧ t < L.length) ∧ (0 ≤ f ∧ f < L.length)
  · rw [if_pos h]
    by_cases e : t = f
    · rw [if_pos e]; exact .inl ⟨0, .inr ⟨rfl, e⟩, rfl⟩
    · rw [if_neg e]
      refine .inr ⟨e, _, rfl, ?_, ?_⟩
      · unfold atL
        rw [if_pos h.1.1, if_pos h.1.1, if_pos h.2.1]
        refine getD_of ?_
        rw [List.getElem?_set_ne (by omega), List.getElem?_set_self (by omega)]
      · unfold atL
        rw [if_pos h.2.1]
        refine getD_of ?_
        rw [List.getElem?_set_self (by rw [List.length_set]; omega)]
  · rw [if_neg h]; exact .inl ⟨1, .inl rfl, rfl⟩
set_option maxRecDepth 100000 in
set_option maxHeartbeats 4000000 in
theorem splices_calls (p l : Int) (A : Option Addr) (cap : Nat) (ls : List S33) (tt : Int) (ff : Int) (w : World) (hC : Kd.C k33 w A ls.length ls) (hmx : ls.length ≤ 140737488355328) :
    Calls Try.prog 7 #[.int .i64 p, .int .i64 l, .slice A ls.length cap, .int .i64 tt, .int .i64 ff] w fun e w' => e = .returned (.bool true) ∧ Below w.heap.size w w' := by
  have hu27 := Try.underlying27
  by_cases hlen : 40 < ls.length
  · have d0 : decide ((40 : Int) < (ls.length : Int)) = true := decide_eq_true (by omega)
    go_enter Try.func7, Try.ntmps7
    go_wp2_with fail
    refine (works_calls _).mono ?_
    rintro e w1 ⟨rfl, k1⟩
    simp only []
    go_wp2_with fail
    go_ret
    exact ⟨rfl, k1⟩
  have d0 : decide ((40 : Int) < (ls.length : Int)) = false := decide_eq_false (by omega)
  go_enter Try.func7, Try.ntmps7
  go_wp2_with fail
  refine (works_calls _).mono ?_
  rintro e w1 ⟨rfl, k1⟩
  simp only []
  go_wp2_with fail
  by_cases hbad : Bad p l
  · refine (made_no p l A cap ls _ hbad hmx).mono ?_
    rintro e w2 ⟨A0, c0, rfl, k2⟩
    simp only []
    go_wp2_with fail
    go_ret
    exact ⟨rfl, (k1.trans (k2.mono k1.size)).alloc (by have := k1.size; have := k2.size; omega) _⟩
  refine (made_yes p l A cap ls _ hbad (Kd.C_below hC k1) hmx).mono ?_
  rintro e w2 ⟨g, b, v, rfl, hc, hr, hg, hb, k2⟩
  obtain ⟨pn, rfl⟩ : ∃ n : Nat, p = n := ⟨p.toNat, by unfold Bad at hbad; omega⟩
  rw [Int.toNat_natCast] at hc hr
  obtain ⟨L, hL⟩ : ∃ L, L = mActs pn (List.replicate l.toNat []) ls := ⟨_, rfl⟩
  rw [← hL] at hc hr
  clear hL hC
  obtain ⟨A1, c1, rfl⟩ := hr.slice
  obtain ⟨N1, hN1⟩ : ∃ N, N = (LI L).length := ⟨_, rfl⟩
  rw [← hN1] at hr ⊢
  clear hN1
  have s2 := (WS.mk hc (Nat.le_trans k1.size hb) (k1.trans (k2.mono k1.size)) : WS w w2 g b pn L).alloc (.cells #[.int .i64 (pn : Int), .slice A1 N1 c1] 27)
  have hsm := chn_small hc
  have hlt := chn_len hc tt
  have hlf := chn_len hc ff
  clear hc hr hb hg k1
  simp only []
  go_wp2_with ((with_reducible refine gate_dst (N := 43) rfl ?_); refine Kd.R_lit (Kd.int .i64) _ 3 ?hg (N := 43) ?hd (xs := ([] : List Int)) (inner := []) (ok := fun _ => True) (okp := fun _ => True) ?hr ?hp (fun _ hk => hk) trivial (Below.refl _ _) (Nat.le_refl _) (by simp) ?_; (case hd => rfl); (case hg => rfl); (case hr => first | (go_simp; done) | (go_simp; rfl)); (case hp => exact (Reps.none _ _)); intro v3 w3 ho3 hb3 hg3 hnew3)
  clear hg3 hnew3
  generalize w2.alloc (.cells #[.int .i64 (pn : Int), .slice A1 N1 c1] 27) = W9 at *
  clear k2
  obtain ⟨la, hla⟩ : ∃ la, atL L tt = la := ⟨_, rfl⟩
  obtain ⟨lb, hlb⟩ : ∃ lb, atL L ff = lb := ⟨_, rfl⟩
  rw [hla] at hlt
  rw [hlb] at hlf
  have s3 := s2.below hb3
  refine (all_as hla s3.chn).mono ?_
  rintro e w4 ⟨r, rfl, hr4, k4⟩
  have ho4 := Kd.R_below ho3 k4
  have hb4 := hb3.trans (k4.mono hb3.size)
  obtain ⟨Ar, cr, rfl⟩ := hr4.slice
  have hc4 := row_C hr4
  have hla' := Lib.hid hla
  have hlb' := Lib.hid hlb
  clear s3 ho3 hb3 k4 hr4 hla hlb
  simp only []
  go_wp2_with ((with_reducible refine gate_builtin (b := .append) (xs := #[.tmp 43, .tmp 46]) rfl ?_); at_builtin; refine Kd.R_append_rows (Kd.int .i64) (w0 := W9) W9.heap.size rfl (.tmp 43) (.tmp 46) 36 3 (.int .i64 0) 8 rfl Try.underlying36 info3 rfl (by decide) (by omega) v3 [] (toI la) _ _ _ (fun _ => True) (fun _ => False) rfl rfl ?aO ?aR (fun _ _ h => h) (fun _ h => h.elim) ?aF ?aB ?aS ?aL ?_; (case aR => exact hc4); (case aB => exact hb4); (case aF => exact (fun _ _ => trivial)); (case aO => exact ho4); (case aS => exact (Below.size hb4)); (case aL => (simp only [List.length_append, List.length_nil, toI_len]; omega)); intro v5 w5 ho5 hb5 hg1 hat1; clear hg1 hat1)
  clear hc4 hb4 ho4
  have s5 := s2.below hb5
  refine (all_as hlb'.out s5.chn).mono ?_
  rintro e w6 ⟨r, rfl, hr6, k6⟩
  have ho6 := Kd.R_below ho5 k6
  have hb6 := hb5.trans (k6.mono hb5.size)
  obtain ⟨Ar2, cr2, rfl⟩ := hr6.slice
  have hc6 := row_C hr6
  clear s5 ho5 hb5 k6 hr6
  simp only []
  go_wp2_with ((with_reducible refine gate_builtin (b := .append) (xs := #[.tmp 47, .tmp 50]) rfl ?_); at_builtin; refine Kd.R_append_rows (Kd.int .i64) (w0 := W9) W9.heap.size rfl (.tmp 47) (.tmp 50) 36 3 (.int .i64 0) 8 rfl Try.underlying36 info3 rfl (by decide) (by omega) v5 ([] ++ toI la) (toI lb) _ _ _ (fun _ => True) (fun _ => False) rfl rfl ?aO ?aR (fun _ _ h => h) (fun _ h => h.elim) ?aF ?aB ?aS ?aL ?_; (case aR => exact hc6); (case aB => exact hb6); (case aF => exact (fun _ _ => trivial)); (case aO => exact ho6); (case aS => exact (Below.size hb6)); (case aL => (simp only [List.length_append, List.length_nil, toI_len]; omega)); intro v7 w7 ho7 hb7 hg1 hat1; clear hg1 hat1)
  clear hc6 hb6 ho6
  have s7 := s2.below hb7
  have ho7' : Kd.R (Kd.int .i64) 3 w7 W9.heap.size (fun _ => True) v7 (toI (la ++ lb)) := by rw [← toI_app]; exact ho7
  have hbW := s2.chn.blt
  clear ho7 hb7
  rcases spl_facts L tt ff with ⟨ev, hev, hsp⟩ | ⟨hne, L2, hsp, ha1, ha2⟩
  · have hsp' := Lib.hid hsp
    clear hsp
    rcases hev with rfl | ⟨rfl, rfl⟩
    · refine (spl_as hsp'.out s7.chn).mono ?_
      rintro e w8 ⟨rfl, h8, k8⟩
      have s8 := s7.wr h8 k8
      clear h8 k8
      simp only []
      go_wp2_with fail
      go_ret
      exact ⟨rfl, s8.bel⟩
    · refine (spl_as hsp'.out s7.chn).mono ?_
      rintro e w8 ⟨rfl, h8, k8⟩
      have s8 := s7.wr h8 k8
      clear h8 k8
      simp only []
      go_wp2_with fail
      go_ret
      exact ⟨rfl, s8.bel⟩
  · have hb0 : (tt == ff) = false := beq_eq_false_iff_ne.mpr hne
    rw [hla'.out, hlb'.out] at ha1
    have hsp' := Lib.hid hsp
    have ha1' := Lib.hid ha1
    have ha2' := Lib.hid ha2
    clear hsp ha1 ha2 hne
    refine (spl_as hsp'.out s7.chn).mono ?_
    rintro e w8 ⟨rfl, h8, k8⟩
    have s8 := s7.wr h8 k8
    have ho8 := Kd.R_keep (Kd.R_bound ho7') k8.2 (fun k hk => by have := hk.2.1; omega)
    clear h8 k8 ho7'
    obtain ⟨Av, cv, hv⟩ := Kd.R_slice ho8
    rw [toI_len] at hv
    subst hv
    have hv8 := row_of_R ho8
    obtain ⟨M, hM⟩ : ∃ M, M = (la ++ lb).length := ⟨_, rfl⟩
    rw [← hM] at hv8 ⊢
    clear hM ho8
    simp only []
    go_wp2_with fail
    refine (all_as ha1'.out s8.chn).mono ?_
    rintro e w9 ⟨r, rfl, hr9, k9⟩
    have s9 := s8.below k9
    have hv9 := hv8.below k9
    clear s8 k9 hv8
    simp only []
    go_wp2_with fail
    refine (same_as (by rw [List.length_append]; omega) hr9 hv9).mono ?_
    rintro e w10 ⟨rfl, k10⟩
    have s10 := s9.below k10
    clear s9 k10 hr9 hv9
    rw [show decide (la ++ lb = la ++ lb) = true from decide_eq_true rfl]
    simp only []
    go_wp2_with fail
    refine (all_as ha2'.out s10.chn).mono ?_
    rintro e w11 ⟨r, rfl, hr11, k11⟩
    have s11 := s10.below k11
    obtain ⟨Ar3, cr3, rfl⟩ := hr11.slice
    clear s10 k11 hr11
    simp only []
    go_wp2_with fail
    go_ret
    exact ⟨rfl, s11.bel⟩
end Go.Proofs.Ytfnppjhkhdfmdaa.ChainSplices
