/-
  Chains: the law ChainOnce, walked.
  No condition.
-/
import Derived.Test.YtfnppjhkhdfmdaaChainX
namespace Go.Proofs.Ytfnppjhkhdfmdaa.ChainOnce
open Go.RowKit Go.Proofs.Ytfnppjhkhdfmdaa.ChainA Go.Proofs.Ytfnppjhkhdfmdaa.ChainM Go.Proofs.Ytfnppjhkhdfmdaa.ChainN Go.Proofs.Ytfnppjhkhdfmdaa.ChainF Go.Proofs.Ytfnppjhkhdfmdaa.ChainG Go.Proofs.Ytfnppjhkhdfmdaa.ChainP Go.Proofs.Ytfnppjhkhdfmdaa.ChainQ Go.Proofs.Ytfnppjhkhdfmdaa.ChainT Go.Proofs.Ytfnppjhkhdfmdaa.ChainU Go.Proofs.Ytfnppjhkhdfmdaa.ChainV Go.Proofs.Ytfnppjhkhdfmdaa.ChainX Go.Proofs.Ytfnppjhkhdfmdaa.GChainPlays Go.Proofs.YtfnppjhkhdfmdaaW.PrintWords Go.Proofs.YtfnppjhkhdfmdaaW.PrintLast Go.Proofs.YtfnppjhkhdfmdaaW.PrintMore
set_option linter.unusedVariables false
set_option linter.unusedSimpArgs false
theorem mDo_len (p : Nat) (L : List (List Nat)) (k x y : Int) : (mDo p L k x y).length = L.length := by
  unfold mDo mApp mIns mDrop mSpl
  repeat' split
  all_goals simp
theorem mActs_len (p : Nat) : ∀ (l : List S33) (L : List (List Nat)), (mActs p L l).length = L.length
  | [], _ => rfl
  | a :: l, L => by
    have := mActs_len p l (mDo p L a.f0 a.f1 a.f2)
    rw [mDo_len] at this
    exact this
/-- How many of the first k places are in a list. -/
def cnt (L : List (List Nat)) (k : Nat) : Nat := ((List.range k).filter fun i => decide (0 ≤ wh L i)).length
theorem cnt_0 (L : List (List Nat)) : cnt L 0 = 0 := rfl
theorem cnt_s (L : List (List Nat)) (k : Nat) : cnt L (k + 1) = cnt L k + if 0 ≤ wh L k then 1 else 0 := by
  unfold cnt
  rw [List.range_succ, List.filter_append, List.length_append]
  by_cases h : 0 ≤ wh L k
  · rw [if_pos h]; simp [h]
  · rw [if_neg h]; simp [h]
theorem cnt_le (L : List (List Nat)) (k : Nat) : cnt L k ≤ k := by
  unfold cnt
  exact Nat.le_trans (List.length_filter_le _ _) (by simp)
/-- How long the first k lists are together. -/
def lens (L : List (List Nat)) (k : Nat) : Nat := ((L.take k).map List.length).sum
theorem lens_s (L : List (List Nat)) (k : Nat) (h : k < L.length) : lens L (k + 1) = lens L k + (L.getD k []).length := by
  unfold lens
  rw [List.take_succ_eq_append_getElem h, List.map_append, List.sum_append_nat]
  have e : L.getD k [] = L[k] := by rw [List.getD_eq_getElem?_getD, List.getElem?_eq_getElem h]; rfl
  rw [e]; simp
/-- The lists hold just the places that are in one. -/
theorem once {p : Nat} {L : List (List Nat)} {ns : List S62} (h : ChainS.Rep p L ns) : lens L L.length = cnt L p := by
  unfold lens cnt
  rw [List.take_length, ← List.length_flatten]
  have hnf : L.flatten.Nodup := by
    unfold List.Nodup
    rw [List.pairwise_flatten]
    refine ⟨fun l hl => ?_, ?_⟩
    · obtain ⟨j, hj⟩ := mem_getD hl
      exact h.nodup j l hj
    · rw [List.pairwise_iff_getElem]
      intro i j hi hj hij x hx y hy e
      subst e
      have h1 := (h.mem i _ x (List.getElem?_eq_getElem hi) hx).2
      have h2 := (h.mem j _ x (List.getElem?_eq_getElem hj) hy).2
      omega
  have hnr : ((List.range p).filter fun i => decide (0 ≤ wh L i)).Nodup := List.Pairwise.filter _ List.nodup_range
  refine List.Perm.length_eq ((List.perm_ext_iff_of_nodup hnf hnr).2 fun x => ?_)
  rw [List.mem_flatten, List.mem_filter, List.mem_range, decide_eq_true_eq]
  constructor
  · rintro ⟨l, hl, hx⟩
    obtain ⟨j, hj⟩ := mem_getD hl
    exact ⟨(h.mem j l x hj hx).1, by rw [wh_at h hj hx]; omega⟩
  · rintro ⟨hx, hw⟩
    obtain ⟨l, hl, hm⟩ := wh_mem L x (wh L x).toNat (by omega)
    exact ⟨l, List.mem_of_getElem? hl, hm⟩
theorem index_as {w : World} {v : Value} {l : List Nat} {x : Nat} (hx : x ∈ l) (hlen : l.length ≤ 1000000) (h : Row w v l) : Calls Try.prog 18 #[v, .int .i64 (x : Int)] w fun e w' => e = .returned (.int .i64 (l.idxOf x : Nat)) ∧ Below w.heap.size w w' := by
  obtain ⟨A, c, rfl, h3, h4⟩ := h
  rw [← toI_len] at h3 h4
  have hs := index_f (toI l) (x : Int) 2000000 (by rw [toI_len]; exact hlen) (by rw [toI_len]; omega)
  rw [idx_le hx] at hs
  have hc := complineref06_Index.calls 2000000 A c (toI l) (x : Int) _ w h4 h3 hs
  rw [toI_len] at hc
  refine hc.mono ?_
  rintro e w' ⟨rfl, n, rfl⟩
  exact ⟨rfl, pw_below_drewN (Below.refl _ _) n⟩
set_option maxRecDepth 100000 in
set_option maxHeartbeats 4000000 in
theorem once_big (p l : Int) (A : Option Addr) (cap : Nat) (ls : List S33) (w : World) (hb : 40 < ls.length ∨ 40 < p ∨ 40 < l) :
    Calls Try.prog 5 #[.int .i64 p, .int .i64 l, .slice A ls.length cap] w fun e w' => e = .returned (.bool true) ∧ Below w.heap.size w w' := by
  by_cases h1 : 40 < ls.length
  · have d0 : decide ((40 : Int) < (ls.length : Int)) = true := decide_eq_true (by omega)
    go_enter Try.func5, Try.ntmps5
    go_wp2_with fail
    refine (works_calls _).mono ?_
    rintro e w1 ⟨rfl, k1⟩
    simp only []
    go_wp2_with fail
    go_ret
    exact ⟨rfl, k1⟩
  have d0 : decide ((40 : Int) < (ls.length : Int)) = false := decide_eq_false (by omega)
  by_cases h2 : 40 < p
  · have d1 : decide (40 < p) = true := decide_eq_true h2
    go_enter Try.func5, Try.ntmps5
    go_wp2_with fail
    refine (works_calls _).mono ?_
    rintro e w1 ⟨rfl, k1⟩
    simp only []
    go_wp2_with fail
    go_ret
    exact ⟨rfl, k1⟩
  have d1 : decide (40 < p) = false := decide_eq_false h2
  have d2 : decide (40 < l) = true := decide_eq_true (by omega)
  go_enter Try.func5, Try.ntmps5
  go_wp2_with fail
  refine (works_calls _).mono ?_
  rintro e w1 ⟨rfl, k1⟩
  simp only []
  go_wp2_with fail
  go_ret
  exact ⟨rfl, k1⟩
set_option maxRecDepth 100000 in
set_option maxHeartbeats 4000000 in
theorem once_calls (p l : Int) (A : Option Addr) (cap : Nat) (ls : List S33) (w : World) (hC : Kd.C k33 w A ls.length ls) (hmx : ls.length ≤ 140737488355328) :
    Calls Try.prog 5 #[.int .i64 p, .int .i64 l, .slice A ls.length cap] w fun e w' => e = .returned (.bool true) ∧ Below w.heap.size w w' := by
  have hu27 := Try.underlying27
  by_cases hlen : 40 < ls.length ∨ 40 < p ∨ 40 < l
  · exact once_big p l A cap ls w hlen
  have d0 : decide ((40 : Int) < (ls.length : Int)) = false := decide_eq_false (by omega)
  have d1 : decide (40 < p) = false := decide_eq_false (by omega)
  have d2 : decide (40 < l) = false := decide_eq_false (by omega)
  go_enter Try.func5, Try.ntmps5
  go_wp2_with fail
  refine (works_calls _).mono ?_
  rintro e w1 ⟨rfl, k1⟩
  simp only []
  go_wp2_with fail
  by_cases hbad : Bad p l
  · refine (made_no p l A cap ls _ hbad hmx).mono ?_
    rintro e w2 ⟨A0, c0, rfl, k2⟩
    simp only []
    go_wp2_with fail
    go_ret
    exact ⟨rfl, (k1.trans (k2.mono k1.size)).alloc (by have := k1.size; have := k2.size; omega) _⟩
  refine (made_yes p l A cap ls _ hbad (Kd.C_below hC k1) hmx).mono ?_
  rintro e w2 ⟨g, b, v, rfl, hc, hr, hg, hb, k2⟩
  obtain ⟨pn, rfl⟩ : ∃ n : Nat, p = n := ⟨p.toNat, by unfold Bad at hbad; omega⟩
  obtain ⟨ln, rfl⟩ : ∃ n : Nat, l = n := ⟨l.toNat, by unfold Bad at hbad; omega⟩
  have hpn : pn ≤ 1024 := by unfold Bad at hbad; omega
  rw [Int.toNat_natCast, Int.toNat_natCast] at hc hr
  have hL0 := mActs_len pn ls (List.replicate ln [])
  rw [List.length_replicate] at hL0
  obtain ⟨L, hL⟩ : ∃ L, L = mActs pn (List.replicate ln []) ls := ⟨_, rfl⟩
  rw [← hL] at hc hr hL0
  clear hL hC hbad
  obtain ⟨A1, c1, rfl⟩ := hr.slice
  obtain ⟨N1, hN1⟩ : ∃ N, N = (LI L).length := ⟨_, rfl⟩
  rw [← hN1] at hr ⊢
  clear hN1
  have s2 := (WS.mk hc (Nat.le_trans k1.size hb) (k1.trans (k2.mono k1.size)) : WS w w2 g b pn L).alloc (.cells #[.int .i64 (pn : Int), .slice A1 N1 c1] 27)
  obtain ⟨ns, hR⟩ := chn_rep hc
  have honce := once hR
  rw [hL0] at honce
  have hfit := chn_fits hc
  have hcn := cnt_le L pn
  have hL0' := Lib.hid hL0
  have honce' := Lib.hid honce
  clear hc hr hb hg k1 hL0 honce
  simp only []
  go_wp2_with fail
  generalize w2.alloc (.cells #[.int .i64 (pn : Int), .slice A1 N1 c1] 27) = w3 at *
  clear k2
  go_loopw [11, 12] (fun n i wr => ∃ k : Nat, i = .int .i64 k ∧ n = .int .i64 (lens L k : Nat) ∧ k ≤ ln ∧ lens L k ≤ 2048 * k ∧ WS w wr g b pn L) (fun _ i _ => ln - (intOf i).toNat)
  case atStart => exact ⟨0, rfl, rfl, Nat.zero_le _, by simp [lens], s2⟩
  case round =>
    obtain ⟨k, rfl, rfl, hk, hle, sk⟩ := hrel
    clear s2
    by_cases hlt : k < ln
    · have e1 : atL L (k : Int) = L.getD k [] := atL_nat L k
      have e2 := lens_s L k (by have := hL0'.out; omega)
      have e3 := fits_len hfit k
      have e1' := Lib.hid e1
      have e2' := Lib.hid e2
      clear e1 e2
      obtain ⟨S, hS⟩ : ∃ S, S = lens L k := ⟨_, rfl⟩
      rw [← hS] at hle ⊢
      have hS' := Lib.hid hS
      clear hS
      have d3 : decide ((k : Int) < (ln : Int)) = true := decide_eq_true (by omega)
      have d4 : decide (k < ln) = true := decide_eq_true hlt
      have b0 : ln ≤ 40 := by omega
      go_wp2_with fail
      refine (all_as e1'.out sk.chn).mono ?_
      rintro e w4 ⟨r, rfl, hr4, k4⟩
      have s4 := sk.below k4
      clear sk k4
      obtain ⟨Ar, cr, rfl⟩ := hr4.slice
      obtain ⟨M, hM⟩ : ∃ M, M = (L.getD k []).length := ⟨_, rfl⟩
      rw [← hM] at e3 ⊢
      have hM' := Lib.hid hM
      clear hM
      have b1 : (S : Int) ≤ 100000 := by omega
      have b2 : (M : Int) ≤ 100000 := by omega
      have b3 : (0 : Int) ≤ (S : Int) := by omega
      have b4 : (0 : Int) ≤ (M : Int) := by omega
      simp only []
      go_wp2_with fail
      go_roundw
      case rel => exact ⟨k + 1, by simp, by rw [e2'.out, ← hS'.out, ← hM'.out]; simp, by omega, by rw [e2'.out, ← hS'.out, ← hM'.out]; omega, s4⟩
      case measure => simp [intOf]; omega
    · obtain rfl : k = ln := by omega
      have hS2 : lens L k = cnt L pn := honce'.out
      rw [hS2] at hle ⊢
      have d4 : decide (k < k) = false := decide_eq_false (by omega)
      clear hS2 hlt
      go_wp2_with fail
      go_loopw [11, 13] (fun n i wr => ∃ (m : Nat) (z : Int), i = .int .i64 m ∧ n = .int .i64 z ∧ Hid (z = (cnt L pn : Int) - (cnt L m : Int)) ∧ m ≤ pn ∧ WS w wr g b pn L) (fun _ i _ => pn - (intOf i).toNat)
      case atStart => exact ⟨0, _, rfl, rfl, Lib.hid (by rw [cnt_0]; omega), Nat.zero_le _, sk⟩
      case round =>
        obtain ⟨m, z, rfl, rfl, hz, hm, s5⟩ := hrel
        clear sk
        by_cases hlt : m < pn
        · have hcm := cnt_le L m
          have hzb : z ≤ 2048 ∧ -2048 ≤ z := by have := hz.out; omega
          obtain ⟨hz1, hz2⟩ := hzb
          have hcs := cnt_s L m
          have hr := wh_range L m
          have d5 : decide ((m : Int) < (pn : Int)) = true := decide_eq_true (by omega)
          have d6 : decide (m < pn) = true := decide_eq_true hlt
          have b1 : (m : Int) ≤ 100000 := by omega
          by_cases hw : 0 ≤ wh L m
          · obtain ⟨j, hj⟩ : ∃ j : Nat, wh L m = j := ⟨(wh L m).toNat, by omega⟩
            obtain ⟨lx, hl, hmm⟩ := wh_mem L m j hj
            have hws := which_split hR hl hmm
            have hll := hfit.2.2 lx (List.mem_of_getElem? hl)
            have hal : atL L (j : Int) = lx := by rw [atL_nat]; exact getD_of hl
            rw [if_pos hw] at hcs
            have hcs' := Lib.hid hcs
            have hws' := Lib.hid hws
            have hal' := Lib.hid hal
            have hmm' := Lib.hid hmm
            clear hcs hws hal hmm hl hj hw hcm hr
            go_wp2_with fail
            refine (which_as hws'.out s5.chn).mono ?_
            rintro e w' ⟨rfl, rfl⟩
            simp only []
            go_wp2_with fail
            refine (all_as hal'.out s5.chn).mono ?_
            rintro e w6 ⟨r, rfl, hr6, k6⟩
            have s6 := s5.below k6
            clear s5 k6
            obtain ⟨Ar, cr, rfl⟩ := hr6.slice
            simp only []
            go_wp2_with fail
            refine (index_as hmm'.out (by omega) hr6).mono ?_
            rintro e w7 ⟨rfl, k7⟩
            have s7 := s6.below k7
            clear s6 k7 hr6
            obtain ⟨iv, hiv⟩ : ∃ iv, iv = lx.idxOf m := ⟨_, rfl⟩
            rw [← hiv]
            clear hiv
            have d7 : decide ((iv : Int) < 0) = false := decide_eq_false (by omega)
            simp only []
            go_wp2_with fail
            go_roundw
            case rel => exact ⟨m + 1, z - 1, by simp, rfl, Lib.hid (by have h1 := hz.out; have h2 := hcs'.out; omega), by omega, s7⟩
            case measure => simp [intOf]; omega
          · have hwn : mWhich pn L (m : Int) = (0, false) := by
              unfold mWhich; rw [Int.toNat_natCast, if_neg (fun q => hw q.2)]
            rw [if_neg hw] at hcs
            have hcs' := Lib.hid hcs
            have hwn' := Lib.hid hwn
            clear hcs hwn hw hcm hr
            go_wp2_with fail
            refine (which_as hwn'.out s5.chn).mono ?_
            rintro e w' ⟨rfl, rfl⟩
            simp only []
            go_wp2_with fail
            go_roundw
            case rel => exact ⟨m + 1, z, by simp, rfl, Lib.hid (by have h1 := hz.out; have h2 := hcs'.out; omega), by omega, s5⟩
            case measure => simp [intOf]; omega
        · obtain rfl : m = pn := by omega
          obtain rfl : z = 0 := by have := hz.out; omega
          have d6 : decide (m < m) = false := decide_eq_false (by omega)
          clear hz hlt
          go_wp2_with fail
          go_ret
          exact ⟨rfl, s5.bel⟩
end Go.Proofs.Ytfnppjhkhdfmdaa.ChainOnce
