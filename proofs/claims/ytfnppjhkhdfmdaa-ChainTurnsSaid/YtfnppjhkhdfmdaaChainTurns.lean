/-
  Chains: the law ChainTurns, walked.
  No condition.
-/
import Derived.Test.YtfnppjhkhdfmdaaChainX
namespace Go.Proofs.Ytfnppjhkhdfmdaa.ChainTurns
open Go.RowKit Go.Proofs.Ytfnppjhkhdfmdaa.ChainA Go.Proofs.Ytfnppjhkhdfmdaa.ChainM Go.Proofs.Ytfnppjhkhdfmdaa.ChainN Go.Proofs.Ytfnppjhkhdfmdaa.ChainF Go.Proofs.Ytfnppjhkhdfmdaa.ChainG Go.Proofs.Ytfnppjhkhdfmdaa.ChainP Go.Proofs.Ytfnppjhkhdfmdaa.ChainQ Go.Proofs.Ytfnppjhkhdfmdaa.ChainT Go.Proofs.Ytfnppjhkhdfmdaa.ChainU Go.Proofs.Ytfnppjhkhdfmdaa.ChainV Go.Proofs.Ytfnppjhkhdfmdaa.ChainX Go.Proofs.Ytfnppjhkhdfmdaa.GChainPlays Go.Proofs.YtfnppjhkhdfmdaaW.PrintWords Go.Proofs.YtfnppjhkhdfmdaaW.PrintLast Go.Proofs.YtfnppjhkhdfmdaaW.PrintMore
set_option linter.unusedVariables false
set_option linter.unusedSimpArgs false
/-- Where one stands, and whether: the k-th of a row. -/
def posK (xs : List Nat) (k : Nat) : Int × Bool := if k < xs.length then ((xs.getD k 0 : Nat), true) else (0, false)
theorem posK_0 (xs : List Nat) : hdP xs = posK xs 0 := by
  cases xs with
  | nil => rfl
  | cons x l => simp [hdP, posK]
theorem next_posK {p : Nat} {L : List (List Nat)} {ns : List S62} (h : ChainS.Rep p L ns) {j : Nat} {xs : List Nat} (hl : L[j]? = some xs) (k : Nat) (hk : k < xs.length) : mBes p L ((xs.getD k 0 : Nat) : Int) 1 = posK xs (k + 1) := by
  have hsp : xs = xs.take k ++ xs.getD k 0 :: xs.drop (k + 1) := by
    rw [getD_lt xs k hk, ← List.drop_eq_getElem_cons hk, List.take_append_drop]
  have hl' := hl
  rw [hsp] at hl'
  rw [bes_split h hl', ← hsp, List.length_take, Nat.min_eq_left (by omega)]
  unfold posK
  by_cases h1 : k + 1 < xs.length
  · rw [if_pos (by omega), if_pos h1, show ((k : Int) + 1).toNat = k + 1 by omega]
  · rw [if_neg (by omega), if_neg h1]
theorem prev_posK {p : Nat} {L : List (List Nat)} {ns : List S62} (h : ChainS.Rep p L ns) {j : Nat} {xs : List Nat} (hl : L[j]? = some xs) (k : Nat) (hk : k < xs.length) : mBes p L ((xs.getD k 0 : Nat) : Int) (-1) = if 0 < k then (((xs.getD (k - 1) 0 : Nat) : Int), true) else (0, false) := by
  have hsp : xs = xs.take k ++ xs.getD k 0 :: xs.drop (k + 1) := by
    rw [getD_lt xs k hk, ← List.drop_eq_getElem_cons hk, List.take_append_drop]
  have hl' := hl
  rw [hsp] at hl'
  rw [bes_split h hl', ← hsp, List.length_take, Nat.min_eq_left (by omega)]
  by_cases h1 : 0 < k
  · rw [if_pos (by omega), if_pos h1, show ((k : Int) + -1).toNat = k - 1 by omega]
  · rw [if_neg (by omega), if_neg h1]
/-- From the end on: the one ahead of the k-th. -/
def posB (xs : List Nat) (k : Nat) : Int × Bool := if 0 < k then ((xs.getD (k - 1) 0 : Nat), true) else (0, false)
theorem posB_n (xs : List Nat) : ltP xs = posB xs xs.length := by
  cases xs with
  | nil => rfl
  | cons x l =>
    have := lst_get 0 (x :: l) (by simp)
    unfold posB
    rw [if_pos (by simp), ← this]; rfl
set_option maxRecDepth 100000 in
set_option maxHeartbeats 4000000 in
theorem turns_calls (p l : Int) (A : Option Addr) (cap : Nat) (ls : List S33) (li : Int) (w : World) (hC : Kd.C k33 w A ls.length ls) (hmx : ls.length ≤ 140737488355328) :
    Calls Try.prog 4 #[.int .i64 p, .int .i64 l, .slice A ls.length cap, .int .i64 li] w fun e w' => e = .returned (.bool true) ∧ Below w.heap.size w w' := by
  have hu27 := Try.underlying27
  by_cases hlen : 40 < ls.length
  · have d0 : decide ((40 : Int) < (ls.length : Int)) = true := decide_eq_true (by omega)
    go_enter Try.func4, Try.ntmps4
    go_wp2_with fail
    refine (works_calls _).mono ?_
    rintro e w1 ⟨rfl, k1⟩
    simp only []
    go_wp2_with fail
    go_ret
    exact ⟨rfl, k1⟩
  have d0 : decide ((40 : Int) < (ls.length : Int)) = false := decide_eq_false (by omega)
  go_enter Try.func4, Try.ntmps4
  go_wp2_with fail
  refine (works_calls _).mono ?_
  rintro e w1 ⟨rfl, k1⟩
  simp only []
  go_wp2_with fail
  by_cases hbad : Bad p l
  · refine (made_no p l A cap ls _ hbad hmx).mono ?_
    rintro e w2 ⟨A0, c0, rfl, k2⟩
    simp only []
    go_wp2_with fail
    go_ret
    exact ⟨rfl, (k1.trans (k2.mono k1.size)).alloc (by have := k1.size; have := k2.size; omega) _⟩
  refine (made_yes p l A cap ls _ hbad (Kd.C_below hC k1) hmx).mono ?_
  rintro e w2 ⟨g, b, v, rfl, hc, hr, hg, hb, k2⟩
  obtain ⟨pn, rfl⟩ : ∃ n : Nat, p = n := ⟨p.toNat, by unfold Bad at hbad; omega⟩
  rw [Int.toNat_natCast] at hc hr
  obtain ⟨L, hL⟩ : ∃ L, L = mActs pn (List.replicate l.toNat []) ls := ⟨_, rfl⟩
  rw [← hL] at hc hr
  clear hL hC
  obtain ⟨A1, c1, rfl⟩ := hr.slice
  obtain ⟨N1, hN1⟩ : ∃ N, N = (LI L).length := ⟨_, rfl⟩
  rw [← hN1] at hr ⊢
  clear hN1
  have s2 := (WS.mk hc (Nat.le_trans k1.size hb) (k1.trans (k2.mono k1.size)) : WS w w2 g b pn L).alloc (.cells #[.int .i64 (pn : Int), .slice A1 N1 c1] 27)
  obtain ⟨ns, hR⟩ := chn_rep hc
  have hlen := chn_len hc li
  have hsm := chn_small hc
  clear hc hr hb hg k1
  simp only []
  go_wp2_with fail
  generalize w2.alloc (.cells #[.int .i64 (pn : Int), .slice A1 N1 c1] 27) = w3 at *
  clear k2
  obtain ⟨xs, hxs⟩ : ∃ xs, atL L li = xs := ⟨_, rfl⟩
  rw [hxs] at hlen
  refine (all_as hxs s2.chn).mono ?_
  rintro e w4 ⟨r, rfl, hr4, k4⟩
  have s4 := s2.below k4
  clear s2 k4
  obtain ⟨Ar, cr, rfl⟩ := hr4.slice
  have hh := posK_0 xs
  have ht := posB_n xs
  obtain ⟨N, hN⟩ : ∃ N, N = xs.length := ⟨_, rfl⟩
  rw [← hN] at hr4 hlen ⊢
  have hfst : hdP (atL L li) = posK xs 0 := by rw [hxs, hh]
  have hlst : ltP (atL L li) = posB xs N := by rw [hxs, ht, hN]
  have hlj : 0 < N → ∃ j : Nat, li = j ∧ L[j]? = some xs := fun h0 => by
    by_cases hj : 0 ≤ li ∧ li < L.length
    · refine ⟨li.toNat, by omega, ?_⟩
      have hli : li = ((li.toNat : Nat) : Int) := by omega
      rw [hli, atL_nat] at hxs
      rw [← hxs]
      exact getD_at (by omega)
    · rw [atL_no L li hj] at hxs
      rw [hN, ← hxs] at h0
      simp at h0
  obtain ⟨a0, b0, hab⟩ : ∃ a c, posK xs 0 = (a, c) := ⟨_, _, rfl⟩
  have hN' := Lib.hid hN
  have hab' := Lib.hid hab
  have hlst' := Lib.hid hlst
  have hlj' := Lib.hid hlj
  have hfst' : Hid (hdP (atL L li) = (a0, b0)) := Lib.hid (by rw [hfst, hab])
  clear hN hab hlst hlj hfst hh ht hxs
  simp only []
  go_wp2_with fail
  refine (first_as hfst'.out s4.chn).mono ?_
  rintro e w5 ⟨rfl, k5⟩
  have s5 := s4.below k5
  have hr5 := hr4.below k5
  clear s4 k5 hr4
  simp only []
  go_wp2_with fail
  go_loopw [14, 15, 16] (fun a c i wr => ∃ (k : Nat) (av : Int) (cv : Bool), i = .int .i64 k ∧ a = .int .i64 av ∧ c = .bool cv ∧ k ≤ N ∧ Hid (posK xs k = (av, cv)) ∧ WS w wr g b pn L ∧ Row wr (.slice Ar N cr) xs) (fun _ _ i _ => N - (intOf i).toNat)
  case atStart => exact ⟨0, a0, b0, rfl, rfl, rfl, Nat.zero_le _, hab', s5, hr5⟩
  case round =>
    obtain ⟨k, av, cv, rfl, rfl, rfl, hk, hpos, sk, hrk⟩ := hrel
    clear s5 hr5
    by_cases hlt : k < N
    · obtain ⟨j, rfl, hl⟩ := hlj'.out (by omega)
      have hkl : k < xs.length := by have := hN'.out; omega
      have hp1 := hpos.out
      unfold posK at hp1
      rw [if_pos hkl] at hp1
      obtain ⟨rfl, rfl⟩ := Prod.mk.inj hp1
      obtain ⟨ad, rfl, hcell⟩ := hrk.at k hkl
      have hnx := next_posK hR hl k hkl
      have hwh := which_split hR hl (getD_mem hkl)
      obtain ⟨y, hy⟩ : ∃ y, y = xs.getD k 0 := ⟨_, rfl⟩
      rw [← hy] at hcell hnx hwh ⊢
      obtain ⟨a2, c2, h2⟩ : ∃ a c, posK xs (k + 1) = (a, c) := ⟨_, _, rfl⟩
      have hnx' : Hid (mBes pn L (y : Int) 1 = (a2, c2)) := Lib.hid (by rw [hnx, h2])
      have hwh' := Lib.hid hwh
      have h2' := Lib.hid h2
      have hl' := Lib.hid hl
      clear hnx hwh h2 hl hpos hp1 hy
      have d1 : decide (k < N) = true := decide_eq_true hlt
      have d2 : decide ((k : Int) < (N : Int)) = true := decide_eq_true (by omega)
      have i0 : (0 : Int) ≤ (k : Int) := by omega
      have i1 : (k : Int) < (N : Int) := by omega
      go_wp2_with fail
      refine (which_as hwh'.out sk.chn).mono ?_
      rintro e w' ⟨rfl, rfl⟩
      simp only []
      go_wp2_with fail
      refine (next_as hnx'.out sk.chn).mono ?_
      rintro e w' ⟨rfl, rfl⟩
      simp only []
      go_wp2_with fail
      go_roundw
      case rel => exact ⟨k + 1, a2, c2, by simp, rfl, rfl, by omega, h2', sk, hrk⟩
      case measure => simp [intOf]; omega
    · obtain rfl : k = N := by omega
      have hp1 := hpos.out
      unfold posK at hp1
      rw [if_neg (by have := hN'.out; omega)] at hp1
      obtain ⟨rfl, rfl⟩ := Prod.mk.inj hp1
      have d1 : decide (k < k) = false := decide_eq_false (by omega)
      clear hp1 hpos
      obtain ⟨a3, c3, h3⟩ : ∃ a c, posB xs k = (a, c) := ⟨_, _, rfl⟩
      have hl3 : Hid (ltP (atL L li) = (a3, c3)) := Lib.hid (by rw [hlst'.out, h3])
      have h3' := Lib.hid h3
      clear h3
      go_wp2_with fail
      refine (last_as hl3.out sk.chn).mono ?_
      rintro e w6 ⟨rfl, k6⟩
      have s6 := sk.below k6
      have hr6 := hrk.below k6
      clear sk k6 hrk
      simp only []
      go_wp2_with fail
      go_loopw [14, 15, 19] (fun a c i wr => ∃ (m : Nat) (av : Int) (cv : Bool), i = .int .i64 ((m : Int) - 1) ∧ a = .int .i64 av ∧ c = .bool cv ∧ m ≤ k ∧ Hid (posB xs m = (av, cv)) ∧ WS w wr g b pn L ∧ Row wr (.slice Ar k cr) xs) (fun _ _ i _ => (intOf i + 1).toNat)
      case atStart => exact ⟨k, a3, c3, rfl, rfl, rfl, Nat.le_refl _, h3', s6, hr6⟩
      case round =>
        obtain ⟨m, av, cv, rfl, rfl, rfl, hm, hpos, sk, hrk⟩ := hrel
        clear s6 hr6
        have hp1 := hpos.out
        unfold posB at hp1
        by_cases h0 : 0 < m
        · obtain ⟨j, rfl, hl⟩ := hlj'.out (by omega)
          have hkl : m - 1 < xs.length := by have := hN'.out; omega
          rw [if_pos h0] at hp1
          obtain ⟨rfl, rfl⟩ := Prod.mk.inj hp1
          obtain ⟨ad, rfl, hcell⟩ := hrk.at (m - 1) hkl
          have hnx := prev_posK hR hl (m - 1) hkl
          have hnx2 : mBes pn L ((xs.getD (m - 1) 0 : Nat) : Int) (-1) = posB xs (m - 1) := hnx
          obtain ⟨y, hy⟩ : ∃ y, y = xs.getD (m - 1) 0 := ⟨_, rfl⟩
          rw [← hy] at hcell hnx2 ⊢
          obtain ⟨a2, c2, h2⟩ : ∃ a c, posB xs (m - 1) = (a, c) := ⟨_, _, rfl⟩
          have hnx' : Hid (mBes pn L (y : Int) (-1) = (a2, c2)) := Lib.hid (by rw [hnx2, h2])
          have h2' := Lib.hid h2
          clear hnx hnx2 h2 hl hpos hp1 hy
          have d1 : decide ((1 : Int) ≤ (m : Int)) = true := decide_eq_true (by omega)
          have d2 : decide ((0 : Int) ≤ (m : Int) - 1) = true := decide_eq_true (by omega)
          have i0 : (1 : Int) ≤ (m : Int) := by omega
          have i00 : (0 : Int) ≤ (m : Int) - 1 := by omega
          have i1 : (m : Int) - 1 < (k : Int) := by omega
          have i2 : ((m : Int) - 1).toNat = m - 1 := by omega
          have i3 : m ≤ 2048 := by omega
          go_wp2_with fail
          refine (prev_as hnx'.out sk.chn).mono ?_
          rintro e w' ⟨rfl, rfl⟩
          simp only []
          go_wp2_with fail
          go_roundw
          case rel => exact ⟨m - 1, a2, c2, by simp only [Value.int.injEq, true_and]; omega, rfl, rfl, by omega, h2', sk, hrk⟩
          case measure => simp [intOf]; omega
        · obtain rfl : m = 0 := by omega
          rw [if_neg h0] at hp1
          obtain ⟨rfl, rfl⟩ := Prod.mk.inj hp1
          clear hp1 hpos h0
          go_wp2_with fail
          go_ret
          exact ⟨rfl, sk.bel⟩
end Go.Proofs.Ytfnppjhkhdfmdaa.ChainTurns
