/-
  Chains: the law's tells and alike.
  No condition.
-/
import Derived.Test.YtfnppjhkhdfmdaaChainT
namespace Go.Proofs.Ytfnppjhkhdfmdaa.ChainU
open Go.RowKit Go.Proofs.Ytfnppjhkhdfmdaa.ChainA Go.Proofs.Ytfnppjhkhdfmdaa.ChainM Go.Proofs.Ytfnppjhkhdfmdaa.ChainN Go.Proofs.Ytfnppjhkhdfmdaa.ChainF Go.Proofs.Ytfnppjhkhdfmdaa.ChainG Go.Proofs.Ytfnppjhkhdfmdaa.ChainP Go.Proofs.Ytfnppjhkhdfmdaa.ChainQ Go.Proofs.Ytfnppjhkhdfmdaa.ChainT Go.Proofs.Ytfnppjhkhdfmdaa.GChainPlays Go.Proofs.YtfnppjhkhdfmdaaW.PrintWords Go.Proofs.YtfnppjhkhdfmdaaW.PrintLast Go.Proofs.YtfnppjhkhdfmdaaW.PrintMore
set_option linter.unusedVariables false
set_option linter.unusedSimpArgs false
theorem toI_inj (l m : List Nat) : toI l = toI m ↔ l = m := by
  refine ⟨fun h => ?_, fun h => by rw [h]⟩
  have h2 := congrArg (List.map Int.toNat) h
  have e : ∀ l : List Nat, (toI l).map Int.toNat = l := fun l => by
    induction l with
    | nil => rfl
    | cons x l ih => simp only [toI, List.map_cons] at ih ⊢; rw [ih]; simp
  rw [e, e] at h2
  exact h2
section
variable {w : World} {g b p : Nat} {L : List (List Nat)} {P : Nat → Prop} {v : Value}
theorem first_as {j a : Int} {c : Bool} (hm : hdP (atL L j) = (a, c)) (h : Chn w g b p L) : Calls Try.prog 13 #[.pointer (some ⟨g, 0, none⟩), .int .i64 j] w fun e w' => e = .returned (.tuple #[.int .i64 a, .bool c]) ∧ Below w.heap.size w w' := by
  have := first_calls g b p j L w h
  rw [hm] at this; exact this
theorem last_as {j a : Int} {c : Bool} (hm : ltP (atL L j) = (a, c)) (h : Chn w g b p L) : Calls Try.prog 16 #[.pointer (some ⟨g, 0, none⟩), .int .i64 j] w fun e w' => e = .returned (.tuple #[.int .i64 a, .bool c]) ∧ Below w.heap.size w w' := by
  refine (last_calls j h).mono ?_
  rintro e w' ⟨rfl, n, rfl⟩
  rw [hm]
  exact ⟨rfl, pw_below_drewN (Below.refl _ _) n⟩
theorem next_as {x a : Int} {c : Bool} (hm : mBes p L x 1 = (a, c)) (h : Chn w g b p L) : Calls Try.prog 15 #[.pointer (some ⟨g, 0, none⟩), .int .i64 x] w fun e w' => e = .returned (.tuple #[.int .i64 a, .bool c]) ∧ w = w' := by
  refine (next_calls x h).mono ?_
  rintro e w' ⟨rfl, rfl⟩
  rw [hm]; exact ⟨rfl, rfl⟩
theorem prev_as {x a : Int} {c : Bool} (hm : mBes p L x (-1) = (a, c)) (h : Chn w g b p L) : Calls Try.prog 17 #[.pointer (some ⟨g, 0, none⟩), .int .i64 x] w fun e w' => e = .returned (.tuple #[.int .i64 a, .bool c]) ∧ w = w' := by
  refine (prev_calls x h).mono ?_
  rintro e w' ⟨rfl, rfl⟩
  rw [hm]; exact ⟨rfl, rfl⟩
theorem which_as {x a : Int} {c : Bool} (hm : mWhich p L x = (a, c)) (h : Chn w g b p L) : Calls Try.prog 14 #[.pointer (some ⟨g, 0, none⟩), .int .i64 x] w fun e w' => e = .returned (.tuple #[.int .i64 a, .bool c]) ∧ w = w' := by
  refine (which_calls x h).mono ?_
  rintro e w' ⟨rfl, rfl⟩
  rw [hm]; exact ⟨rfl, rfl⟩
/-- A row of places in memory, to be read. -/
def Row (w : World) (v : Value) (l : List Nat) : Prop := ∃ A c, v = .slice A l.length c ∧ l.length ≤ c ∧ Kd.C (Kd.int .i64) w A l.length (toI l)
theorem Row.below {w w' : World} {v : Value} {l : List Nat} (h : Row w v l) (k : Below w.heap.size w w') : Row w' v l := by
  obtain ⟨A, c, rfl, h1, h2⟩ := h
  exact ⟨A, c, rfl, h1, Kd.C_below h2 k⟩
theorem row_of_own {w : World} {base : Nat} {v : Value} {l : List Nat} (h : w.ownsRow base 3 1 v (toI l).length ((toI l).map (Value.int .i64))) : Row w v l := by
  have hR : Kd.R (Kd.int .i64) 3 w base (fun _ => True) v (toI l) := Kd.R_of_own h (fun _ _ => trivial)
  obtain ⟨A, c, rfl⟩ := Kd.R_slice hR
  have h2 := Kd.R_reads' hR
  exact ⟨A, c, by rw [h2.1, toI_len], by have := h2.2.1; have := h2.1; rw [toI_len] at *; omega, by rw [← toI_len]; exact h2.2.2⟩
theorem row_of_V {w : World} {n : Nat} {Q : Nat → Prop} {l : List Nat} (h : Kd.V (Kd.int .i64) 3 w n Q v (toI l)) : Row w v l := by
  obtain ⟨A, c, rfl⟩ := Kd.V_slice h
  have h2 := Kd.V_reads' h
  exact ⟨A, c, by rw [toI_len], by have := h2.2.1; rw [toI_len] at this; exact this, by rw [← toI_len]; exact h2.2.2⟩
theorem all_as {j : Int} {l : List Nat} (hm : atL L j = l) (h : Chn w g b p L) : Calls Try.prog 12 #[.pointer (some ⟨g, 0, none⟩), .int .i64 j] w fun e w' => ∃ v, e = .returned v ∧ Row w' v l ∧ Below w.heap.size w w' := by
  refine (all_calls g b p j L w h).mono ?_
  rintro e w' ⟨v, rfl, ho, hb⟩
  rw [hm] at ho
  exact ⟨v, rfl, row_of_own ho, hb⟩
theorem refAll_as {j : Int} {l : List Nat} (hl : atL L j = l) (hm : RefP w P v L) : Calls Try.prog 43 #[.agg #[.int .i64 (p : Int), v], .int .i64 j] w fun e w' => ∃ v, e = .returned v ∧ Row w' v l ∧ Below w.heap.size w w' := by
  obtain ⟨A, c, rfl⟩ := hm.slice
  refine (complineref06_All.calls p P A c (LI L) j _ w hm (all_f p L j)).mono ?_
  rintro e w' ⟨v', rfl, h1, h2⟩
  rw [hl] at h1
  exact ⟨v', rfl, row_of_V h1, h2⟩
theorem refBes_as {x d a : Int} {c : Bool} (hd : d = 1 ∨ d = -1) (hb : mBes p L x d = (a, c)) (hf : Fits p L) (hm : RefP w P v L) : Calls Try.prog 44 #[.agg #[.int .i64 (p : Int), v], .int .i64 x, .int .i64 d] w fun e w' => e = .returned (.tuple #[.int .i64 a, .bool c]) ∧ Below w.heap.size w w' := by
  obtain ⟨A, c', rfl⟩ := hm.slice
  have h2 := Kd.V_reads' hm
  have hf2 := beside_f hf x d hd 6000 (by omega)
  rw [hb] at hf2
  exact complineref06_Beside.calls 6000 p A c' (LI L) x d a c w h2.2.2 h2.2.1 hf2
theorem refWhich_as {x a : Int} (hb : whI L x = a) (hf : Fits p L) (hm : RefP w P v L) : Calls Try.prog 40 #[.agg #[.int .i64 (p : Int), v], .int .i64 x] w fun e w' => e = .returned (.int .i64 a) ∧ Below w.heap.size w w' := by
  obtain ⟨A, c', rfl⟩ := hm.slice
  have h2 := Kd.V_reads' hm
  have hf2 := which_f hf x 6000 (by omega)
  rw [hb] at hf2
  exact complineref06_Which.calls 6000 p A c' (LI L) x a w h2.2.2 h2.2.1 hf2
theorem same_as {u v : Value} {l m : List Nat} (hlen : l.length ≤ 1000000) (h1 : Row w u l) (h2 : Row w v m) : Calls Try.prog 22 #[u, v] w fun e w' => e = .returned (.bool (decide (l = m))) ∧ Below w.heap.size w w' := by
  obtain ⟨A, c, rfl, h3, h4⟩ := h1
  obtain ⟨B, d, rfl, h5, h6⟩ := h2
  rw [← toI_len] at h3 h4 h5 h6
  have hs := same_f (toI l) (toI m) 2000000 (by rw [toI_len]; exact hlen) (by rw [toI_len]; omega)
  have hc := complineref02_Same.calls 2000000 A c (toI l) B d (toI m) _ w h4 h3 h6 h5 hs
  rw [toI_len, toI_len] at hc
  refine hc.mono ?_
  rintro e w' ⟨rfl, n, rfl⟩
  refine ⟨?_, pw_below_drewN (Below.refl _ _) n⟩
  rw [show decide (toI l = toI m) = decide (l = m) from decide_eq_decide.2 (toI_inj l m)]
end
/-- The state of the walk. -/
structure TS (g b p : Nat) (L : List (List Nat)) (P : Nat → Prop) (v : Value) (w W : World) : Prop where
  chn : Chn W g b p L
  ref : RefP W P v L
  box : W.heap[w.heap.size]? = some (.cells #[.int .i64 (p : Int), v] 27 (0, 0))
  bel : Below w.heap.size w W
theorem TS.below {g b p : Nat} {L : List (List Nat)} {P : Nat → Prop} {v : Value} {w W W' : World} (h : TS g b p L P v w W) (k : Below W.heap.size W W') : TS g b p L P v w W' :=
  ⟨h.chn.below k, h.ref.below k, below_blk k h.box (blk_lt h.box), h.bel.trans (k.mono h.bel.size)⟩
theorem Row.slice {w : World} {v : Value} {l : List Nat} (h : Row w v l) : ∃ A c, v = .slice A l.length c := by
  obtain ⟨A, c, rfl, _, _⟩ := h; exact ⟨A, c, rfl⟩
theorem Row.at {w : World} {A : Option Addr} {n c : Nat} {l : List Nat} (h : Row w (.slice A n c) l) (i : Nat) (hi : i < l.length) : ∃ ad, A = some ad ∧ w.cell? (ad.add i) = some (.int .i64 (l.getD i 0 : Nat)) := by
  obtain ⟨A', c', e, h1, h2⟩ := h
  cases e
  obtain ⟨ad, cs, e, _, hK, hc⟩ := Kd.C_get h2 0 (i : Int) (by omega) (by omega)
  rw [Int.toNat_natCast] at hK hc
  have hK' : cs = [.int .i64 ((toI l).getD i 0)] := hK
  refine ⟨ad, e, ?_⟩
  have := hc 0 _ (by rw [hK']; rfl)
  rw [toI_getD _ _ hi, show (Kd.int IntKind.i64).sz = 1 from rfl, Nat.mul_one, Nat.add_zero] at this
  exact this
set_option maxRecDepth 100000 in
set_option maxHeartbeats 4000000 in
theorem tells_nil0 (g b p : Nat) (x n1 n2 : Int) (b1 b2 : Bool) (L : List (List Nat)) (P : Nat → Prop) (v : Value) (w : World) (h : Chn w g b p L) (hm : RefP w P v L) (hl : atL L x = []) (hn : mBes p L x 1 = (n1, b1)) (hp : mBes p L x (-1) = (n2, b2)) (hw : mWhich p L x = (0, false)) (hv : whI L x = -1) :
    Calls Try.prog 30 #[.pointer (some ⟨g, 0, none⟩), .agg #[.int .i64 (p : Int), v], .int .i64 x] w fun e w' => e = .returned (.bool true) ∧ Below w.heap.size w w' := by
  have hu27 := Try.underlying27
  have hfit := chn_fits h
  have hsm := chn_len h x
  have hsp := chn_small h
  rw [hl] at hsm
  have hl' := Lib.hid hl
  have hn' := Lib.hid hn
  have hp' := Lib.hid hp
  have hw' := Lib.hid hw
  have hv' := Lib.hid hv
  have hd1 : hdP (atL L x) = (0, false) := by rw [hl]; rfl
  have hd2 : ltP (atL L x) = (0, false) := by rw [hl]; rfl
  have hd1' := Lib.hid hd1
  have hd2' := Lib.hid hd2
  clear hl hn hp hw hv hd1 hd2
  obtain ⟨A, c, rfl⟩ := hm.slice
  obtain ⟨N, hN⟩ : ∃ N, N = (LI L).length := ⟨_, rfl⟩
  rw [← hN] at hm ⊢
  clear hN
  have s0 : TS g b p L P (.slice A N c) w (w.alloc (.cells #[.int .i64 (p : Int), .slice A N c] 27)) :=
    ⟨h.alloc _, hm.alloc _, blk_new w (.cells #[.int .i64 (p : Int), .slice A N c] 27), (Below.refl _ w).alloc (Nat.le_refl _) _⟩
  go_enter Try.func30, Try.ntmps30
  go_wp2_with fail
  generalize w.alloc (.cells #[.int .i64 (p : Int), .slice A N c] 27) = w0 at *
  refine (refAll_as hl'.out s0.ref).mono ?_
  rintro e w1 ⟨r, rfl, hr, k1⟩
  have s1 := s0.below k1
  clear s0 k1
  simp only []
  go_wp2_with fail
  refine (all_as hl'.out s1.chn).mono ?_
  rintro e w2 ⟨s, rfl, hs, k2⟩
  have s2 := s1.below k2
  replace hr := hr.below k2
  clear s1 k2
  simp only []
  go_wp2_with fail
  obtain ⟨Ar, cr, rfl⟩ := hr.slice
  refine (same_as (by simp only [List.length_nil]; omega) hs hr).mono ?_
  rintro e w3 ⟨rfl, k3⟩
  have s3 := s2.below k3
  replace hr := hr.below k3
  replace hs := hs.below k3
  clear s2 k3
  clear hs
  simp only []
  go_wp2_with fail
  refine (first_as hd1'.out s3.chn).mono ?_
  rintro e w4 ⟨rfl, k4⟩
  have s4 := s3.below k4
  replace hr := hr.below k4
  clear s3 k4
  simp only []
  go_wp2_with fail
  refine (last_as hd2'.out s4.chn).mono ?_
  rintro e w5 ⟨rfl, k5⟩
  have s5 := s4.below k5
  replace hr := hr.below k5
  clear s4 k5
  simp only []
  go_wp2_with fail
  refine (next_as hn'.out s5.chn).mono ?_
  rintro e w5' ⟨rfl, rfl⟩
  have x0 := blk_cell s5.box 0
  have x1 := blk_cell s5.box 1
  simp only []
  go_wp2_with fail
  clear x0 x1
  refine (refBes_as (.inl rfl) hn'.out hfit s5.ref).mono ?_
  rintro e w6 ⟨rfl, k6⟩
  have s6 := s5.below k6
  replace hr := hr.below k6
  clear s5 k6
  simp only []
  go_wp2_with fail
  refine (prev_as hp'.out s6.chn).mono ?_
  rintro e w6' ⟨rfl, rfl⟩
  have x0 := blk_cell s6.box 0
  have x1 := blk_cell s6.box 1
  simp only []
  go_wp2_with fail
  clear x0 x1
  refine (refBes_as (.inr rfl) hp'.out hfit s6.ref).mono ?_
  rintro e w7 ⟨rfl, k7⟩
  have s7 := s6.below k7
  replace hr := hr.below k7
  clear s6 k7
  simp only []
  go_wp2_with fail
  refine (which_as hw'.out s7.chn).mono ?_
  rintro e w7' ⟨rfl, rfl⟩
  have x0 := blk_cell s7.box 0
  have x1 := blk_cell s7.box 1
  simp only []
  go_wp2_with fail
  clear x0 x1
  refine (refWhich_as hv'.out hfit s7.ref).mono ?_
  rintro e w8 ⟨rfl, kz⟩
  have s8 := s7.below kz
  clear kz
  simp only []
  go_wp2_with fail
  go_ret
  exact ⟨rfl, s8.bel⟩
set_option maxRecDepth 100000 in
set_option maxHeartbeats 4000000 in
theorem tells_nilj (g b p : Nat) (x n1 n2 : Int) (b1 b2 : Bool) (j : Nat) (L : List (List Nat)) (P : Nat → Prop) (v : Value) (w : World) (h : Chn w g b p L) (hm : RefP w P v L) (hl : atL L x = []) (hn : mBes p L x 1 = (n1, b1)) (hp : mBes p L x (-1) = (n2, b2)) (hw : mWhich p L x = ((j : Int), true)) (hv : whI L x = (j : Int)) :
    Calls Try.prog 30 #[.pointer (some ⟨g, 0, none⟩), .agg #[.int .i64 (p : Int), v], .int .i64 x] w fun e w' => e = .returned (.bool true) ∧ Below w.heap.size w w' := by
  have hu27 := Try.underlying27
  have hfit := chn_fits h
  have hsm := chn_len h x
  have hsp := chn_small h
  rw [hl] at hsm
  have hl' := Lib.hid hl
  have hn' := Lib.hid hn
  have hp' := Lib.hid hp
  have hw' := Lib.hid hw
  have hv' := Lib.hid hv
  have hd1 : hdP (atL L x) = (0, false) := by rw [hl]; rfl
  have hd2 : ltP (atL L x) = (0, false) := by rw [hl]; rfl
  have hd1' := Lib.hid hd1
  have hd2' := Lib.hid hd2
  clear hl hn hp hw hv hd1 hd2
  obtain ⟨A, c, rfl⟩ := hm.slice
  obtain ⟨N, hN⟩ : ∃ N, N = (LI L).length := ⟨_, rfl⟩
  rw [← hN] at hm ⊢
  clear hN
  have s0 : TS g b p L P (.slice A N c) w (w.alloc (.cells #[.int .i64 (p : Int), .slice A N c] 27)) :=
    ⟨h.alloc _, hm.alloc _, blk_new w (.cells #[.int .i64 (p : Int), .slice A N c] 27), (Below.refl _ w).alloc (Nat.le_refl _) _⟩
  go_enter Try.func30, Try.ntmps30
  go_wp2_with fail
  generalize w.alloc (.cells #[.int .i64 (p : Int), .slice A N c] 27) = w0 at *
  refine (refAll_as hl'.out s0.ref).mono ?_
  rintro e w1 ⟨r, rfl, hr, k1⟩
  have s1 := s0.below k1
  clear s0 k1
  simp only []
  go_wp2_with fail
  refine (all_as hl'.out s1.chn).mono ?_
  rintro e w2 ⟨s, rfl, hs, k2⟩
  have s2 := s1.below k2
  replace hr := hr.below k2
  clear s1 k2
  simp only []
  go_wp2_with fail
  obtain ⟨Ar, cr, rfl⟩ := hr.slice
  refine (same_as (by simp only [List.length_nil]; omega) hs hr).mono ?_
  rintro e w3 ⟨rfl, k3⟩
  have s3 := s2.below k3
  replace hr := hr.below k3
  replace hs := hs.below k3
  clear s2 k3
  clear hs
  simp only []
  go_wp2_with fail
  refine (first_as hd1'.out s3.chn).mono ?_
  rintro e w4 ⟨rfl, k4⟩
  have s4 := s3.below k4
  replace hr := hr.below k4
  clear s3 k4
  simp only []
  go_wp2_with fail
  refine (last_as hd2'.out s4.chn).mono ?_
  rintro e w5 ⟨rfl, k5⟩
  have s5 := s4.below k5
  replace hr := hr.below k5
  clear s4 k5
  simp only []
  go_wp2_with fail
  refine (next_as hn'.out s5.chn).mono ?_
  rintro e w5' ⟨rfl, rfl⟩
  have x0 := blk_cell s5.box 0
  have x1 := blk_cell s5.box 1
  simp only []
  go_wp2_with fail
  clear x0 x1
  refine (refBes_as (.inl rfl) hn'.out hfit s5.ref).mono ?_
  rintro e w6 ⟨rfl, k6⟩
  have s6 := s5.below k6
  replace hr := hr.below k6
  clear s5 k6
  simp only []
  go_wp2_with fail
  refine (prev_as hp'.out s6.chn).mono ?_
  rintro e w6' ⟨rfl, rfl⟩
  have x0 := blk_cell s6.box 0
  have x1 := blk_cell s6.box 1
  simp only []
  go_wp2_with fail
  clear x0 x1
  refine (refBes_as (.inr rfl) hp'.out hfit s6.ref).mono ?_
  rintro e w7 ⟨rfl, k7⟩
  have s7 := s6.below k7
  replace hr := hr.below k7
  clear s6 k7
  simp only []
  go_wp2_with fail
  refine (which_as hw'.out s7.chn).mono ?_
  rintro e w7' ⟨rfl, rfl⟩
  have x0 := blk_cell s7.box 0
  have x1 := blk_cell s7.box 1
  simp only []
  go_wp2_with fail
  clear x0 x1
  refine (refWhich_as hv'.out hfit s7.ref).mono ?_
  rintro e w8 ⟨rfl, kz⟩
  have s8 := s7.below kz
  clear kz
  simp only []
  go_wp2_with fail
  go_ret
  exact ⟨rfl, s8.bel⟩
set_option maxRecDepth 100000 in
set_option maxHeartbeats 4000000 in
theorem tells_cons0 (g b p : Nat) (x n1 n2 : Int) (b1 b2 : Bool) (y : Nat) (ys : List Nat) (L : List (List Nat)) (P : Nat → Prop) (v : Value) (w : World) (h : Chn w g b p L) (hm : RefP w P v L) (hl : atL L x = y :: ys) (hn : mBes p L x 1 = (n1, b1)) (hp : mBes p L x (-1) = (n2, b2)) (hw : mWhich p L x = (0, false)) (hv : whI L x = -1) :
    Calls Try.prog 30 #[.pointer (some ⟨g, 0, none⟩), .agg #[.int .i64 (p : Int), v], .int .i64 x] w fun e w' => e = .returned (.bool true) ∧ Below w.heap.size w w' := by
  have hu27 := Try.underlying27
  have hfit := chn_fits h
  have hsm := chn_len h x
  have hsp := chn_small h
  rw [hl] at hsm
  have hl' := Lib.hid hl
  have hn' := Lib.hid hn
  have hp' := Lib.hid hp
  have hw' := Lib.hid hw
  have hv' := Lib.hid hv
  have hd1 : hdP (atL L x) = ((y : Int), true) := by rw [hl]; rfl
  have hd2 : ltP (atL L x) = ((ChainR.lst y ys : Int), true) := by rw [hl]; rfl
  have hd1' := Lib.hid hd1
  have hd2' := Lib.hid hd2
  clear hl hn hp hw hv hd1 hd2
  obtain ⟨A, c, rfl⟩ := hm.slice
  obtain ⟨N, hN⟩ : ∃ N, N = (LI L).length := ⟨_, rfl⟩
  rw [← hN] at hm ⊢
  clear hN
  have s0 : TS g b p L P (.slice A N c) w (w.alloc (.cells #[.int .i64 (p : Int), .slice A N c] 27)) :=
    ⟨h.alloc _, hm.alloc _, blk_new w (.cells #[.int .i64 (p : Int), .slice A N c] 27), (Below.refl _ w).alloc (Nat.le_refl _) _⟩
  go_enter Try.func30, Try.ntmps30
  go_wp2_with fail
  generalize w.alloc (.cells #[.int .i64 (p : Int), .slice A N c] 27) = w0 at *
  refine (refAll_as hl'.out s0.ref).mono ?_
  rintro e w1 ⟨r, rfl, hr, k1⟩
  have s1 := s0.below k1
  clear s0 k1
  simp only []
  go_wp2_with fail
  refine (all_as hl'.out s1.chn).mono ?_
  rintro e w2 ⟨s, rfl, hs, k2⟩
  have s2 := s1.below k2
  replace hr := hr.below k2
  clear s1 k2
  simp only []
  go_wp2_with fail
  obtain ⟨Ar, cr, rfl⟩ := hr.slice
  refine (same_as (by simp only [List.length_cons] at hsm ⊢; omega) hs hr).mono ?_
  rintro e w3 ⟨rfl, k3⟩
  have s3 := s2.below k3
  replace hr := hr.below k3
  replace hs := hs.below k3
  clear s2 k3
  clear hs
  simp only []
  go_wp2_with fail
  refine (first_as hd1'.out s3.chn).mono ?_
  rintro e w4 ⟨rfl, k4⟩
  have s4 := s3.below k4
  replace hr := hr.below k4
  clear s3 k4
  simp only []
  go_wp2_with fail
  refine (last_as hd2'.out s4.chn).mono ?_
  rintro e w5 ⟨rfl, k5⟩
  have s5 := s4.below k5
  replace hr := hr.below k5
  clear s4 k5
  obtain ⟨Q, hQ⟩ : ∃ Q, Q = (y :: ys).length := ⟨_, rfl⟩
  have hQ0 : 0 < Q := by rw [hQ]; simp
  obtain ⟨ad, rfl, cy⟩ := hr.at 0 (by simp)
  obtain ⟨ad2, e2, cl⟩ := hr.at (Q - 1) (by omega)
  cases e2
  have hy0 : (y :: ys).getD 0 0 = y := rfl
  have hyl : (y :: ys).getD (Q - 1) 0 = ChainR.lst y ys := by
    have := lst_get 0 (y :: ys) (by simp)
    rw [hQ]; exact this.symm
  rw [hy0, Addr.add_zero'] at cy
  rw [hyl] at cl
  have hQb : Q ≤ 2048 := by rw [hQ]; omega
  have hQ' := Lib.hid hQ
  rw [← hQ]
  have i0 : ((Q : Int) == 0) = false := beq_eq_false_iff_ne.mpr (by omega)
  have i1 : decide (0 < Q) = true := decide_eq_true hQ0
  have i2 : (1 : Int) ≤ (Q : Int) := by omega
  have i3 : ((Q : Int) - 1).toNat = Q - 1 := by omega
  have i4 : (Q : Int) - 1 < (Q : Int) := by omega
  have i5 : (0 : Int) < (Q : Int) := by omega
  have i6 : (0 : Int) ≤ (Q : Int) - 1 := by omega
  have i7 : decide ((0 : Int) < (Q : Int)) = true := decide_eq_true i5
  clear hQ hy0 hyl
  simp only []
  go_wp2_with fail
  clear cy cl
  refine (next_as hn'.out s5.chn).mono ?_
  rintro e w5' ⟨rfl, rfl⟩
  have x0 := blk_cell s5.box 0
  have x1 := blk_cell s5.box 1
  simp only []
  go_wp2_with fail
  clear x0 x1
  refine (refBes_as (.inl rfl) hn'.out hfit s5.ref).mono ?_
  rintro e w6 ⟨rfl, k6⟩
  have s6 := s5.below k6
  replace hr := hr.below k6
  clear s5 k6
  simp only []
  go_wp2_with fail
  refine (prev_as hp'.out s6.chn).mono ?_
  rintro e w6' ⟨rfl, rfl⟩
  have x0 := blk_cell s6.box 0
  have x1 := blk_cell s6.box 1
  simp only []
  go_wp2_with fail
  clear x0 x1
  refine (refBes_as (.inr rfl) hp'.out hfit s6.ref).mono ?_
  rintro e w7 ⟨rfl, k7⟩
  have s7 := s6.below k7
  replace hr := hr.below k7
  clear s6 k7
  simp only []
  go_wp2_with fail
  refine (which_as hw'.out s7.chn).mono ?_
  rintro e w7' ⟨rfl, rfl⟩
  have x0 := blk_cell s7.box 0
  have x1 := blk_cell s7.box 1
  simp only []
  go_wp2_with fail
  clear x0 x1
  refine (refWhich_as hv'.out hfit s7.ref).mono ?_
  rintro e w8 ⟨rfl, kz⟩
  have s8 := s7.below kz
  clear kz
  simp only []
  go_wp2_with fail
  go_ret
  exact ⟨rfl, s8.bel⟩
set_option maxRecDepth 100000 in
set_option maxHeartbeats 4000000 in
theorem tells_consj (g b p : Nat) (x n1 n2 : Int) (b1 b2 : Bool) (y : Nat) (ys : List Nat) (j : Nat) (L : List (List Nat)) (P : Nat → Prop) (v : Value) (w : World) (h : Chn w g b p L) (hm : RefP w P v L) (hl : atL L x = y :: ys) (hn : mBes p L x 1 = (n1, b1)) (hp : mBes p L x (-1) = (n2, b2)) (hw : mWhich p L x = ((j : Int), true)) (hv : whI L x = (j : Int)) :
    Calls Try.prog 30 #[.pointer (some ⟨g, 0, none⟩), .agg #[.int .i64 (p : Int), v], .int .i64 x] w fun e w' => e = .returned (.bool true) ∧ Below w.heap.size w w' := by
  have hu27 := Try.underlying27
  have hfit := chn_fits h
  have hsm := chn_len h x
  have hsp := chn_small h
  rw [hl] at hsm
  have hl' := Lib.hid hl
  have hn' := Lib.hid hn
  have hp' := Lib.hid hp
  have hw' := Lib.hid hw
  have hv' := Lib.hid hv
  have hd1 : hdP (atL L x) = ((y : Int), true) := by rw [hl]; rfl
  have hd2 : ltP (atL L x) = ((ChainR.lst y ys : Int), true) := by rw [hl]; rfl
  have hd1' := Lib.hid hd1
  have hd2' := Lib.hid hd2
  clear hl hn hp hw hv hd1 hd2
  obtain ⟨A, c, rfl⟩ := hm.slice
  obtain ⟨N, hN⟩ : ∃ N, N = (LI L).length := ⟨_, rfl⟩
  rw [← hN] at hm ⊢
  clear hN
  have s0 : TS g b p L P (.slice A N c) w (w.alloc (.cells #[.int .i64 (p : Int), .slice A N c] 27)) :=
    ⟨h.alloc _, hm.alloc _, blk_new w (.cells #[.int .i64 (p : Int), .slice A N c] 27), (Below.refl _ w).alloc (Nat.le_refl _) _⟩
  go_enter Try.func30, Try.ntmps30
  go_wp2_with fail
  generalize w.alloc (.cells #[.int .i64 (p : Int), .slice A N c] 27) = w0 at *
  refine (refAll_as hl'.out s0.ref).mono ?_
  rintro e w1 ⟨r, rfl, hr, k1⟩
  have s1 := s0.below k1
  clear s0 k1
  simp only []
  go_wp2_with fail
  refine (all_as hl'.out s1.chn).mono ?_
  rintro e w2 ⟨s, rfl, hs, k2⟩
  have s2 := s1.below k2
  replace hr := hr.below k2
  clear s1 k2
  simp only []
  go_wp2_with fail
  obtain ⟨Ar, cr, rfl⟩ := hr.slice
  refine (same_as (by simp only [List.length_cons] at hsm ⊢; omega) hs hr).mono ?_
  rintro e w3 ⟨rfl, k3⟩
  have s3 := s2.below k3
  replace hr := hr.below k3
  replace hs := hs.below k3
  clear s2 k3
  clear hs
  simp only []
  go_wp2_with fail
  refine (first_as hd1'.out s3.chn).mono ?_
  rintro e w4 ⟨rfl, k4⟩
  have s4 := s3.below k4
  replace hr := hr.below k4
  clear s3 k4
  simp only []
  go_wp2_with fail
  refine (last_as hd2'.out s4.chn).mono ?_
  rintro e w5 ⟨rfl, k5⟩
  have s5 := s4.below k5
  replace hr := hr.below k5
  clear s4 k5
  obtain ⟨Q, hQ⟩ : ∃ Q, Q = (y :: ys).length := ⟨_, rfl⟩
  have hQ0 : 0 < Q := by rw [hQ]; simp
  obtain ⟨ad, rfl, cy⟩ := hr.at 0 (by simp)
  obtain ⟨ad2, e2, cl⟩ := hr.at (Q - 1) (by omega)
  cases e2
  have hy0 : (y :: ys).getD 0 0 = y := rfl
  have hyl : (y :: ys).getD (Q - 1) 0 = ChainR.lst y ys := by
    have := lst_get 0 (y :: ys) (by simp)
    rw [hQ]; exact this.symm
  rw [hy0, Addr.add_zero'] at cy
  rw [hyl] at cl
  have hQb : Q ≤ 2048 := by rw [hQ]; omega
  have hQ' := Lib.hid hQ
  rw [← hQ]
  have i0 : ((Q : Int) == 0) = false := beq_eq_false_iff_ne.mpr (by omega)
  have i1 : decide (0 < Q) = true := decide_eq_true hQ0
  have i2 : (1 : Int) ≤ (Q : Int) := by omega
  have i3 : ((Q : Int) - 1).toNat = Q - 1 := by omega
  have i4 : (Q : Int) - 1 < (Q : Int) := by omega
  have i5 : (0 : Int) < (Q : Int) := by omega
  have i6 : (0 : Int) ≤ (Q : Int) - 1 := by omega
  have i7 : decide ((0 : Int) < (Q : Int)) = true := decide_eq_true i5
  clear hQ hy0 hyl
  simp only []
  go_wp2_with fail
  clear cy cl
  refine (next_as hn'.out s5.chn).mono ?_
  rintro e w5' ⟨rfl, rfl⟩
  have x0 := blk_cell s5.box 0
  have x1 := blk_cell s5.box 1
  simp only []
  go_wp2_with fail
  clear x0 x1
  refine (refBes_as (.inl rfl) hn'.out hfit s5.ref).mono ?_
  rintro e w6 ⟨rfl, k6⟩
  have s6 := s5.below k6
  replace hr := hr.below k6
  clear s5 k6
  simp only []
  go_wp2_with fail
  refine (prev_as hp'.out s6.chn).mono ?_
  rintro e w6' ⟨rfl, rfl⟩
  have x0 := blk_cell s6.box 0
  have x1 := blk_cell s6.box 1
  simp only []
  go_wp2_with fail
  clear x0 x1
  refine (refBes_as (.inr rfl) hp'.out hfit s6.ref).mono ?_
  rintro e w7 ⟨rfl, k7⟩
  have s7 := s6.below k7
  replace hr := hr.below k7
  clear s6 k7
  simp only []
  go_wp2_with fail
  refine (which_as hw'.out s7.chn).mono ?_
  rintro e w7' ⟨rfl, rfl⟩
  have x0 := blk_cell s7.box 0
  have x1 := blk_cell s7.box 1
  simp only []
  go_wp2_with fail
  clear x0 x1
  refine (refWhich_as hv'.out hfit s7.ref).mono ?_
  rintro e w8 ⟨rfl, kz⟩
  have s8 := s7.below kz
  clear kz
  simp only []
  go_wp2_with fail
  go_ret
  exact ⟨rfl, s8.bel⟩
theorem wh_out {p : Nat} {L : List (List Nat)} {ns : List S62} (h : ChainS.Rep p L ns) {x : Nat} (hx : p ≤ x) : wh L x < 0 := by
  by_cases hw : wh L x < 0
  · exact hw
  · exfalso
    obtain ⟨j, hj⟩ : ∃ j : Nat, wh L x = j := ⟨(wh L x).toNat, by omega⟩
    obtain ⟨l, hl, hm⟩ := wh_mem L x j hj
    have := (h.mem j l x hl hm).1
    omega
theorem which_cases {w : World} {g b p : Nat} {L : List (List Nat)} (h : Chn w g b p L) (x : Int) : (mWhich p L x = (0, false) ∧ whI L x = -1) ∨ ∃ j : Nat, mWhich p L x = ((j : Int), true) ∧ whI L x = j := by
  obtain ⟨ns, _, hR⟩ := h
  unfold mWhich whI
  by_cases h1 : (0 ≤ x ∧ x < p) ∧ 0 ≤ wh L x.toNat
  · rw [if_pos h1, if_pos h1.1.1]
    exact .inr ⟨(wh L x.toNat).toNat, by rw [Int.toNat_of_nonneg h1.2], by omega⟩
  · rw [if_neg h1]
    refine .inl ⟨rfl, ?_⟩
    by_cases h0 : 0 ≤ x
    · rw [if_pos h0]
      have hr := wh_range L x.toNat
      by_cases hp : x < p
      · omega
      · have := wh_out hR (x := x.toNat) (by omega)
        omega
    · rw [if_neg h0]
theorem tells_calls (g b p : Nat) (x : Int) (L : List (List Nat)) (P : Nat → Prop) (v : Value) (w : World) (h : Chn w g b p L) (hm : RefP w P v L) :
    Calls Try.prog 30 #[.pointer (some ⟨g, 0, none⟩), .agg #[.int .i64 (p : Int), v], .int .i64 x] w fun e w' => e = .returned (.bool true) ∧ Below w.heap.size w w' := by
  rcases which_cases h x with ⟨h1, h2⟩ | ⟨j, h1, h2⟩
  · cases hl : atL L x with
    | nil => exact tells_nil0 g b p x _ _ _ _ L P v w h hm hl rfl rfl h1 h2
    | cons y ys => exact tells_cons0 g b p x _ _ _ _ y ys L P v w h hm hl rfl rfl h1 h2
  · cases hl : atL L x with
    | nil => exact tells_nilj g b p x _ _ _ _ j L P v w h hm hl rfl rfl h1 h2
    | cons y ys => exact tells_consj g b p x _ _ _ _ y ys j L P v w h hm hl rfl rfl h1 h2
set_option maxRecDepth 100000 in
set_option maxHeartbeats 4000000 in
theorem alike_calls (g b p : Nat) (x : Int) (L : List (List Nat)) (P : Nat → Prop) (v : Value) (w : World) (h : Chn w g b p L) (hm : RefP w P v L) :
    Calls Try.prog 11 #[.pointer (some ⟨g, 0, none⟩), .agg #[.int .i64 (p : Int), v], .int .i64 x] w fun e w' => e = .returned (.bool true) ∧ Below w.heap.size w w' := by
  have hu27 := Try.underlying27
  obtain ⟨A, c, rfl⟩ := hm.slice
  obtain ⟨N, hN⟩ : ∃ N, N = (LI L).length := ⟨_, rfl⟩
  rw [← hN] at hm ⊢
  clear hN
  have s0 : TS g b p L P (.slice A N c) w (w.alloc (.cells #[.int .i64 (p : Int), .slice A N c] 27)) :=
    ⟨h.alloc _, hm.alloc _, blk_new w (.cells #[.int .i64 (p : Int), .slice A N c] 27), (Below.refl _ w).alloc (Nat.le_refl _) _⟩
  go_enter Try.func11, Try.ntmps11
  go_wp2_with fail
  generalize w.alloc (.cells #[.int .i64 (p : Int), .slice A N c] 27) = w0 at *
  go_loopw [7] (fun i wr => ∃ k : Int, i = .int .i64 k ∧ -1 ≤ k ∧ k ≤ 12 ∧ TS g b p L P (.slice A N c) w wr) (fun i _ => (12 - intOf i).toNat)
  case atStart => exact ⟨-1, rfl, by omega, by omega, s0⟩
  case round =>
    obtain ⟨k, rfl, hk1, hk2, sk⟩ := hrel
    have x0 := blk_cell sk.box 0
    have x1 := blk_cell sk.box 1
    by_cases hlt : k < 12
    · have d0 : decide (k < 12) = true := decide_eq_true hlt
      go_wp2_with fail
      refine (tells_calls g b p k L P _ _ sk.chn sk.ref).mono ?_
      rintro e w1 ⟨rfl, k1⟩
      have s1 := sk.below k1
      clear x0 x1
      simp only []
      go_wp2_with fail
      go_roundw
      case rel => exact ⟨k + 1, rfl, by omega, by omega, s1⟩
      case measure => simp [intOf]; omega
    · have d0 : decide (k < 12) = false := decide_eq_false hlt
      go_wp2_with fail
      refine (tells_calls g b p x L P _ _ sk.chn sk.ref).mono ?_
      rintro e w1 ⟨rfl, k1⟩
      have s1 := sk.below k1
      clear x0 x1
      simp only []
      go_wp2_with fail
      go_ret
      exact ⟨rfl, s1.bel⟩
end Go.Proofs.Ytfnppjhkhdfmdaa.ChainU
