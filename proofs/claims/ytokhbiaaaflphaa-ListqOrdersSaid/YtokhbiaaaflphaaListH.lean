/-
  Queues in memory: an act at the document's own.
  No condition.
-/
import Derived.Test.YtokhbiaaaflphaaListG
namespace Go.Proofs.Ytokhbiaaaflphaa.ListH
open Go.Proofs.Ytokhbiaaaflphaa.ListG Go.RowKit Go.Shelf Go.Proofs.Ytokhbiaaaflphaa.ChainA Go.Proofs.Ytokhbiaaaflphaa.ListM Go.Proofs.Ytokhbiaaaflphaa.ListA Go.Proofs.Ytokhbiaaaflphaa.ListB Go.Proofs.Ytokhbiaaaflphaa.ListE Go.Proofs.Ytokhbiaaaflphaa.ListF Go.Proofs.Ytokhbiaaaflphaa.ListR Go.Proofs.Ytokhbiaaaflphaa.GListqPlays Go.Proofs.YtokhbiaaaflphaaW.PrintWords Go.Proofs.YtokhbiaaaflphaaW.PrintLast Go.Proofs.YtokhbiaaaflphaaW.PrintMore
set_option linter.unusedVariables false
set_option linter.unusedSimpArgs false
variable {w : World} {p : Nat} {P : Nat → Prop} {T : List S38} {v : Value}
def A4 (w : World) (p : Nat) (v : Value) (k f0 f1 f2 nw : Int) : World := (((w.alloc (.cells #[.int .i64 (p : Int), v] 27)).alloc (.cells #[.int .i64 k, .int .u64 f0, .int .u64 f1, .int .i64 f2, .int .u64 nw] 59)).alloc (.cells #[.int .i64 0, .slice none 0 0] 27)).alloc (.cells #[.int .i64 0, .int .u64 0, .int .u64 0, .int .i64 0, .slice none 0 0] 56)
theorem A4_ok (w : World) (p : Nat) (v : Value) (k f0 f1 f2 nw : Int) : (A4 w p v k f0 f1 f2 nw).heap[w.heap.size + 1 + 1]? = some (.cells #[.int .i64 0, .slice none 0 0] 27 (0, 0)) ∧
    (A4 w p v k f0 f1 f2 nw).heap[w.heap.size + 1 + 1 + 1]? = some (.cells #[.int .i64 0, .int .u64 0, .int .u64 0, .int .i64 0, .slice none 0 0] 56 (0, 0)) ∧ Below w.heap.size w (A4 w p v k f0 f1 f2 nw) ∧ (A4 w p v k f0 f1 f2 nw).heap.size = w.heap.size + 1 + 1 + 1 + 1 := by
  have y2 := World.alloc_heap_new ((w.alloc (.cells #[.int .i64 (p : Int), v] 27)).alloc (.cells #[.int .i64 k, .int .u64 f0, .int .u64 f1, .int .i64 f2, .int .u64 nw] 59)) (.cells #[.int .i64 0, .slice none 0 0] 27)
  have y3 := World.alloc_heap_new (((w.alloc (.cells #[.int .i64 (p : Int), v] 27)).alloc (.cells #[.int .i64 k, .int .u64 f0, .int .u64 f1, .int .i64 f2, .int .u64 nw] 59)).alloc (.cells #[.int .i64 0, .slice none 0 0] 27)) (.cells #[.int .i64 0, .int .u64 0, .int .u64 0, .int .i64 0, .slice none 0 0] 56)
  simp only [World.size_alloc] at y2 y3
  exact ⟨blk_alloc y2 _, y3, ((((Below.refl _ w).alloc (Nat.le_refl _) _).alloc (by simp) _).alloc (by simp; omega) _).alloc (by simp; omega) _, by simp [A4]⟩
def RDoPost (p : Nat) (P : Nat → Prop) (w : World) (r : Td) (e : Ending) (w' : World) : Prop := ∃ v' u, e = .returned (.tuple #[.agg #[.int .i64 (p : Int), v'], tov r.e r.t u]) ∧ RP w' (fun k => P k ∨ w.heap.size ≤ k) v' r.T ∧ RP w' (fun k => w.heap.size ≤ k) u r.d ∧ Below w.heap.size w w'
theorem far2 {W : World} {k i : Nat} (hi : i ≠ k) (a b : Value) : ((W.setCell ⟨k, 0, none⟩ a).setCell ⟨k, 1, none⟩ b).heap[i]? = W.heap[i]? := by
  rw [Below.heap_setCell _ _ _ i hi, Below.heap_setCell _ _ _ i hi]
theorem rp2 {W : World} {k : Nat} (h : RP W P v T) (hk : ∀ i, P i → i ≠ k) (a b : Value) : RP ((W.setCell ⟨k, 0, none⟩ a).setCell ⟨k, 1, none⟩ b) P v T :=
  rp_far (rp_far h hk 0 a) hk 1 b
set_option maxRecDepth 100000 in
set_option maxHeartbeats 4000000 in
theorem rdo0 (t : S38) (nw : Int) (h : RP w P v T) (hl : T.length ≤ 2048) : Calls Try.prog 23 #[.agg #[.int .i64 (p : Int), v], acv 0 t nw] w (RDoPost p P w (mDo p T 0 t nw)) := by
  obtain ⟨f0, f1, f2⟩ := t
  obtain ⟨A, c, rfl⟩ := rp_slice h
  obtain ⟨N, hN⟩ : ∃ N, N = T.length := ⟨_, rfl⟩
  rw [← hN] at h ⊢
  clear hN
  have hbd := rp_bound h
  obtain ⟨y2, y3, hB, hs⟩ := A4_ok w p (.slice A N c) 0 f0 f1 f2 nw
  have hr := rp_below hbd hB
  simp only [acv]
  go_enter Try.func23, Try.ntmps23
  go_wp2_with fail
  go_at_call 38
  refine (refIns ⟨f0, f1, f2⟩ hr hl).mono ?_
  rintro e w1 ⟨v', rfl, hrv0, hb⟩
  obtain ⟨T2, c2, hmi⟩ : ∃ T2 c2, ListM.mIn p T ⟨f0, f1, f2⟩ = (T2, c2) := ⟨_, _, rfl⟩
  have hmd : mDo p T 0 ⟨f0, f1, f2⟩ nw = ⟨T2, c2, z38, []⟩ := by
    have : mDo p T 0 ⟨f0, f1, f2⟩ nw = ⟨(ListM.mIn p T ⟨f0, f1, f2⟩).1, (ListM.mIn p T ⟨f0, f1, f2⟩).2, z38, []⟩ := rfl
    rw [this, hmi]
  rw [hmi] at hrv0 ⊢
  simp only [] at hrv0
  obtain ⟨A1, c1, rfl⟩ := rp_slice hrv0
  obtain ⟨N1, hN1⟩ : ∃ N1, N1 = T2.length := ⟨_, rfl⟩
  rw [← hN1] at hrv0 ⊢
  have hmd' := Lib.hid hmd
  clear hmi hN1 hmd
  have z2 := below_blk hb y2 (by omega)
  have z3 := below_blk hb y3 (by omega)
  have hs1 : w.heap.size + 1 + 1 + 1 + 1 ≤ w1.heap.size := by have := hb.size; omega
  have hB1 := hB.trans (hb.mono hB.size)
  have hrv := rp_alloc hrv0 (.cells #[.int .i64 (p : Int), .slice A1 N1 c1] 27)
  replace z2 := blk_alloc z2 (.cells #[.int .i64 (p : Int), .slice A1 N1 c1] 27)
  replace z3 := blk_alloc z3 (.cells #[.int .i64 (p : Int), .slice A1 N1 c1] 27)
  replace hB1 := hB1.alloc hB1.size (.cells #[.int .i64 (p : Int), .slice A1 N1 c1] 27)
  obtain ⟨a0, a1⟩ := cell_of2 z2
  obtain ⟨⟨⟨⟨a2, a3⟩, a4⟩, a5⟩, a6⟩ := cell_of5 z3
  have b0 := blk_frozen z2 0
  have b1 := blk_frozen z2 1
  obtain ⟨⟨⟨⟨b2, b3⟩, b4⟩, b5⟩, b6⟩ := froz5 z3
  have hle2 : w.heap.size ≤ w.heap.size + 1 + 1 := by omega
  have hle3 : w.heap.size ≤ w.heap.size + 1 + 1 + 1 := by omega
  have n23 : w.heap.size + 1 + 1 ≠ w.heap.size + 1 + 1 + 1 := by omega
  have n32 : w.heap.size + 1 + 1 + 1 ≠ w.heap.size + 1 + 1 := by omega
  have q2 := Lib.hid z2
  have q3 := Lib.hid z3
  have hs' := Lib.hid hs
  have hs1' := Lib.hid hs1
  clear hb y2 y3 hs hs1 z2 z3 hB
  generalize A4 w p (.slice A N c) 0 f0 f1 f2 nw = W0 at *
  simp only [tv]
  go_wp2_with fail

  have w3 := put5 ((far2 n32 (.int .i64 (p : Int)) (.slice A1 N1 c1)).trans q3.out) (.int .i64 c2) (.int .u64 0) (.int .u64 0) (.int .i64 0) (.slice none 0 0)
  have w2 := (far5 n23 (.int .i64 c2) (.int .u64 0) (.int .u64 0) (.int .i64 0) (.slice none 0 0)).trans (put2 q2.out (.int .i64 (p : Int)) (.slice A1 N1 c1))
  have xx := cell_of5 w3
  have xy := cell_of2 w2
  refine bodyPost_ret (v := .tuple #[.agg #[.int .i64 (p : Int), (.slice A1 N1 c1)], tov c2 ⟨0, 0, 0⟩ (.slice none 0 0)]) (by simp [results, Try.f23, go_sem, xx, xy, tov]) rfl ?_
  have hs := hs'.out
  have hs1 := hs1'.out
  rw [hmd'.out]
  refine ⟨_, _, rfl, ?_, rp_nil _ _, below5 (below_put2 hB1 hle2 _ _) hle3 _ _ _ _ _⟩
  exact rp_mono (rp5 (rp2 hrv (fun i hi => by omega) _ _) (fun i hi => by omega) _ _ _ _ _) (fun i hi => by rcases hi with ⟨hi, _⟩ | hi; exact .inl hi; exact .inr (by omega))
set_option maxRecDepth 100000 in
set_option maxHeartbeats 4000000 in
theorem rdo2 (t : S38) (nw : Int) (h : RP w P v T) (hl : T.length ≤ 2048) : Calls Try.prog 23 #[.agg #[.int .i64 (p : Int), v], acv 2 t nw] w (RDoPost p P w (mDo p T 2 t nw)) := by
  obtain ⟨f0, f1, f2⟩ := t
  obtain ⟨A, c, rfl⟩ := rp_slice h
  obtain ⟨N, hN⟩ : ∃ N, N = T.length := ⟨_, rfl⟩
  rw [← hN] at h ⊢
  clear hN
  have hbd := rp_bound h
  obtain ⟨y2, y3, hB, hs⟩ := A4_ok w p (.slice A N c) 2 f0 f1 f2 nw
  have hr := rp_below hbd hB
  simp only [acv]
  go_enter Try.func23, Try.ntmps23
  go_wp2_with fail
  go_at_call 40
  refine (refMov ⟨f0, f1, f2⟩ hr hl).mono ?_
  rintro e w1 ⟨v', rfl, hrv0, hb⟩
  obtain ⟨T2, c2, hmi⟩ : ∃ T2 c2, ListM.mMov p T ⟨f0, f1, f2⟩ = (T2, c2) := ⟨_, _, rfl⟩
  have hmd : mDo p T 2 ⟨f0, f1, f2⟩ nw = ⟨T2, c2, z38, []⟩ := by
    have : mDo p T 2 ⟨f0, f1, f2⟩ nw = ⟨(ListM.mMov p T ⟨f0, f1, f2⟩).1, (ListM.mMov p T ⟨f0, f1, f2⟩).2, z38, []⟩ := rfl
    rw [this, hmi]
  rw [hmi] at hrv0 ⊢
  simp only [] at hrv0
  obtain ⟨A1, c1, rfl⟩ := rp_slice hrv0
  obtain ⟨N1, hN1⟩ : ∃ N1, N1 = T2.length := ⟨_, rfl⟩
  rw [← hN1] at hrv0 ⊢
  have hmd' := Lib.hid hmd
  clear hmi hN1 hmd
  have z2 := below_blk hb y2 (by omega)
  have z3 := below_blk hb y3 (by omega)
  have hs1 : w.heap.size + 1 + 1 + 1 + 1 ≤ w1.heap.size := by have := hb.size; omega
  have hB1 := hB.trans (hb.mono hB.size)
  have hrv := rp_alloc hrv0 (.cells #[.int .i64 (p : Int), .slice A1 N1 c1] 27)
  replace z2 := blk_alloc z2 (.cells #[.int .i64 (p : Int), .slice A1 N1 c1] 27)
  replace z3 := blk_alloc z3 (.cells #[.int .i64 (p : Int), .slice A1 N1 c1] 27)
  replace hB1 := hB1.alloc hB1.size (.cells #[.int .i64 (p : Int), .slice A1 N1 c1] 27)
  obtain ⟨a0, a1⟩ := cell_of2 z2
  obtain ⟨⟨⟨⟨a2, a3⟩, a4⟩, a5⟩, a6⟩ := cell_of5 z3
  have b0 := blk_frozen z2 0
  have b1 := blk_frozen z2 1
  obtain ⟨⟨⟨⟨b2, b3⟩, b4⟩, b5⟩, b6⟩ := froz5 z3
  have hle2 : w.heap.size ≤ w.heap.size + 1 + 1 := by omega
  have hle3 : w.heap.size ≤ w.heap.size + 1 + 1 + 1 := by omega
  have n23 : w.heap.size + 1 + 1 ≠ w.heap.size + 1 + 1 + 1 := by omega
  have n32 : w.heap.size + 1 + 1 + 1 ≠ w.heap.size + 1 + 1 := by omega
  have q2 := Lib.hid z2
  have q3 := Lib.hid z3
  have hs' := Lib.hid hs
  have hs1' := Lib.hid hs1
  clear hb y2 y3 hs hs1 z2 z3 hB
  generalize A4 w p (.slice A N c) 2 f0 f1 f2 nw = W0 at *
  simp only [tv]
  go_wp2_with fail

  have w3 := put5 ((far2 n32 (.int .i64 (p : Int)) (.slice A1 N1 c1)).trans q3.out) (.int .i64 c2) (.int .u64 0) (.int .u64 0) (.int .i64 0) (.slice none 0 0)
  have w2 := (far5 n23 (.int .i64 c2) (.int .u64 0) (.int .u64 0) (.int .i64 0) (.slice none 0 0)).trans (put2 q2.out (.int .i64 (p : Int)) (.slice A1 N1 c1))
  have xx := cell_of5 w3
  have xy := cell_of2 w2
  refine bodyPost_ret (v := .tuple #[.agg #[.int .i64 (p : Int), (.slice A1 N1 c1)], tov c2 ⟨0, 0, 0⟩ (.slice none 0 0)]) (by simp [results, Try.f23, go_sem, xx, xy, tov]) rfl ?_
  have hs := hs'.out
  have hs1 := hs1'.out
  rw [hmd'.out]
  refine ⟨_, _, rfl, ?_, rp_nil _ _, below5 (below_put2 hB1 hle2 _ _) hle3 _ _ _ _ _⟩
  exact rp_mono (rp5 (rp2 hrv (fun i hi => by omega) _ _) (fun i hi => by omega) _ _ _ _ _) (fun i hi => by rcases hi with ⟨hi, _⟩ | hi; exact .inl hi; exact .inr (by omega))
set_option maxRecDepth 100000 in
set_option maxHeartbeats 4000000 in
theorem rdo1 (t : S38) (nw : Int) (h : RP w P v T) (hl : T.length ≤ 2048) : Calls Try.prog 23 #[.agg #[.int .i64 (p : Int), v], acv 1 t nw] w (RDoPost p P w (mDo p T 1 t nw)) := by
  obtain ⟨f0, f1, f2⟩ := t
  obtain ⟨A, c, rfl⟩ := rp_slice h
  obtain ⟨N, hN⟩ : ∃ N, N = T.length := ⟨_, rfl⟩
  rw [← hN] at h ⊢
  clear hN
  have hbd := rp_bound h
  obtain ⟨y2, y3, hB, hs⟩ := A4_ok w p (.slice A N c) 1 f0 f1 f2 nw
  have hr := rp_below hbd hB
  simp only [acv]
  go_enter Try.func23, Try.ntmps23
  go_wp2_with fail
  go_at_call 39
  refine (refCan f2 hr hl).mono ?_
  rintro e w1 ⟨v', rfl, hrv0, hb⟩
  obtain ⟨T2, ⟨r0, r1, r2⟩, c2, hmi⟩ : ∃ T2 r c2, ListM.mCan p T f2 = (T2, r, c2) := ⟨_, _, _, rfl⟩
  have hmd : mDo p T 1 ⟨f0, f1, f2⟩ nw = ⟨T2, c2, ⟨r0, r1, r2⟩, []⟩ := by
    have : mDo p T 1 ⟨f0, f1, f2⟩ nw = ⟨(ListM.mCan p T f2).1, (ListM.mCan p T f2).2.2, (ListM.mCan p T f2).2.1, []⟩ := rfl
    rw [this, hmi]
  rw [hmi] at hrv0 ⊢
  simp only [] at hrv0
  obtain ⟨A1, c1, rfl⟩ := rp_slice hrv0
  obtain ⟨N1, hN1⟩ : ∃ N1, N1 = T2.length := ⟨_, rfl⟩
  rw [← hN1] at hrv0 ⊢
  have hmd' := Lib.hid hmd
  clear hmi hN1 hmd
  have z2 := below_blk hb y2 (by omega)
  have z3 := below_blk hb y3 (by omega)
  have hs1 : w.heap.size + 1 + 1 + 1 + 1 ≤ w1.heap.size := by have := hb.size; omega
  have hB1 := hB.trans (hb.mono hB.size)
  have k8 := blk_alloc (World.alloc_heap_new w1 (.cells #[.int .i64 (p : Int), .slice A1 N1 c1] 27)) (.cells #[.int .u64 r0, .int .u64 r1, .int .i64 r2] 38)
  have k9 := World.alloc_heap_new (w1.alloc (.cells #[.int .i64 (p : Int), .slice A1 N1 c1] 27)) (.cells #[.int .u64 r0, .int .u64 r1, .int .i64 r2] 38)
  rw [World.size_alloc] at k9
  obtain ⟨j0, j1⟩ := cell_of2 k8
  obtain ⟨⟨j2, j3⟩, j4⟩ := cell_of3 k9
  have hrv := rp_alloc (rp_alloc hrv0 (.cells #[.int .i64 (p : Int), .slice A1 N1 c1] 27)) (.cells #[.int .u64 r0, .int .u64 r1, .int .i64 r2] 38)
  replace z2 := blk_alloc (blk_alloc z2 (.cells #[.int .i64 (p : Int), .slice A1 N1 c1] 27)) (.cells #[.int .u64 r0, .int .u64 r1, .int .i64 r2] 38)
  replace z3 := blk_alloc (blk_alloc z3 (.cells #[.int .i64 (p : Int), .slice A1 N1 c1] 27)) (.cells #[.int .u64 r0, .int .u64 r1, .int .i64 r2] 38)
  replace hB1 := (hB1.alloc hB1.size (.cells #[.int .i64 (p : Int), .slice A1 N1 c1] 27)).alloc (by have := hB1.size; simp; omega) (.cells #[.int .u64 r0, .int .u64 r1, .int .i64 r2] 38)
  have g0 : w1.heap.size + 1 ≠ w.heap.size + 1 + 1 := by omega
  have g1 : w.heap.size + 1 + 1 ≠ w1.heap.size + 1 := by omega
  have g2 : w1.heap.size ≠ w.heap.size + 1 + 1 := by omega
  have g3 : w.heap.size + 1 + 1 ≠ w1.heap.size := by omega
  have g4 : w1.heap.size ≠ w.heap.size + 1 := by omega
  have g5 : w.heap.size + 1 ≠ w1.heap.size := by omega
  have g6 : w1.heap.size + 1 ≠ w.heap.size + 1 + 1 + 1 := by omega
  have g7 : w.heap.size + 1 + 1 + 1 ≠ w1.heap.size + 1 := by omega
  have g8 : w1.heap.size ≠ w.heap.size + 1 + 1 + 1 := by omega
  have g9 : w.heap.size + 1 + 1 + 1 ≠ w1.heap.size := by omega
  clear k8 k9
  obtain ⟨a0, a1⟩ := cell_of2 z2
  obtain ⟨⟨⟨⟨a2, a3⟩, a4⟩, a5⟩, a6⟩ := cell_of5 z3
  have b0 := blk_frozen z2 0
  have b1 := blk_frozen z2 1
  obtain ⟨⟨⟨⟨b2, b3⟩, b4⟩, b5⟩, b6⟩ := froz5 z3
  have hle2 : w.heap.size ≤ w.heap.size + 1 + 1 := by omega
  have hle3 : w.heap.size ≤ w.heap.size + 1 + 1 + 1 := by omega
  have n23 : w.heap.size + 1 + 1 ≠ w.heap.size + 1 + 1 + 1 := by omega
  have n32 : w.heap.size + 1 + 1 + 1 ≠ w.heap.size + 1 + 1 := by omega
  have q2 := Lib.hid z2
  have q3 := Lib.hid z3
  have hs' := Lib.hid hs
  have hs1' := Lib.hid hs1
  clear hb y2 y3 hs hs1 z2 z3 hB
  generalize A4 w p (.slice A N c) 1 f0 f1 f2 nw = W0 at *
  simp only [tv]
  go_wp2_with fail
  have n2l : w.heap.size + 1 + 1 < w.heap.size + 1 + 1 + 1 := by omega
  generalize ((w1.alloc (.cells #[.int .i64 (p : Int), .slice A1 N1 c1] 27)).alloc (.cells #[.int .u64 r0, .int .u64 r1, .int .i64 r2] 38)) = W4 at *
  generalize w.heap.size + 1 + 1 + 1 = s3 at *
  generalize w.heap.size + 1 + 1 = s2 at *
  generalize w1.heap.size + 1 = u9 at *
  clear g2 g3 g4 g5 g8 g9
  go_region
  go_wp2_with fail
  have w3 := put5 ((far2 n32 (.int .i64 (p : Int)) (.slice A1 N1 c1)).trans q3.out) (.int .i64 c2) (.int .u64 r0) (.int .u64 r1) (.int .i64 r2) (.slice none 0 0)
  have w2 := (far5 n23 (.int .i64 c2) (.int .u64 r0) (.int .u64 r1) (.int .i64 r2) (.slice none 0 0)).trans (put2 q2.out (.int .i64 (p : Int)) (.slice A1 N1 c1))
  have xx := cell_of5 (blk_drew w3)
  have xy := cell_of2 (blk_drew w2)
  refine bodyPost_ret (v := .tuple #[.agg #[.int .i64 (p : Int), (.slice A1 N1 c1)], tov c2 ⟨r0, r1, r2⟩ (.slice none 0 0)]) (by simp [results, Try.f23, go_sem, xx, xy, tov]) rfl ?_
  have hs := hs'.out
  have hs1 := hs1'.out
  rw [hmd'.out]
  refine ⟨_, _, rfl, ?_, rp_nil _ _, Below.drew (below5 (below_put2 hB1 hle2 _ _) hle3 _ _ _ _ _)⟩
  exact rp_mono (rp_drew (rp5 (rp2 hrv (fun i hi => by omega) _ _) (fun i hi => by omega) _ _ _ _ _)) (fun i hi => by rcases hi with ⟨hi, _⟩ | hi; exact .inl hi; exact .inr (by omega))
set_option maxRecDepth 100000 in
set_option maxHeartbeats 4000000 in
theorem rdo3 (t : S38) (nw : Int) (h : RP w P v T) (hl : T.length ≤ 2048) : Calls Try.prog 23 #[.agg #[.int .i64 (p : Int), v], acv 3 t nw] w (RDoPost p P w (mDo p T 3 t nw)) := by
  obtain ⟨f0, f1, f2⟩ := t
  obtain ⟨A, c, rfl⟩ := rp_slice h
  obtain ⟨N, hN⟩ : ∃ N, N = T.length := ⟨_, rfl⟩
  rw [← hN] at h ⊢
  clear hN
  have hbd := rp_bound h
  obtain ⟨y2, y3, hB, hs⟩ := A4_ok w p (.slice A N c) 3 f0 f1 f2 nw
  have hr := rp_below hbd hB
  simp only [acv]
  go_enter Try.func23, Try.ntmps23
  go_wp2_with fail
  go_at_call 41
  refine (refDue nw hr hl).mono ?_
  rintro e w1 ⟨v', u', rfl, hrv0, hru0, hb⟩
  have hmd : mDo p T 3 ⟨f0, f1, f2⟩ nw = ⟨restT T nw, 0, z38, dueT T nw⟩ := rfl
  obtain ⟨T2, hT2⟩ : ∃ T2, restT T nw = T2 := ⟨_, rfl⟩
  obtain ⟨T3, hT3⟩ : ∃ T3, dueT T nw = T3 := ⟨_, rfl⟩
  rw [hT2] at hrv0 hmd
  rw [hT3] at hru0 hmd
  have hrv1 : RP w1 (fun k => (P k ∧ k < w.heap.size) ∨ (A4 w p (.slice A N c) 3 f0 f1 f2 nw).heap.size ≤ k) v' T2 := rp_mono hrv0 (fun _ hk => .inr hk)
  obtain ⟨A1, c1, rfl⟩ := rp_slice hrv0
  obtain ⟨A2, cc2, rfl⟩ := rp_slice hru0
  obtain ⟨N1, hN1⟩ : ∃ N1, N1 = T2.length := ⟨_, rfl⟩
  rw [← hN1] at hrv0 hrv1 ⊢
  obtain ⟨N2, hN2⟩ : ∃ N2, N2 = T3.length := ⟨_, rfl⟩
  rw [← hN2] at hru0 ⊢
  have hmd' := Lib.hid hmd
  clear hT2 hT3 hN1 hN2 hmd
  have z2 := below_blk hb y2 (by omega)
  have z3 := below_blk hb y3 (by omega)
  have hs1 : w.heap.size + 1 + 1 + 1 + 1 ≤ w1.heap.size := by have := hb.size; omega
  have hB1 := hB.trans (hb.mono hB.size)
  have hrv := rp_alloc hrv1 (.cells #[.int .i64 (p : Int), .slice A1 N1 c1] 27)
  replace z2 := blk_alloc z2 (.cells #[.int .i64 (p : Int), .slice A1 N1 c1] 27)
  replace z3 := blk_alloc z3 (.cells #[.int .i64 (p : Int), .slice A1 N1 c1] 27)
  replace hB1 := hB1.alloc hB1.size (.cells #[.int .i64 (p : Int), .slice A1 N1 c1] 27)
  have hru := rp_alloc hru0 (.cells #[.int .i64 (p : Int), .slice A1 N1 c1] 27)
  obtain ⟨a0, a1⟩ := cell_of2 z2
  obtain ⟨⟨⟨⟨a2, a3⟩, a4⟩, a5⟩, a6⟩ := cell_of5 z3
  have b0 := blk_frozen z2 0
  have b1 := blk_frozen z2 1
  obtain ⟨⟨⟨⟨b2, b3⟩, b4⟩, b5⟩, b6⟩ := froz5 z3
  have hle2 : w.heap.size ≤ w.heap.size + 1 + 1 := by omega
  have hle3 : w.heap.size ≤ w.heap.size + 1 + 1 + 1 := by omega
  have n23 : w.heap.size + 1 + 1 ≠ w.heap.size + 1 + 1 + 1 := by omega
  have n32 : w.heap.size + 1 + 1 + 1 ≠ w.heap.size + 1 + 1 := by omega
  have q2 := Lib.hid z2
  have q3 := Lib.hid z3
  have hs' := Lib.hid hs
  have hs1' := Lib.hid hs1
  clear hb y2 y3 hs hs1 z2 z3 hB
  generalize A4 w p (.slice A N c) 3 f0 f1 f2 nw = W0 at *
  simp only [tv]
  go_wp2_with fail

  have w3 := put5 ((far2 n32 (.int .i64 (p : Int)) (.slice A1 N1 c1)).trans q3.out) (.int .i64 0) (.int .u64 0) (.int .u64 0) (.int .i64 0) (.slice A2 N2 cc2)
  have w2 := (far5 n23 (.int .i64 0) (.int .u64 0) (.int .u64 0) (.int .i64 0) (.slice A2 N2 cc2)).trans (put2 q2.out (.int .i64 (p : Int)) (.slice A1 N1 c1))
  have xx := cell_of5 w3
  have xy := cell_of2 w2
  refine bodyPost_ret (v := .tuple #[.agg #[.int .i64 (p : Int), (.slice A1 N1 c1)], tov 0 ⟨0, 0, 0⟩ (.slice A2 N2 cc2)]) (by simp [results, Try.f23, go_sem, xx, xy, tov]) rfl ?_
  have hs := hs'.out
  have hs1 := hs1'.out
  rw [hmd'.out]
  refine ⟨_, _, rfl, ?_, rp_mono (rp5 (rp2 hru (fun i hi => by omega) _ _) (fun i hi => by omega) _ _ _ _ _) (fun i hi => by omega), below5 (below_put2 hB1 hle2 _ _) hle3 _ _ _ _ _⟩
  exact rp_mono (rp5 (rp2 hrv (fun i hi => by omega) _ _) (fun i hi => by omega) _ _ _ _ _) (fun i hi => by rcases hi with ⟨hi, _⟩ | hi; exact .inl hi; exact .inr (by omega))
set_option maxRecDepth 100000 in
set_option maxHeartbeats 4000000 in
theorem rdo9 (k : Int) (t : S38) (nw : Int) (h : RP w P v T) (h0 : k ≠ 0) (h1 : k ≠ 1) (h2' : k ≠ 2) (h3 : k ≠ 3) : Calls Try.prog 23 #[.agg #[.int .i64 (p : Int), v], acv k t nw] w (RDoPost p P w (mDo p T k t nw)) := by
  obtain ⟨f0, f1, f2⟩ := t
  obtain ⟨A, c, rfl⟩ := rp_slice h
  obtain ⟨N, hN⟩ : ∃ N, N = T.length := ⟨_, rfl⟩
  rw [← hN] at h ⊢
  clear hN
  have d0 : (k == 0) = false := beq_eq_false_iff_ne.mpr h0
  have d1 : (k == 1) = false := beq_eq_false_iff_ne.mpr h1
  have d2 : (k == 2) = false := beq_eq_false_iff_ne.mpr h2'
  have d3 : (k == 3) = false := beq_eq_false_iff_ne.mpr h3
  have hmd : mDo p T k ⟨f0, f1, f2⟩ nw = ⟨T, 0, z38, []⟩ := by unfold mDo; rw [if_neg h0, if_neg h1, if_neg h2', if_neg h3]
  rw [hmd]
  simp only [acv]
  have y2 := World.alloc_heap_new ((w.alloc (.cells #[.int .i64 (p : Int), .slice A N c] 27)).alloc (.cells #[.int .i64 k, .int .u64 f0, .int .u64 f1, .int .i64 f2, .int .u64 nw] 59)) (.cells #[.int .i64 (p : Int), .slice A N c] 27)
  have y3 := World.alloc_heap_new (((w.alloc (.cells #[.int .i64 (p : Int), .slice A N c] 27)).alloc (.cells #[.int .i64 k, .int .u64 f0, .int .u64 f1, .int .i64 f2, .int .u64 nw] 59)).alloc (.cells #[.int .i64 (p : Int), .slice A N c] 27)) (.cells #[.int .i64 0, .int .u64 0, .int .u64 0, .int .i64 0, .slice none 0 0] 56)
  simp only [World.size_alloc] at y2 y3
  have hB : Below w.heap.size w ((((w.alloc (.cells #[.int .i64 (p : Int), .slice A N c] 27)).alloc (.cells #[.int .i64 k, .int .u64 f0, .int .u64 f1, .int .i64 f2, .int .u64 nw] 59)).alloc (.cells #[.int .i64 (p : Int), .slice A N c] 27)).alloc (.cells #[.int .i64 0, .int .u64 0, .int .u64 0, .int .i64 0, .slice none 0 0] 56)) := ((((Below.refl _ w).alloc (Nat.le_refl _) _).alloc (by simp) _).alloc (by simp; omega) _).alloc (by simp; omega) _
  have xx := cell_of5 y3
  have xy := cell_of2 (blk_alloc y2 (.cells #[.int .i64 0, .int .u64 0, .int .u64 0, .int .i64 0, .slice none 0 0] 56))
  go_enter Try.func23, Try.ntmps23
  go_wp2_with fail
  refine bodyPost_ret (v := .tuple #[.agg #[.int .i64 (p : Int), .slice A N c], tov 0 z38 (.slice none 0 0)]) (by simp [results, Try.f23, go_sem, xx, xy, tov, z38]) rfl ?_
  exact ⟨_, _, rfl, rp_mono (rp_below h hB) (fun _ hk => .inl hk), rp_nil _ _, hB⟩
theorem rdo_T (k : Int) (t : S38) (nw : Int) (h : RP w P v T) (hl : T.length ≤ 2048) : Calls Try.prog 23 #[.agg #[.int .i64 (p : Int), v], acv k t nw] w (RDoPost p P w (mDo p T k t nw)) := by
  by_cases h0 : k = 0
  · subst h0; exact rdo0 t nw h hl
  by_cases h1 : k = 1
  · subst h1; exact rdo1 t nw h hl
  by_cases h2 : k = 2
  · subst h2; exact rdo2 t nw h hl
  by_cases h3 : k = 3
  · subst h3; exact rdo3 t nw h hl
  exact rdo9 k t nw h h0 h1 h2 h3
end Go.Proofs.Ytokhbiaaaflphaa.ListH
