/-
  The document's own queue in memory: what each of its acts answers and leaves.
  No condition.
-/
import Derived.Test.YtokhbiaaaflphaaListF
namespace Go.Proofs.Ytokhbiaaaflphaa.ListR
open Go.RowKit Go.Shelf Go.Proofs.Ytokhbiaaaflphaa.ChainA Go.Proofs.Ytokhbiaaaflphaa.ListM Go.Proofs.Ytokhbiaaaflphaa.ListA Go.Proofs.Ytokhbiaaaflphaa.ListB Go.Proofs.Ytokhbiaaaflphaa.ListF Go.Proofs.Ytokhbiaaaflphaa.GListqPlays Go.Proofs.YtokhbiaaaflphaaW.PrintWords Go.Proofs.YtokhbiaaaflphaaW.PrintLast Go.Proofs.YtokhbiaaaflphaaW.PrintMore
set_option linter.unusedVariables false
set_option linter.unusedSimpArgs false
variable {w : World} {p : Nat} {P : Nat → Prop} {T : List S38} {v : Value}
/-- A row of timers in blocks of which P holds. -/
def RP (w : World) (P : Nat → Prop) (v : Value) (T : List S38) : Prop := Kd.V k38 38 w 0 P v T
theorem rp_below {w' : World} (h : RP w P v T) (k : Below w.heap.size w w') : RP w' P v T := Kd.V_below h k
theorem rp_alloc (h : RP w P v T) (o : Obj) : RP (w.alloc o) P v T := Kd.V_alloc h o
theorem rp_drew (h : RP w P v T) : RP w.drew P v T := Kd.V_drew h
theorem rp_slice (h : RP w P v T) : ∃ A c, v = .slice A T.length c := Kd.V_slice h
theorem rp_mono {Q : Nat → Prop} (h : RP w P v T) (hq : ∀ k, P k → Q k) : RP w Q v T := Kd.V_mono h hq
theorem rp_bound (h : RP w P v T) : RP w (fun k => P k ∧ k < w.heap.size) v T := Kd.V_bound h
theorem rp_far (h : RP w P v T) {B : Nat} (hB : ∀ k, P k → k ≠ B) (j : Nat) (u : Value) : RP (w.setCell ⟨B, j, none⟩ u) P v T :=
  Kd.V_step h (fun i hi hl => Below.heap_setCell _ _ _ i (hB i hi))
theorem put2 {W : World} {k : Nat} {x y : Value} {t : TypeId} (h : W.heap[k]? = some (.cells #[x, y] t (0, 0))) (a b : Value) : ((W.setCell ⟨k, 0, none⟩ a).setCell ⟨k, 1, none⟩ b).heap[k]? = some (.cells #[a, b] t (0, 0)) :=
  blk_put (blk_put h 0 a rfl) 1 b rfl
theorem cell_of2 {W : World} {k : Nat} {x y : Value} {t : TypeId} (h : W.heap[k]? = some (.cells #[x, y] t (0, 0))) : W.cell? ⟨k, 0, none⟩ = some x ∧ W.cell? ⟨k, 1, none⟩ = some y := ⟨blk_cell h 0, blk_cell h 1⟩
theorem below_put2 {m k : Nat} {w W : World} (h : Below m w W) (hk : m ≤ k) (a b : Value) : Below m w ((W.setCell ⟨k, 0, none⟩ a).setCell ⟨k, 1, none⟩ b) :=
  (h.setCell (p := ⟨k, 0, none⟩) hk a).setCell (p := ⟨k, 1, none⟩) hk b
theorem rt_len (h : RP w P v T) : ∃ A c, v = .slice A T.length c ∧ T.length ≤ c ∧ Kd.C k38 w A T.length T := by
  obtain ⟨A, c, rfl⟩ := rp_slice h
  have := Kd.V_reads' h
  exact ⟨A, c, rfl, this.2.1, this.2.2⟩
def z38c : Array Value := #[.int .u64 0, .int .u64 0, .int .i64 0]
def qv (p : Nat) (v : Value) : Value := .agg #[.int .i64 (p : Int), v]
theorem rp_new {base : Nat} {ok : Nat → Prop} (h : Kd.R k38 38 w base ok v T) : RP w (fun k => base ≤ k) v T := Kd.V_mono (Kd.R_V (Kd.R_bound h)) (fun k hk => hk.2.1)
theorem refGet (x : Int) (h : RP w P v T) (hl : T.length ≤ 2048) :
    Calls Try.prog 25 #[.agg #[.int .i64 (p : Int), v], .int .i64 x] w fun e w' => e = .returned (.tuple #[tv ((findT T x).getD z38), .bool (findT T x).isSome]) ∧ Below w.heap.size w w' := by
  obtain ⟨A, c, rfl, h1, h2⟩ := rt_len h
  refine (complineref07_Get.calls 3000 p A c T x _ _ _ _ w h2 h1 (get_f T p x 3000 (by omega) (by omega))).mono ?_
  rintro e w' ⟨rfl, hb⟩
  refine ⟨?_, hb⟩
  cases hq : findT T x <;> simp [getR, hq, tv, z38]
theorem refMin (h : RP w P v T) :
    Calls Try.prog 26 #[.agg #[.int .i64 (p : Int), v]] w fun e w' => e = .returned (.tuple #[tv (minT T).1, .bool (minT T).2]) ∧ Below w.heap.size w w' := by
  obtain ⟨A, c, rfl, h1, h2⟩ := rt_len h
  refine (complineref07_Min.calls p A c T _ _ _ _ w h2 h1 (min_f T p)).mono ?_
  rintro e w' ⟨rfl, hb⟩
  refine ⟨?_, hb⟩
  cases T <;> rfl
theorem refDue (now : Int) (h : RP w P v T) (hl : T.length ≤ 2048) :
    Calls Try.prog 41 #[.agg #[.int .i64 (p : Int), v], .int .u64 now] w fun e w' => ∃ v1 v2, e = .returned (.tuple #[.agg #[.int .i64 (p : Int), v1], v2]) ∧ RP w' (fun k => w.heap.size ≤ k) v1 (restT T now) ∧ RP w' (fun k => w.heap.size ≤ k) v2 (dueT T now) ∧ Below w.heap.size w w' := by
  obtain ⟨A, c, rfl, h1, h2⟩ := rt_len h
  refine (complineref07_Due.calls 3000 p A c T now _ _ _ w h2 h1 (due_f T p now 3000 (by omega) (by omega))).mono ?_
  rintro e w' ⟨v1, v2, rfl, g1, g2, hb⟩
  exact ⟨v1, v2, rfl, rp_new g1, rp_new g2, hb⟩
theorem refPut (t : S38) (h : RP w P v T) (hl : T.length ≤ 2048) :
    Calls Try.prog 55 #[v, .agg #[.int .u64 t.f0, .int .u64 t.f1, .int .i64 t.f2]] w fun e w' => ∃ v', e = .returned v' ∧ RP w' (fun k => w.heap.size ≤ k) v' (putT T t) ∧ Below w.heap.size w w' := by
  obtain ⟨A, c, rfl, h1, h2⟩ := rt_len h
  refine (complineref04_Put.calls 3000 A c T _ _ _ _ w h2 h1 (put_f T t 3000 (by omega) (by omega))).mono ?_
  rintro e w' ⟨v', rfl, g1, hb⟩
  exact ⟨v', rfl, rp_new g1, hb⟩
theorem refOut (x : Int) (h : RP w P v T) (hl : T.length ≤ 2048) :
    Calls Try.prog 56 #[.agg #[.int .i64 (p : Int), v], .int .i64 x] w fun e w' => ∃ v', e = .returned (.agg #[.int .i64 (p : Int), v']) ∧ RP w' (fun k => w.heap.size ≤ k) v' (outT T x) ∧ Below w.heap.size w w' := by
  obtain ⟨A, c, rfl, h1, h2⟩ := rt_len h
  refine (complineref07_without.calls 3000 p A c T x _ _ w h2 h1 (without_f T p x 3000 (by omega) (by omega))).mono ?_
  rintro e w' ⟨v', rfl, g1, hb⟩
  exact ⟨v', rfl, rp_new g1, hb⟩
theorem refNew (p : Int) (w : World) :
    Calls Try.prog 21 #[.int .i64 p] w fun e w' => ((p < 0 ∨ 1024 < p) ∧ ∃ v', e = .returned (.tuple #[.agg #[.int .i64 0, v'], .int .i64 1]) ∧ Below w.heap.size w w') ∨ (¬ (p < 0 ∨ 1024 < p) ∧ ∃ v', e = .returned (.tuple #[.agg #[.int .i64 p, v'], .int .i64 0]) ∧ RP w' (fun k => w.heap.size ≤ k) v' [] ∧ Below w.heap.size w w') := by
  by_cases hp : p < 0 ∨ 1024 < p
  · refine (complineref07_New.calls p 0 [] 1 w ?_).mono ?_
    · unfold complineref07_New.f
      rcases hp with h | h
      · simp [h]
      · simp [h]
    rintro e w' ⟨v', rfl, g1, hb⟩
    exact .inl ⟨hp, v', rfl, hb⟩
  · refine (complineref07_New.calls p p [] 0 w ?_).mono ?_
    · unfold complineref07_New.f
      have h1 : ¬ p < 0 := by omega
      have h2 : ¬ 1024 < p := by omega
      simp [h1, h2]
    rintro e w' ⟨v', rfl, g1, hb⟩
    exact .inr ⟨hp, v', rfl, rp_new g1, hb⟩
def W3 (w : World) (p : Nat) (A : Option Addr) (N c : Nat) (f0 f1 f2 : Int) : World := ((w.alloc (.cells #[.int .i64 (p : Int), .slice A N c] 27)).alloc (.cells #[.int .u64 f0, .int .u64 f1, .int .i64 f2] 38)).alloc (.cells #[.int .i64 0, .slice none 0 0] 27)
theorem W3_ok (w : World) (p : Nat) (A : Option Addr) (N c : Nat) (f0 f1 f2 : Int) : (W3 w p A N c f0 f1 f2).heap[w.heap.size]? = some (.cells #[.int .i64 (p : Int), .slice A N c] 27 (0, 0)) ∧ (W3 w p A N c f0 f1 f2).heap[w.heap.size + 1]? = some (.cells #[.int .u64 f0, .int .u64 f1, .int .i64 f2] 38 (0, 0)) ∧
    (W3 w p A N c f0 f1 f2).heap[w.heap.size + 1 + 1]? = some (.cells #[.int .i64 0, .slice none 0 0] 27 (0, 0)) ∧ Below w.heap.size w (W3 w p A N c f0 f1 f2) ∧ (W3 w p A N c f0 f1 f2).heap.size = w.heap.size + 1 + 1 + 1 := by
  have y0 := World.alloc_heap_new w (.cells #[.int .i64 (p : Int), .slice A N c] 27)
  have y1 := World.alloc_heap_new (w.alloc (.cells #[.int .i64 (p : Int), .slice A N c] 27)) (.cells #[.int .u64 f0, .int .u64 f1, .int .i64 f2] 38)
  have y2 := World.alloc_heap_new ((w.alloc (.cells #[.int .i64 (p : Int), .slice A N c] 27)).alloc (.cells #[.int .u64 f0, .int .u64 f1, .int .i64 f2] 38)) (.cells #[.int .i64 0, .slice none 0 0] 27)
  simp only [World.size_alloc] at y1 y2
  exact ⟨blk_alloc (blk_alloc y0 _) _, blk_alloc y1 _, y2, (((Below.refl _ w).alloc (Nat.le_refl _) _).alloc (by simp) _).alloc (by simp; omega) _, by simp [W3]⟩
set_option maxRecDepth 100000 in
set_option maxHeartbeats 4000000 in
theorem rins_arg (t : S38) (w : World) (v : Value) (hv : ∃ A n c, v = .slice A n c) (hn : ¬ (0 ≤ t.f2 ∧ t.f2 < p)) :
    Calls Try.prog 38 #[.agg #[.int .i64 (p : Int), v], tv t] w fun e w' => e = .returned (.tuple #[.agg #[.int .i64 (p : Int), v], .int .i64 1]) ∧ Below w.heap.size w w' := by
  obtain ⟨f0, f1, f2⟩ := t
  obtain ⟨A, N, c, rfl⟩ := hv
  simp only at hn
  simp only [tv]
  have y2 := World.alloc_heap_new ((w.alloc (.cells #[.int .i64 (p : Int), .slice A N c] 27)).alloc (.cells #[.int .u64 f0, .int .u64 f1, .int .i64 f2] 38)) (.cells #[.int .i64 (p : Int), .slice A N c] 27)
  simp only [World.size_alloc] at y2
  have x0 := cell_of2 y2
  have hB : Below w.heap.size w (((w.alloc (.cells #[.int .i64 (p : Int), .slice A N c] 27)).alloc (.cells #[.int .u64 f0, .int .u64 f1, .int .i64 f2] 38)).alloc (.cells #[.int .i64 (p : Int), .slice A N c] 27)) := (((Below.refl _ w).alloc (Nat.le_refl _) _).alloc (by simp) _).alloc (by simp; omega) _
  by_cases h1 : f2 < 0
  · have d1 : decide (f2 < 0) = true := decide_eq_true h1
    go_enter Try.func38, Try.ntmps38
    go_wp2_with fail
    refine bodyPost_ret (v := .tuple #[.agg #[.int .i64 (p : Int), .slice A N c], .int .i64 1]) (by simp [results, Try.f38, go_sem, x0]) rfl ?_
    exact ⟨rfl, hB⟩
  · have d1 : decide (f2 < 0) = false := decide_eq_false h1
    have d2 : decide ((p : Int) ≤ f2) = true := decide_eq_true (by omega)
    go_enter Try.func38, Try.ntmps38
    go_wp2_with fail
    refine bodyPost_ret (v := .tuple #[.agg #[.int .i64 (p : Int), .slice A N c], .int .i64 1]) (by simp [results, Try.f38, go_sem, x0]) rfl ?_
    exact ⟨rfl, hB⟩
set_option maxRecDepth 100000 in
set_option maxHeartbeats 4000000 in
theorem rins_twice (t : S38) (h : RP w P v T) (hl : T.length ≤ 2048) (hi : 0 ≤ t.f2 ∧ t.f2 < p) (hf : (findT T t.f2).isSome = true) :
    Calls Try.prog 38 #[.agg #[.int .i64 (p : Int), v], tv t] w fun e w' => e = .returned (.tuple #[.agg #[.int .i64 (p : Int), v], .int .i64 4]) ∧ Below w.heap.size w w' := by
  obtain ⟨f0, f1, f2⟩ := t
  simp only at hi hf
  simp only [tv]
  obtain ⟨A, c, rfl⟩ := rp_slice h
  obtain ⟨N, hN⟩ : ∃ N, N = T.length := ⟨_, rfl⟩
  rw [← hN] at h ⊢
  clear hN
  have d1 : decide (f2 < 0) = false := decide_eq_false (by omega)
  have d2 : decide ((p : Int) ≤ f2) = false := decide_eq_false (by omega)
  obtain ⟨y0, y1, y2, hB, hs⟩ := W3_ok w p A N c f0 f1 f2
  have hr := rp_below h hB
  obtain ⟨tt, htt⟩ : ∃ tt, (findT T f2).getD z38 = tt := ⟨_, rfl⟩
  go_enter Try.func38, Try.ntmps38
  go_wp2_with fail
  go_at_call 25
  refine (refGet (p := p) f2 hr hl).mono ?_
  rintro e w1 ⟨rfl, hb⟩
  rw [hf, htt]
  have hB1 := hB.trans (hb.mono (by omega))
  have z0 := below_blk hb y0 (by omega)
  have z2 := below_blk hb y2 (by omega)
  clear hb y0 y1 y2 hr
  generalize W3 w p A N c f0 f1 f2 = W0 at *
  have hs1 := blk_lt z2
  obtain ⟨t0, t1, t2⟩ := tt
  have z0' := blk_alloc z0 (.cells #[.int .u64 t0, .int .u64 t1, .int .i64 t2] 38)
  have z2' := blk_alloc z2 (.cells #[.int .u64 t0, .int .u64 t1, .int .i64 t2] 38)
  have hB2 := hB1.alloc hB1.size (.cells #[.int .u64 t0, .int .u64 t1, .int .i64 t2] 38)
  obtain ⟨c0, c1⟩ := cell_of2 z0
  obtain ⟨c2, c3⟩ := cell_of2 z2
  have fr0 := blk_frozen z2 0
  have fr1 := blk_frozen z2 1
  have hle2 : w.heap.size ≤ w.heap.size + 1 + 1 := by omega
  have n01 : w.heap.size ≠ w1.heap.size := by omega
  have n02 : w.heap.size < w1.heap.size := by omega
  have n21 : w.heap.size + 1 + 1 ≠ w1.heap.size := by omega
  have n20 : w.heap.size + 1 + 1 ≠ w.heap.size := by omega
  have n20' : w.heap.size ≠ w.heap.size + 1 + 1 := by omega
  generalize w.heap.size + 1 + 1 = s2 at *
  simp only [tv]
  go_wp2_with fail
  have x0 := cell_of2 (blk_alloc (put2 z2 (.int .i64 (p : Int)) (.slice A N c)) (.cells #[.int .u64 t0, .int .u64 t1, .int .i64 t2] 38))
  refine bodyPost_ret (v := .tuple #[.agg #[.int .i64 (p : Int), .slice A N c], .int .i64 4]) (by simp [results, Try.f38, go_sem, x0]) rfl ?_
  exact ⟨rfl, (below_put2 hB1 hle2 _ _).alloc (by simpa using hB1.size) _⟩
set_option maxRecDepth 100000 in
set_option maxHeartbeats 4000000 in
theorem rins_ok (t : S38) (h : RP w P v T) (hl : T.length ≤ 2048) (hi : 0 ≤ t.f2 ∧ t.f2 < p) (hf : findT T t.f2 = none) :
    Calls Try.prog 38 #[.agg #[.int .i64 (p : Int), v], tv t] w fun e w' => ∃ v', e = .returned (.tuple #[.agg #[.int .i64 (p : Int), v'], .int .i64 0]) ∧ RP w' (fun k => w.heap.size ≤ k) v' (putT T t) ∧ Below w.heap.size w w' := by
  obtain ⟨f0, f1, f2⟩ := t
  simp only at hi hf
  simp only [tv]
  obtain ⟨A, c, rfl⟩ := rp_slice h
  obtain ⟨N, hN⟩ : ∃ N, N = T.length := ⟨_, rfl⟩
  rw [← hN] at h ⊢
  clear hN
  have d1 : decide (f2 < 0) = false := decide_eq_false (by omega)
  have d2 : decide ((p : Int) ≤ f2) = false := decide_eq_false (by omega)
  obtain ⟨y0, y1, y2, hB, hs⟩ := W3_ok w p A N c f0 f1 f2
  have hr := rp_below h hB
  go_enter Try.func38, Try.ntmps38
  go_wp2_with fail
  go_at_call 25
  refine (refGet (p := p) f2 hr hl).mono ?_
  rintro e w1 ⟨rfl, hb⟩
  rw [hf]
  have hB1 := hB.trans (hb.mono (by omega))
  have z0 := below_blk hb y0 (by omega)
  have z1 := below_blk hb y1 (by omega)
  have z2 := below_blk hb y2 (by omega)
  have hr1 := rp_below hr hb
  clear hb y0 y1 y2 hr
  generalize W3 w p A N c f0 f1 f2 = W0 at *
  have hs1 := blk_lt z2
  have z0' := blk_alloc z0 (.cells #[.int .u64 0, .int .u64 0, .int .i64 0] 38)
  have z1' := blk_alloc z1 (.cells #[.int .u64 0, .int .u64 0, .int .i64 0] 38)
  have z2' := blk_alloc z2 (.cells #[.int .u64 0, .int .u64 0, .int .i64 0] 38)
  have hB2 := hB1.alloc hB1.size (.cells #[.int .u64 0, .int .u64 0, .int .i64 0] 38)
  have hr2 := rp_alloc hr1 (.cells #[.int .u64 0, .int .u64 0, .int .i64 0] 38)
  obtain ⟨c0, c1⟩ := cell_of2 z0'
  obtain ⟨⟨c2, c3⟩, c4⟩ := cell_of3 z1'
  simp only [tv, z38, Option.getD_none, Option.isSome_none]
  go_wp2_with fail
  generalize w1.alloc (.cells #[.int .u64 0, .int .u64 0, .int .i64 0] 38) = W4 at *
  have hle2 : w.heap.size ≤ w.heap.size + 1 + 1 := by omega
  have hne0 : w.heap.size ≠ w.heap.size + 1 + 1 := by omega
  have hne1 : w.heap.size + 1 ≠ w.heap.size + 1 + 1 := by omega
  have hne2 : w.heap.size + 1 + 1 ≠ w.heap.size := by omega
  have hne3 : w.heap.size + 1 + 1 ≠ w.heap.size + 1 := by omega
  generalize w.heap.size + 1 + 1 = s2 at *
  go_region_held3 (fun w' => (w'.cell? ⟨w.heap.size, 0, none⟩ = some (.int .i64 (p : Int)) ∧ w'.cell? ⟨w.heap.size, 1, none⟩ = some (.slice A N c)) ∧ (w'.cell? ⟨w.heap.size + 1, 0, none⟩ = some (.int .u64 f0) ∧ w'.cell? ⟨w.heap.size + 1, 1, none⟩ = some (.int .u64 f1)) ∧ w'.cell? ⟨w.heap.size + 1, 2, none⟩ = some (.int .i64 f2)) (go_keep) ((go_at_call 55; refine (refPut ⟨f0, f1, f2⟩ (rp_drew hr2) hl).mono ?_; rintro e w5 ⟨v', rfl, hr5, hb5⟩; obtain ⟨A5, c5, rfl⟩ := rp_slice hr5; have hb6 : Below W4.heap.size W4 w5 := ⟨hb5.os, hb5.tape, hb5.output, hb5.size, hb5.block⟩; have q2 := below_blk hb6 z2' (blk_lt z2'); obtain ⟨e0, e1⟩ := cell_of2 (below_blk hb6 z0' (blk_lt z0')); obtain ⟨⟨e2, e3⟩, e4⟩ := cell_of3 (below_blk hb6 z1' (blk_lt z1')); obtain ⟨e5, e6⟩ := cell_of2 q2; have e7 := blk_frozen q2 0; have e8 := blk_frozen q2 1))
  go_wp2_with fail
  have x0 := cell_of2 (put2 q2 (.int .i64 (p : Int)) (.slice A5 (putT T ⟨f0, f1, f2⟩).length c5))
  have hB5 : Below w.heap.size w w5 := hB2.trans (hb6.mono hB2.size)
  refine bodyPost_ret (v := .tuple #[.agg #[.int .i64 (p : Int), .slice A5 (putT T ⟨f0, f1, f2⟩).length c5], .int .i64 0]) (by simp [results, Try.f38, go_sem, x0]) rfl ?_
  refine ⟨_, rfl, ?_, below_put2 hB5 hle2 _ _⟩
  have hzz := blk_lt z2'
  have hzs := hB2.size
  exact rp_mono (rp_far (rp_far hr5 (fun k hk => by have : W4.heap.size ≤ k := hk; omega) 0 _) (fun k hk => by have : W4.heap.size ≤ k := hk; omega) 1 _) (fun k hk => Nat.le_trans hzs hk)
theorem refIns (t : S38) (h : RP w P v T) (hl : T.length ≤ 2048) :
    Calls Try.prog 38 #[.agg #[.int .i64 (p : Int), v], tv t] w fun e w' => ∃ v', e = .returned (.tuple #[.agg #[.int .i64 (p : Int), v'], .int .i64 (ListM.mIn p T t).2]) ∧ RP w' (fun k => P k ∨ w.heap.size ≤ k) v' (ListM.mIn p T t).1 ∧ Below w.heap.size w w' := by
  unfold ListM.mIn
  by_cases ha : 0 ≤ t.f2 ∧ t.f2 < p
  · rw [if_pos ha]
    cases hf : findT T t.f2 with
    | some a =>
      rw [if_pos (by rfl)]
      refine (rins_twice t h hl ha (by rw [hf]; rfl)).mono ?_
      rintro e w' ⟨rfl, hb⟩
      exact ⟨v, rfl, rp_mono (rp_below h hb) (fun _ hk => .inl hk), hb⟩
    | none =>
      rw [if_neg (by simp)]
      refine (rins_ok t h hl ha hf).mono ?_
      rintro e w' ⟨v', rfl, g1, hb⟩
      exact ⟨v', rfl, rp_mono g1 (fun _ hk => .inr hk), hb⟩
  · rw [if_neg ha]
    obtain ⟨A, c, hv⟩ := rp_slice h
    refine (rins_arg t w v ⟨A, _, c, hv⟩ ha).mono ?_
    rintro e w' ⟨rfl, hb⟩
    exact ⟨v, rfl, rp_mono (rp_below h hb) (fun _ hk => .inl hk), hb⟩
/-! Cancel. -/
def C3 (w : World) (p : Nat) (A : Option Addr) (N c : Nat) : World := ((w.alloc (.cells #[.int .i64 (p : Int), .slice A N c] 27)).alloc (.cells #[.int .i64 0, .slice none 0 0] 27)).alloc (.cells #[.int .u64 0, .int .u64 0, .int .i64 0] 38)
theorem C3_ok (w : World) (p : Nat) (A : Option Addr) (N c : Nat) : (C3 w p A N c).heap[w.heap.size]? = some (.cells #[.int .i64 (p : Int), .slice A N c] 27 (0, 0)) ∧ (C3 w p A N c).heap[w.heap.size + 1]? = some (.cells #[.int .i64 0, .slice none 0 0] 27 (0, 0)) ∧
    (C3 w p A N c).heap[w.heap.size + 1 + 1]? = some (.cells #[.int .u64 0, .int .u64 0, .int .i64 0] 38 (0, 0)) ∧ Below w.heap.size w (C3 w p A N c) ∧ (C3 w p A N c).heap.size = w.heap.size + 1 + 1 + 1 := by
  have y0 := World.alloc_heap_new w (.cells #[.int .i64 (p : Int), .slice A N c] 27)
  have y1 := World.alloc_heap_new (w.alloc (.cells #[.int .i64 (p : Int), .slice A N c] 27)) (.cells #[.int .i64 0, .slice none 0 0] 27)
  have y2 := World.alloc_heap_new ((w.alloc (.cells #[.int .i64 (p : Int), .slice A N c] 27)).alloc (.cells #[.int .i64 0, .slice none 0 0] 27)) (.cells #[.int .u64 0, .int .u64 0, .int .i64 0] 38)
  simp only [World.size_alloc] at y1 y2
  exact ⟨blk_alloc (blk_alloc y0 _) _, blk_alloc y1 _, y2, (((Below.refl _ w).alloc (Nat.le_refl _) _).alloc (by simp) _).alloc (by simp; omega) _, by simp [C3]⟩
set_option maxRecDepth 100000 in
set_option maxHeartbeats 4000000 in
theorem rcan_arg (x : Int) (w : World) (v : Value) (hv : ∃ A n c, v = .slice A n c) (hn : ¬ (0 ≤ x ∧ x < p)) :
    Calls Try.prog 39 #[.agg #[.int .i64 (p : Int), v], .int .i64 x] w fun e w' => e = .returned (.tuple #[.agg #[.int .i64 (p : Int), v], tv z38, .int .i64 1]) ∧ Below w.heap.size w w' := by
  obtain ⟨A, N, c, rfl⟩ := hv
  have y1 := World.alloc_heap_new (w.alloc (.cells #[.int .i64 (p : Int), .slice A N c] 27)) (.cells #[.int .i64 (p : Int), .slice A N c] 27)
  have y2 := World.alloc_heap_new ((w.alloc (.cells #[.int .i64 (p : Int), .slice A N c] 27)).alloc (.cells #[.int .i64 (p : Int), .slice A N c] 27)) (.cells #[.int .u64 0, .int .u64 0, .int .i64 0] 38)
  simp only [World.size_alloc] at y1 y2
  have x0 := cell_of2 (blk_alloc y1 (.cells #[.int .u64 0, .int .u64 0, .int .i64 0] 38))
  have x1 := cell_of3 y2
  have hB : Below w.heap.size w (((w.alloc (.cells #[.int .i64 (p : Int), .slice A N c] 27)).alloc (.cells #[.int .i64 (p : Int), .slice A N c] 27)).alloc (.cells #[.int .u64 0, .int .u64 0, .int .i64 0] 38)) := (((Below.refl _ w).alloc (Nat.le_refl _) _).alloc (by simp) _).alloc (by simp; omega) _
  by_cases h1 : x < 0
  · have d1 : decide (x < 0) = true := decide_eq_true h1
    go_enter Try.func39, Try.ntmps39
    go_wp2_with fail
    refine bodyPost_ret (v := .tuple #[.agg #[.int .i64 (p : Int), .slice A N c], tv z38, .int .i64 1]) (by simp [results, Try.f39, go_sem, x0, x1, tv, z38]) rfl ?_
    exact ⟨rfl, hB⟩
  · have d1 : decide (x < 0) = false := decide_eq_false h1
    have d2 : decide ((p : Int) ≤ x) = true := decide_eq_true (by omega)
    go_enter Try.func39, Try.ntmps39
    go_wp2_with fail
    refine bodyPost_ret (v := .tuple #[.agg #[.int .i64 (p : Int), .slice A N c], tv z38, .int .i64 1]) (by simp [results, Try.f39, go_sem, x0, x1, tv, z38]) rfl ?_
    exact ⟨rfl, hB⟩
set_option maxRecDepth 100000 in
set_option maxHeartbeats 4000000 in
theorem rcan_none (x : Int) (h : RP w P v T) (hl : T.length ≤ 2048) (hi : 0 ≤ x ∧ x < p) (hf : findT T x = none) :
    Calls Try.prog 39 #[.agg #[.int .i64 (p : Int), v], .int .i64 x] w fun e w' => e = .returned (.tuple #[.agg #[.int .i64 (p : Int), v], tv z38, .int .i64 5]) ∧ Below w.heap.size w w' := by
  obtain ⟨A, c, rfl⟩ := rp_slice h
  obtain ⟨N, hN⟩ : ∃ N, N = T.length := ⟨_, rfl⟩
  rw [← hN] at h ⊢
  clear hN
  have d1 : decide (x < 0) = false := decide_eq_false (by omega)
  have d2 : decide ((p : Int) ≤ x) = false := decide_eq_false (by omega)
  obtain ⟨y0, y1, y2, hB, hs⟩ := C3_ok w p A N c
  have hr := rp_below h hB
  go_enter Try.func39, Try.ntmps39
  go_wp2_with fail
  go_at_call 25
  refine (refGet (p := p) x hr hl).mono ?_
  rintro e w1 ⟨rfl, hb⟩
  rw [hf]
  have hB1 := hB.trans (hb.mono (by omega))
  have z0 := below_blk hb y0 (by omega)
  have z1 := below_blk hb y1 (by omega)
  have z2 := below_blk hb y2 (by omega)
  clear hb y0 y1 y2 hr
  generalize C3 w p A N c = W0 at *
  have hs1 := blk_lt z2
  obtain ⟨c0, c1⟩ := cell_of2 z0
  obtain ⟨c2, c3⟩ := cell_of2 z1
  obtain ⟨⟨c4, c5⟩, c6⟩ := cell_of3 z2
  have fr0 := blk_frozen z1 0
  have fr1 := blk_frozen z1 1
  have fr2 := blk_frozen z2 0
  have fr3 := blk_frozen z2 1
  have fr4 := blk_frozen z2 2
  have hle1 : w.heap.size ≤ w.heap.size + 1 := by omega
  have hle2 : w.heap.size ≤ w.heap.size + 1 + 1 := by omega
  have n01 : w.heap.size ≠ w1.heap.size := by omega
  have n02 : w.heap.size < w1.heap.size := by omega
  have n03 : w.heap.size + 1 < w1.heap.size := by omega
  have n11 : w.heap.size + 1 ≠ w1.heap.size := by omega
  have n21 : w.heap.size + 1 + 1 ≠ w1.heap.size := by omega
  have n20 : w.heap.size + 1 + 1 ≠ w.heap.size := by omega
  have n20' : w.heap.size ≠ w.heap.size + 1 + 1 := by omega
  have n12 : w.heap.size + 1 ≠ w.heap.size + 1 + 1 := by omega
  have n12' : w.heap.size + 1 + 1 ≠ w.heap.size + 1 := by omega
  have n10 : w.heap.size + 1 ≠ w.heap.size := by omega
  have n10' : w.heap.size ≠ w.heap.size + 1 := by omega
  generalize w.heap.size + 1 + 1 = s2 at *
  generalize w.heap.size + 1 = s1 at *
  simp only [tv, z38, Option.getD_none, Option.isSome_none]
  go_wp2_with fail
  have w2' := put3 (blk_far (blk_far z2 (p := ⟨s1, 0, none⟩) (by simpa using n12'.symm.symm) (.int .i64 (p : Int))) (p := ⟨s1, 1, none⟩) (by simpa using n12'.symm.symm) (.slice A N c)) (.int .u64 0) (.int .u64 0) (.int .i64 0)
  have w1' := blk_far (blk_far (blk_far (put2 z1 (.int .i64 (p : Int)) (.slice A N c)) (p := ⟨s2, 0, none⟩) (by simpa using n12) (.int .u64 0)) (p := ⟨s2, 1, none⟩) (by simpa using n12) (.int .u64 0)) (p := ⟨s2, 2, none⟩) (by simpa using n12) (.int .i64 0)
  have x0 := cell_of2 (blk_alloc w1' (.cells #[.int .u64 0, .int .u64 0, .int .i64 0] 38))
  have x1 := cell_of3 (blk_alloc w2' (.cells #[.int .u64 0, .int .u64 0, .int .i64 0] 38))
  refine bodyPost_ret (v := .tuple #[.agg #[.int .i64 (p : Int), .slice A N c], tv z38, .int .i64 5]) (by simp [results, Try.f39, go_sem, x0, x1, tv, z38]) rfl ?_
  exact ⟨rfl, (below_put3 (below_put2 hB1 hle1 _ _) hle2 _ _ _).alloc (by simpa using hB1.size) _⟩
set_option maxRecDepth 100000 in
set_option maxHeartbeats 4000000 in
theorem rcan_ok (x : Int) (t : S38) (h : RP w P v T) (hl : T.length ≤ 2048) (hi : 0 ≤ x ∧ x < p) (hf : findT T x = some t) :
    Calls Try.prog 39 #[.agg #[.int .i64 (p : Int), v], .int .i64 x] w fun e w' => ∃ v', e = .returned (.tuple #[.agg #[.int .i64 (p : Int), v'], tv t, .int .i64 0]) ∧ RP w' (fun k => w.heap.size ≤ k) v' (outT T x) ∧ Below w.heap.size w w' := by
  obtain ⟨A, c, rfl⟩ := rp_slice h
  obtain ⟨N, hN⟩ : ∃ N, N = T.length := ⟨_, rfl⟩
  rw [← hN] at h ⊢
  clear hN
  obtain ⟨t0, t1, t2⟩ := t
  have d1 : decide (x < 0) = false := decide_eq_false (by omega)
  have d2 : decide ((p : Int) ≤ x) = false := decide_eq_false (by omega)
  obtain ⟨y0, y1, y2, hB, hs⟩ := C3_ok w p A N c
  have hr := rp_below h hB
  go_enter Try.func39, Try.ntmps39
  go_wp2_with fail
  go_at_call 25
  refine (refGet (p := p) x hr hl).mono ?_
  rintro e w1 ⟨rfl, hb⟩
  rw [hf]
  have hB1 := hB.trans (hb.mono (by omega))
  have z0 := below_blk hb y0 (by omega)
  have z1 := below_blk hb y1 (by omega)
  have z2 := below_blk hb y2 (by omega)
  have hr1 := rp_below hr hb
  clear hb y0 y1 y2 hr
  generalize C3 w p A N c = W0 at *
  have hs1 := blk_lt z2
  have z0' := blk_alloc z0 (.cells #[.int .u64 t0, .int .u64 t1, .int .i64 t2] 38)
  have z1' := blk_alloc z1 (.cells #[.int .u64 t0, .int .u64 t1, .int .i64 t2] 38)
  have z2' := blk_alloc z2 (.cells #[.int .u64 t0, .int .u64 t1, .int .i64 t2] 38)
  have z3' := World.alloc_heap_new w1 (.cells #[.int .u64 t0, .int .u64 t1, .int .i64 t2] 38)
  have hB2 := hB1.alloc hB1.size (.cells #[.int .u64 t0, .int .u64 t1, .int .i64 t2] 38)
  have hr2 := rp_alloc hr1 (.cells #[.int .u64 t0, .int .u64 t1, .int .i64 t2] 38)
  have hle1 : w.heap.size ≤ w.heap.size + 1 := by omega
  have hle2 : w.heap.size ≤ w.heap.size + 1 + 1 := by omega
  have n01 : w.heap.size ≠ w1.heap.size := by omega
  have n01' : w1.heap.size ≠ w.heap.size := by omega
  have n11 : w.heap.size + 1 ≠ w1.heap.size := by omega
  have n11' : w1.heap.size ≠ w.heap.size + 1 := by omega
  have n21 : w.heap.size + 1 + 1 ≠ w1.heap.size := by omega
  have n21' : w1.heap.size ≠ w.heap.size + 1 + 1 := by omega
  have n20 : w.heap.size + 1 + 1 ≠ w.heap.size := by omega
  have n20' : w.heap.size ≠ w.heap.size + 1 + 1 := by omega
  have n12 : w.heap.size + 1 ≠ w.heap.size + 1 + 1 := by omega
  have n12' : w.heap.size + 1 + 1 ≠ w.heap.size + 1 := by omega
  have n10 : w.heap.size + 1 ≠ w.heap.size := by omega
  have n10' : w.heap.size ≠ w.heap.size + 1 := by omega
  simp only [tv, Option.getD_some, Option.isSome_some]
  go_wp2_with fail
  generalize w1.alloc (.cells #[.int .u64 t0, .int .u64 t1, .int .i64 t2] 38) = W4 at *
  generalize w.heap.size + 1 + 1 = s2 at *
  generalize w.heap.size + 1 = s1 at *
  generalize w1.heap.size = s3 at *
  obtain ⟨c0, c1⟩ := cell_of2 z0'
  obtain ⟨⟨c4, c5⟩, c6⟩ := cell_of3 z3'
  go_region_held3 (fun w' => (w'.cell? ⟨w.heap.size, 0, none⟩ = some (.int .i64 (p : Int)) ∧ w'.cell? ⟨w.heap.size, 1, none⟩ = some (.slice A N c)) ∧ (w'.cell? ⟨s3, 0, none⟩ = some (.int .u64 t0) ∧ w'.cell? ⟨s3, 1, none⟩ = some (.int .u64 t1)) ∧ w'.cell? ⟨s3, 2, none⟩ = some (.int .i64 t2)) (go_keep) ((go_at_call 56; refine (refOut (p := p) x (rp_drew hr2) hl).mono ?_; rintro e w5 ⟨v', rfl, hr5, hb5⟩; obtain ⟨A5, c5', rfl⟩ := rp_slice hr5; have hb6 : Below W4.heap.size W4 w5 := ⟨hb5.os, hb5.tape, hb5.output, hb5.size, hb5.block⟩; have q1 := below_blk hb6 z1' (blk_lt z1'); have q2 := below_blk hb6 z2' (blk_lt z2'); obtain ⟨e0, e1⟩ := cell_of2 (below_blk hb6 z0' (blk_lt z0')); obtain ⟨⟨e2, e3⟩, e4⟩ := cell_of3 (below_blk hb6 z3' (blk_lt z3')); obtain ⟨e5, e6⟩ := cell_of2 q1; obtain ⟨⟨e9, e10⟩, e11⟩ := cell_of3 q2; have e7 := blk_frozen q1 0; have e8 := blk_frozen q1 1; have e12 := blk_frozen q2 0; have e13 := blk_frozen q2 1; have e14 := blk_frozen q2 2))
  all_goals go_wp2_with fail
  all_goals
    have w2' := put3 (blk_far (blk_far q2 (p := ⟨s1, 0, none⟩) (by simpa using n12') (.int .i64 (p : Int))) (p := ⟨s1, 1, none⟩) (by simpa using n12') (.slice A5 (outT T x).length c5')) (.int .u64 t0) (.int .u64 t1) (.int .i64 t2)
    have w1' := blk_far (blk_far (blk_far (put2 q1 (.int .i64 (p : Int)) (.slice A5 (outT T x).length c5')) (p := ⟨s2, 0, none⟩) (by simpa using n12) (.int .u64 t0)) (p := ⟨s2, 1, none⟩) (by simpa using n12) (.int .u64 t1)) (p := ⟨s2, 2, none⟩) (by simpa using n12) (.int .i64 t2)
    have x0 := cell_of2 w1'
    have x1 := cell_of3 w2'
    have hB5 : Below w.heap.size w w5 := hB2.trans (hb6.mono hB2.size)
    refine bodyPost_ret (v := .tuple #[.agg #[.int .i64 (p : Int), .slice A5 (outT T x).length c5'], tv ⟨t0, t1, t2⟩, .int .i64 0]) (by simp [results, Try.f39, go_sem, x0, x1, tv]) rfl ?_
    refine ⟨_, rfl, ?_, below_put3 (below_put2 hB5 hle1 _ _) hle2 _ _ _⟩
    have hz1 := blk_lt z1'
    have hz2 := blk_lt z2'
    have hzs := hB2.size
    exact rp_mono (rp_far (rp_far (rp_far (rp_far (rp_far hr5 (fun k hk => by have : W4.heap.size ≤ k := hk; omega) 0 _) (fun k hk => by have : W4.heap.size ≤ k := hk; omega) 1 _) (fun k hk => by have : W4.heap.size ≤ k := hk; omega) 0 _) (fun k hk => by have : W4.heap.size ≤ k := hk; omega) 1 _) (fun k hk => by have : W4.heap.size ≤ k := hk; omega) 2 _) (fun k hk => Nat.le_trans hzs hk)
theorem refCan (x : Int) (h : RP w P v T) (hl : T.length ≤ 2048) :
    Calls Try.prog 39 #[.agg #[.int .i64 (p : Int), v], .int .i64 x] w fun e w' => ∃ v', e = .returned (.tuple #[.agg #[.int .i64 (p : Int), v'], tv (ListM.mCan p T x).2.1, .int .i64 (ListM.mCan p T x).2.2]) ∧ RP w' (fun k => P k ∨ w.heap.size ≤ k) v' (ListM.mCan p T x).1 ∧ Below w.heap.size w w' := by
  unfold ListM.mCan
  by_cases ha : 0 ≤ x ∧ x < p
  · rw [if_pos ha]
    cases hf : findT T x with
    | some t =>
      refine (rcan_ok x t h hl ha hf).mono ?_
      rintro e w' ⟨v', rfl, g1, hb⟩
      exact ⟨v', rfl, rp_mono g1 (fun _ hk => .inr hk), hb⟩
    | none =>
      refine (rcan_none x h hl ha hf).mono ?_
      rintro e w' ⟨rfl, hb⟩
      exact ⟨v, rfl, rp_mono (rp_below h hb) (fun _ hk => .inl hk), hb⟩
  · rw [if_neg ha]
    obtain ⟨A, c, hv⟩ := rp_slice h
    refine (rcan_arg x w v ⟨A, _, c, hv⟩ ha).mono ?_
    rintro e w' ⟨rfl, hb⟩
    exact ⟨v, rfl, rp_mono (rp_below h hb) (fun _ hk => .inl hk), hb⟩
theorem len_out (T : List S38) (x : Int) : (outT T x).length ≤ T.length := List.length_filter_le _ _
theorem len_can (p : Nat) (T : List S38) (x : Int) : (ListM.mCan p T x).1.length ≤ T.length := by
  unfold ListM.mCan
  split
  · split
    · exact len_out T x
    · exact Nat.le_refl _
  · exact Nat.le_refl _
set_option maxRecDepth 100000 in
set_option maxHeartbeats 4000000 in
theorem refMov (t : S38) (h : RP w P v T) (hl : T.length ≤ 2048) :
    Calls Try.prog 40 #[.agg #[.int .i64 (p : Int), v], tv t] w fun e w' => ∃ v', e = .returned (.tuple #[.agg #[.int .i64 (p : Int), v'], .int .i64 (ListM.mMov p T t).2]) ∧ RP w' (fun k => P k ∨ w.heap.size ≤ k) v' (ListM.mMov p T t).1 ∧ Below w.heap.size w w' := by
  obtain ⟨f0, f1, f2⟩ := t
  obtain ⟨A, c, rfl⟩ := rp_slice h
  obtain ⟨N, hN⟩ : ∃ N, N = T.length := ⟨_, rfl⟩
  rw [← hN] at h ⊢
  clear hN
  obtain ⟨T1, x, cc, hmc⟩ : ∃ T1 x c, ListM.mCan p T f2 = (T1, x, c) := ⟨_, _, _, rfl⟩
  have h := rp_bound h
  have hl1 : T1.length ≤ 2048 := by have := len_can p T f2; rw [hmc] at this; exact Nat.le_trans this hl
  obtain ⟨x0, x1, x2⟩ := x
  rw [show tv ⟨f0, f1, f2⟩ = .agg #[.int .u64 f0, .int .u64 f1, .int .i64 f2] from rfl]
  by_cases hc : cc = 0
  · subst hc
    have e0 : ListM.mMov p T ⟨f0, f1, f2⟩ = ListM.mIn p T1 ⟨f0, f1, f2⟩ := by unfold ListM.mMov; rw [hmc, if_pos rfl]
    rw [e0]
    obtain ⟨y0, y1, y2, hB, hs⟩ := W3_ok w p A N c f0 f1 f2
    have hr := rp_below h hB
    go_enter Try.func40, Try.ntmps40
    go_wp2_with fail
    go_at_call 39
    refine (refCan (p := p) f2 hr hl).mono ?_
    rintro e w1 ⟨v', rfl, hr1, hb⟩
    rw [hmc] at hr1 ⊢
    obtain ⟨A1, c1, rfl⟩ := rp_slice hr1
    obtain ⟨N1, hN1⟩ : ∃ N1, N1 = T1.length := ⟨_, rfl⟩
    simp only [] at hr1
    rw [← hN1] at hr1 ⊢
    have hB1 := hB.trans (hb.mono (by omega))
    have z0 := below_blk hb y0 (by omega)
    have z1 := below_blk hb y1 (by omega)
    have z2 := below_blk hb y2 (by omega)
    clear hb y0 y1 y2 hr hN1
    generalize W3 w p A N c f0 f1 f2 = W0 at *
    have hs1 := blk_lt z2
    obtain ⟨d0, hd0⟩ : ∃ d0, d0 = w1.alloc (.cells #[.int .i64 (p : Int), .slice A1 N1 c1] 27) := ⟨_, rfl⟩
    have k1 := World.alloc_heap_new w1 (.cells #[.int .i64 (p : Int), .slice A1 N1 c1] 27)
    have k1' := blk_alloc k1 (.cells #[.int .u64 x0, .int .u64 x1, .int .i64 x2] 38)
    have z0' := blk_alloc (blk_alloc z0 (.cells #[.int .i64 (p : Int), .slice A1 N1 c1] 27)) (.cells #[.int .u64 x0, .int .u64 x1, .int .i64 x2] 38)
    have z1' := blk_alloc (blk_alloc z1 (.cells #[.int .i64 (p : Int), .slice A1 N1 c1] 27)) (.cells #[.int .u64 x0, .int .u64 x1, .int .i64 x2] 38)
    have z2' := blk_alloc (blk_alloc z2 (.cells #[.int .i64 (p : Int), .slice A1 N1 c1] 27)) (.cells #[.int .u64 x0, .int .u64 x1, .int .i64 x2] 38)
    have hB2 := (hB1.alloc hB1.size (.cells #[.int .i64 (p : Int), .slice A1 N1 c1] 27)).alloc (by have := hB1.size; simp; omega) (.cells #[.int .u64 x0, .int .u64 x1, .int .i64 x2] 38)
    have hr2 := rp_alloc (rp_alloc hr1 (.cells #[.int .i64 (p : Int), .slice A1 N1 c1] 27)) (.cells #[.int .u64 x0, .int .u64 x1, .int .i64 x2] 38)
    obtain ⟨a0, a1⟩ := cell_of2 z0'
    obtain ⟨⟨a2, a3⟩, a4⟩ := cell_of3 z1'
    obtain ⟨a5, a6⟩ := cell_of2 z2'
    obtain ⟨a7, a8⟩ := cell_of2 k1'
    have r0 := blk_frozen z2' 0
    have r1 := blk_frozen z2' 1
    have hle2 : w.heap.size ≤ w.heap.size + 1 + 1 := by omega
    have nn0 : w.heap.size + 1 + 1 ≠ w.heap.size := by omega
    have nn1 : w.heap.size ≠ w.heap.size + 1 + 1 := by omega
    have q2' := Lib.hid z2'
    have q2l := Lib.hid (blk_lt z2')
    have hsz := Lib.hid hs
    clear hs1 hs z0 z1 z2 z0' z1' k1 k1' hd0 z2'
    simp only [tv]
    go_wp2_with fail
    generalize ((w1.alloc (.cells #[.int .i64 (p : Int), .slice A1 N1 c1] 27)).alloc (.cells #[.int .u64 x0, .int .u64 x1, .int .i64 x2] 38)) = W4 at *
    go_at_call 38
    refine (refIns (p := p) ⟨f0, f1, f2⟩ hr2 hl1).mono ?_
    rintro e w5 ⟨v', rfl, hr5, hb5⟩
    obtain ⟨A5, c5, rfl⟩ := rp_slice hr5
    have q2 := below_blk hb5 q2'.out q2l.out
    have hB5 := hB2.trans (hb5.mono hB2.size)
    obtain ⟨e5, e6⟩ := cell_of2 q2
    have e7 := blk_frozen q2 0
    have e8 := blk_frozen q2 1
    obtain ⟨T2, c2, hmi⟩ : ∃ T2 c2, ListM.mIn p T1 ⟨f0, f1, f2⟩ = (T2, c2) := ⟨_, _, rfl⟩
    rw [hmi] at hr5 ⊢
    simp only [] at hr5 ⊢
    have hm2 := Lib.hid hmi
    clear hmi
    go_wp2_with fail
    have x0 := cell_of2 (put2 q2 (.int .i64 (p : Int)) (.slice A5 T2.length c5))
    refine bodyPost_ret (v := .tuple #[.agg #[.int .i64 (p : Int), .slice A5 T2.length c5], .int .i64 c2]) (by simp [results, Try.f40, go_sem, x0]) rfl ?_
    refine ⟨_, by rw [hm2.out], ?_, below_put2 hB5 hle2 _ _⟩
    rw [hm2.out]
    have hzs := hB.size
    have hs := hsz.out
    have hz4 := q2l.out
    exact rp_mono (rp_far (rp_far hr5 (fun k hk => by omega) 0 _) (fun k hk => by omega) 1 _) (fun k hk => by have := hB2.size; rcases hk with (⟨hk, _⟩ | hk) | hk; exact .inl hk; exact .inr (by omega); exact .inr (by omega))
  · have e0 : ListM.mMov p T ⟨f0, f1, f2⟩ = (T, cc) := by unfold ListM.mMov; rw [hmc, if_neg hc]
    rw [e0]
    have hT1 : T1 = T := by
      unfold ListM.mCan at hmc
      split at hmc
      · split at hmc
        · cases hmc; exact absurd rfl hc
        · cases hmc; rfl
      · cases hmc; rfl
    have dc : (cc != 0) = true := bne_iff_ne.mpr hc
    obtain ⟨y0, y1, y2, hB, hs⟩ := W3_ok w p A N c f0 f1 f2
    have hr := rp_below h hB
    go_enter Try.func40, Try.ntmps40
    go_wp2_with fail
    go_at_call 39
    refine (refCan (p := p) f2 hr hl).mono ?_
    rintro e w1 ⟨v', rfl, hr1, hb⟩
    rw [hmc] at hr1 ⊢
    obtain ⟨A1, c1, rfl⟩ := rp_slice hr1
    obtain ⟨N1, hN1⟩ : ∃ N1, N1 = T1.length := ⟨_, rfl⟩
    simp only [] at hr1
    rw [← hN1] at hr1 ⊢
    have hB1 := hB.trans (hb.mono (by omega))
    have z0 := below_blk hb y0 (by omega)
    have z1 := below_blk hb y1 (by omega)
    have z2 := below_blk hb y2 (by omega)
    clear hb y0 y1 y2 hr hN1
    generalize W3 w p A N c f0 f1 f2 = W0 at *
    have hs1 := blk_lt z2
    obtain ⟨d0, hd0⟩ : ∃ d0, d0 = w1.alloc (.cells #[.int .i64 (p : Int), .slice A1 N1 c1] 27) := ⟨_, rfl⟩
    have k1 := World.alloc_heap_new w1 (.cells #[.int .i64 (p : Int), .slice A1 N1 c1] 27)
    have k1' := blk_alloc k1 (.cells #[.int .u64 x0, .int .u64 x1, .int .i64 x2] 38)
    have z0' := blk_alloc (blk_alloc z0 (.cells #[.int .i64 (p : Int), .slice A1 N1 c1] 27)) (.cells #[.int .u64 x0, .int .u64 x1, .int .i64 x2] 38)
    have z1' := blk_alloc (blk_alloc z1 (.cells #[.int .i64 (p : Int), .slice A1 N1 c1] 27)) (.cells #[.int .u64 x0, .int .u64 x1, .int .i64 x2] 38)
    have z2' := blk_alloc (blk_alloc z2 (.cells #[.int .i64 (p : Int), .slice A1 N1 c1] 27)) (.cells #[.int .u64 x0, .int .u64 x1, .int .i64 x2] 38)
    have hB2 := (hB1.alloc hB1.size (.cells #[.int .i64 (p : Int), .slice A1 N1 c1] 27)).alloc (by have := hB1.size; simp; omega) (.cells #[.int .u64 x0, .int .u64 x1, .int .i64 x2] 38)
    have hr2 := rp_alloc (rp_alloc hr1 (.cells #[.int .i64 (p : Int), .slice A1 N1 c1] 27)) (.cells #[.int .u64 x0, .int .u64 x1, .int .i64 x2] 38)
    obtain ⟨a0, a1⟩ := cell_of2 z0'
    obtain ⟨⟨a2, a3⟩, a4⟩ := cell_of3 z1'
    obtain ⟨a5, a6⟩ := cell_of2 z2'
    obtain ⟨a7, a8⟩ := cell_of2 k1'
    have r0 := blk_frozen z2' 0
    have r1 := blk_frozen z2' 1
    have hle2 : w.heap.size ≤ w.heap.size + 1 + 1 := by omega
    have nn0 : w.heap.size + 1 + 1 ≠ w.heap.size := by omega
    have nn1 : w.heap.size ≠ w.heap.size + 1 + 1 := by omega
    have q2' := Lib.hid z2'
    have q2l := Lib.hid (blk_lt z2')
    have hsz := Lib.hid hs
    clear hs1 hs z0 z1 z2 z0' z1' k1 k1' hd0 z2'
    simp only [tv]
    go_wp2_with fail
    have x0 := cell_of2 (put2 q2'.out (.int .i64 (p : Int)) (.slice A N c))
    refine bodyPost_ret (v := .tuple #[.agg #[.int .i64 (p : Int), .slice A N c], .int .i64 cc]) (by simp [results, Try.f40, go_sem, x0]) rfl ?_
    refine ⟨_, rfl, ?_, below_put2 hB2 hle2 _ _⟩
    exact rp_mono (rp_below h (below_put2 hB2 hle2 _ _)) (fun k hk => .inl hk.1)
end Go.Proofs.Ytokhbiaaaflphaa.ListR
