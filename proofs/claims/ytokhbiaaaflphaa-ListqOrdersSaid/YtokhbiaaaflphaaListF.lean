/-
  Queues in memory: All, Due.
  No condition.
-/
import Derived.Test.YtokhbiaaaflphaaListE
namespace Go.Proofs.Ytokhbiaaaflphaa.ListF
open Go.RowKit Go.Shelf Go.Proofs.Ytokhbiaaaflphaa.ChainA Go.Proofs.Ytokhbiaaaflphaa.ChainM Go.Proofs.Ytokhbiaaaflphaa.ChainN Go.Proofs.Ytokhbiaaaflphaa.ChainF Go.Proofs.Ytokhbiaaaflphaa.ListM Go.Proofs.Ytokhbiaaaflphaa.ListA Go.Proofs.Ytokhbiaaaflphaa.ListB Go.Proofs.Ytokhbiaaaflphaa.ListC Go.Proofs.Ytokhbiaaaflphaa.ListE Go.Proofs.Ytokhbiaaaflphaa.GListqPlays Go.Proofs.YtokhbiaaaflphaaW.PrintWords Go.Proofs.YtokhbiaaaflphaaW.PrintLast Go.Proofs.YtokhbiaaaflphaaW.PrintMore
set_option linter.unusedVariables false
set_option linter.unusedSimpArgs false
variable {w : World} {q gT g b p : Nat} {ts T : List S38} {l : List Nat}
/-- A row of places in memory, to be read. -/
def Row (w : World) (v : Value) (l : List Nat) : Prop := ∃ A c, v = .slice A l.length c ∧ l.length ≤ c ∧ Kd.C (Kd.int .i64) w A l.length (toI l)
theorem toI_getD (l : List Nat) (k : Nat) (hk : k < l.length) : (toI l).getD k 0 = (l.getD k 0 : Nat) := by
  simp [toI, List.getD_eq_getElem?_getD, List.getElem?_eq_getElem hk]
theorem Row.below {w w' : World} {v : Value} {l : List Nat} (h : Row w v l) (k : Below w.heap.size w w') : Row w' v l := by
  obtain ⟨A, c, rfl, h1, h2⟩ := h
  exact ⟨A, c, rfl, h1, Kd.C_below h2 k⟩
theorem row_of_own {w : World} {base : Nat} {v : Value} {l : List Nat} (h : w.ownsRow base 3 1 v (toI l).length ((toI l).map (Value.int .i64))) : Row w v l := by
  have hR : Kd.R (Kd.int .i64) 3 w base (fun _ => True) v (toI l) := Kd.R_of_own h (fun _ _ => trivial)
  obtain ⟨A, c, rfl⟩ := Kd.R_slice hR
  have h2 := Kd.R_reads' hR
  exact ⟨A, c, by rw [h2.1, toI_len], by have := h2.2.1; have := h2.1; rw [toI_len] at *; omega, by rw [← toI_len]; exact h2.2.2⟩
theorem Row.at {w : World} {A : Option Addr} {n c : Nat} {l : List Nat} (h : Row w (.slice A n c) l) (i : Nat) (hi : i < l.length) : ∃ ad, A = some ad ∧ w.cell? (ad.add i) = some (.int .i64 (l.getD i 0 : Nat)) := by
  obtain ⟨A', c', e, h1, h2⟩ := h
  cases e
  obtain ⟨ad, cs, e, _, hK, hc⟩ := Kd.C_get h2 0 (i : Int) (by omega) (by omega)
  rw [Int.toNat_natCast] at hK hc
  have hK' : cs = [.int .i64 ((toI l).getD i 0)] := hK
  refine ⟨ad, e, ?_⟩
  have := hc 0 _ (by rw [hK']; rfl)
  rw [toI_getD _ _ hi, show (Kd.int IntKind.i64).sz = 1 from rfl, Nat.mul_one, Nat.add_zero] at this
  exact this
/-- A row of timers in blocks at m or beyond. -/
def RT (w : World) (m : Nat) (v : Value) (T : List S38) : Prop := Kd.V k38 38 w 0 (fun k => m ≤ k) v T
theorem RT.of_R {w : World} {m base : Nat} {ok : Nat → Prop} {v : Value} {T : List S38} (h : Kd.R k38 38 w base ok v T) (hm : m ≤ base) : RT w m v T :=
  Kd.V_mono (Kd.R_V (Kd.R_bound h)) (fun k hk => Nat.le_trans hm hk.2.1)
theorem RT.below {w w' : World} {m : Nat} {v : Value} {T : List S38} (h : RT w m v T) (k : Below w.heap.size w w') : RT w' m v T := Kd.V_below h k
theorem RT.alloc {w : World} {m : Nat} {v : Value} {T : List S38} (h : RT w m v T) (o : Obj) : RT (w.alloc o) m v T := Kd.V_alloc h o
theorem RT.fr {w w' : World} {m q gT b : Nat} {v : Value} {T : List S38} (h : RT w m v T) (k : Fr q gT b w w') (h1 : q < m) (h2 : gT < m) (h3 : b < m) : RT w' m v T :=
  Kd.V_step h (fun i hi hl => k.block i hl (by omega) (by omega) (by omega))
theorem RT.mono {w : World} {m m' : Nat} {v : Value} {T : List S38} (h : RT w m v T) (hm : m' ≤ m) : RT w m' v T := Kd.V_mono h (fun k hk => Nat.le_trans hm hk)
theorem RT.far {w : World} {m B : Nat} {v : Value} {T : List S38} (h : RT w m v T) (hB : B < m) (j : Nat) (u : Value) : RT (w.setCell ⟨B, j, none⟩ u) m v T :=
  Kd.V_step h (fun i hi hl => Below.heap_setCell _ _ _ i (by show i ≠ B; omega))
theorem RT.slice {w : World} {m : Nat} {v : Value} {T : List S38} (h : RT w m v T) : ∃ A c, v = .slice A T.length c := Kd.V_slice h
theorem RT.C {w : World} {m : Nat} {A : Option Addr} {n c : Nat} {T : List S38} (h : RT w m (.slice A n c) T) : n = T.length ∧ n ≤ c ∧ Kd.C k38 w A T.length T := Kd.V_reads' h
theorem RT.nil (w : World) (m : Nat) : RT w m (.slice none 0 0) [] := Kd.V_nil _ _ _ _ _
theorem take_snoc (l : List Nat) (k : Nat) (h : k < l.length) : l.take (k + 1) = l.take k ++ [l.getD k 0] := by
  rw [List.take_add_one, List.getElem?_eq_getElem h, List.getD_eq_getElem?_getD, List.getElem?_eq_getElem h]; rfl
set_option maxRecDepth 100000 in
set_option maxHeartbeats 4000000 in
theorem all_calls (q gT g b p : Nat) (ts : List S38) (l : List Nat) (w : World) (h : QB w q gT g b p ts l) :
    Calls Try.prog 10 #[.pointer (some ⟨q, 0, none⟩)] w fun e w' => ∃ v, e = .returned v ∧ RT w' w.heap.size v (l.map (tn ts)) ∧ Below w.heap.size w w' := by
  have hlb := h.lb
  have b1 := blk_cell h.hq 1
  have hlt : ∀ k, k < l.length → l.getD k 0 < p := fun k hk => by
    refine ChainF.chn_lt h.hC 0 _ (show l.getD k 0 ∈ l from ?_)
    rw [List.getD_eq_getElem?_getD, List.getElem?_eq_getElem hk]
    exact List.getElem_mem hk
  go_enter Try.func10, Try.ntmps10
  go_wp2_with fail
  go_at_call 28
  refine (ChainF.all_calls g b p 0 [l] _ h.hC).mono ?_
  rintro e W ⟨v, rfl, ho, hB⟩
  have hr : Row W v l := row_of_own ho
  have hq1 := h.below hB
  clear ho
  obtain ⟨A, c, rfl, hlc, hrc⟩ := hr
  have hr : Row W (.slice A l.length c) l := ⟨A, c, rfl, hlc, hrc⟩
  obtain ⟨N, hN⟩ : ∃ N, N = l.length := ⟨_, rfl⟩
  rw [← hN] at hr ⊢
  have hNp : N ≤ p := by omega
  have hN' := Lib.hid hN
  clear hrc hlc hN b1
  simp only []
  go_wp2_with fail
  go_loopw [3, 13] (fun v i wr => ∃ k : Nat, i = .int .i64 (k : Int) ∧ k ≤ N ∧ Kd.R k38 38 wr W.heap.size (fun _ => True) v ((l.take k).map (tn ts)) ∧ Below W.heap.size W wr) (fun _ i _ => N - (intOf i).toNat)
  case atStart => exact ⟨0, rfl, Nat.zero_le _, Kd.R_nil _ _ _ _ _, Below.refl _ _⟩
  case round =>
    obtain ⟨k, rfl, hk, hR, hBr⟩ := hrel
    by_cases hlt1 : k < N
    · have hkl : k < l.length := by have := hN'.out; omega
      obtain ⟨ad, rfl, hcell⟩ := (hr.below hBr).at k hkl
      have hx := hlt k hkl
      obtain ⟨x, hxe⟩ : ∃ x, x = l.getD k 0 := ⟨_, rfl⟩
      rw [← hxe] at hcell hx
      have hxe' := Lib.hid hxe
      clear hxe
      have d1 : decide ((k : Int) < (N : Int)) = true := decide_eq_true (by omega)
      have d2 : decide (k < N) = true := decide_eq_true hlt1
      go_wp2_with fail
      go_at_call 27
      refine (at_calls q gT g b p x ts l wr (hq1.below hBr) hx).mono ?_
      rintro e w2 ⟨rfl, hb2⟩
      have hR2 := Kd.R_below hR hb2
      have hB2 := hBr.trans (hb2.mono hBr.size)
      have hsz2 := hB2.size
      clear hR hBr hcell
      simp only [tv]
      go_wp2_with ((with_reducible refine gate_builtin (b := .append) (xs := #[.tmp 17, .tmp 22]) rfl ?_); at_builtin; refine Kd.R_append k38 (w0 := W) W.heap.size rfl (.tmp 17) (.tmp 22) 25 38 (.agg #[(.int .u64 0), (.int .u64 0), (.int .i64 0)]) 24 rfl Try.underlying25 info38 rfl (by decide) (by omega) _ ((l.take k).map (tn ts)) (tn ts x) [.int .u64 (tn ts x).f0, .int .u64 (tn ts x).f1, .int .i64 (tn ts x).f2] (fun _ => True) (fun _ => False) rfl rfl ?aP (fun _ hk => hk.elim) ?aF ?aO ?aB ?aS ?aL ?_; (case aP => exact k38_mkM _ _ _ (tn ts x)); (case aB => exact hB2); (case aF => exact (fun _ _ => trivial)); (case aO => exact hR2); (case aS => exact hsz2); (case aL => rw [List.length_map, List.length_take]; omega); intro v3 w3 ho hb3 hg hat; clear hg hat)
      go_roundw
      case rel => exact ⟨k + 1, by simp, by omega, by rw [take_snoc l k hkl, List.map_append, ← hxe'.out]; exact ho, hb3⟩
      case measure => simp only [intOf]; omega
    · have hkN : k = N := by omega
      subst hkN
      have d1 : decide ((k : Int) < (k : Int)) = false := decide_eq_false (by omega)
      go_wp2_with fail
      go_ret
      rw [hN'.out, List.take_length] at hR
      exact ⟨_, rfl, RT.of_R hR hB.size, hB.trans (hBr.mono hB.size)⟩
theorem all_T (h : QS w q gT g b p T) :
    Calls Try.prog 10 #[.pointer (some ⟨q, 0, none⟩)] w fun e w' => ∃ v, e = .returned v ∧ RT w' w.heap.size v T ∧ Below w.heap.size w w' := by
  obtain ⟨ts, l, h⟩ := h
  rw [h.eT]
  exact all_calls q gT g b p ts l w h.bl
theorem due_split {D R : List S38} {now : Int} (hs : (D ++ R).Pairwise bef) (hD : ∀ a, a ∈ D → a.f0 ≤ now) (hR : ∀ x R', R = x :: R' → ¬ x.f0 ≤ now) : dueT (D ++ R) now = D ∧ restT (D ++ R) now = R := by
  have hR2 : ∀ a, a ∈ R → ¬ a.f0 ≤ now := by
    cases R with
    | nil => intro a ha; cases ha
    | cons x R' =>
      intro a ha hq
      have hx := hR x R' rfl
      rcases List.mem_cons.1 ha with e | e
      · rw [e] at hq; exact hx hq
      · exact hx (bef_due ((List.pairwise_cons.1 (List.pairwise_append.1 hs).2.1).1 a e) hq)
  unfold dueT restT
  rw [List.filter_append, List.filter_append, List.filter_eq_self.2 (fun a ha => by simpa using hD a ha), List.filter_eq_nil_iff.2 (fun a ha => by simpa using hR2 a ha), List.filter_eq_nil_iff.2 (fun a ha => by simpa using hD a ha), List.filter_eq_self.2 (fun a ha => by simpa using hR2 a ha)]
  simp
theorem can_head {x : S38} {R : List S38} (h : QI p (x :: R)) : (ListM.mCan p (x :: R) x.f2).1 = R := by
  have h1 := h.place x List.mem_cons_self
  have h2 := h.dist
  rw [List.map_cons, List.nodup_cons] at h2
  unfold ListM.mCan
  rw [if_pos h1, findT_mem h List.mem_cons_self]
  show outT (x :: R) x.f2 = R
  unfold outT
  rw [List.filter_cons_of_neg (by simp)]
  refine List.filter_eq_self.2 (fun a ha => ?_)
  simp only [decide_eq_true_eq]
  exact fun e => h2.1 (List.mem_map.2 ⟨a, ha, e⟩)
theorem qs_qi (h : QS w q gT g b p T) : QI p T := by obtain ⟨ts, l, h⟩ := h; exact h.hQ
theorem qs_low {w1 w3 : World} {m : Nat} (h : QS w1 q gT g b p T) (k : Below m w1 w3) (hm : q < m ∧ gT < m ∧ g < m ∧ b < m) : QS w3 q gT g b p T := by
  obtain ⟨ts, l, h⟩ := h
  exact ⟨ts, l, h.bl.keep (fun i hi => k.block i (by omega)), h.eT, h.eF, h.hQ⟩
theorem fr_low {w1 w3 : World} (h : Fr q gT b w w1) (k : Below w.heap.size w1 w3) : Fr q gT b w w3 :=
  ⟨k.os.trans h.os, k.tape.trans h.tape, k.output.trans h.output, Nat.le_trans h.size k.size, fun i h1 h2 h3 h4 => (k.block i h1).trans (h.block i h1 h2 h3 h4)⟩
theorem qs_lens (h : QS w q gT g b p T) : T.length ≤ 2048 ∧ (q < w.heap.size ∧ gT < w.heap.size ∧ g < w.heap.size ∧ b < w.heap.size) := by
  obtain ⟨ts, l, h⟩ := h
  have := h.bl.lb
  have := ql_len h
  exact ⟨by omega, h.bl.lq, h.bl.lT, by omega, by omega⟩
set_option maxRecDepth 100000 in
set_option maxHeartbeats 4000000 in
theorem due_T (now : Int) (h : QS w q gT g b p T) :
    Calls Try.prog 11 #[.pointer (some ⟨q, 0, none⟩), .int .u64 now] w fun e w' => ∃ v, e = .returned v ∧ RT w' w.heap.size v (dueT T now) ∧ QS w' q gT g b p (restT T now) ∧ Fr q gT b w w' := by
  have hln := qs_lens h
  have hqi := qs_qi h
  go_enter Try.func11, Try.ntmps11
  go_wp2_with fail
  go_at_call 15
  refine (min_T h).mono ?_
  rintro e W ⟨rfl, hB⟩
  have hW := h.below hB
  have hFW := Fr.of_below (q := q) (gT := gT) (b := b) hB
  have hsW := hB.size
  obtain ⟨m, ok, hm⟩ : ∃ m ok, minT T = (m, ok) := ⟨_, _, rfl⟩
  rw [hm]
  obtain ⟨m0, m1, m2⟩ := m
  have y0 := World.alloc_heap_new W (.cells #[.int .u64 m0, .int .u64 m1, .int .i64 m2] 38)
  have hW1 := hW.alloc (.cells #[.int .u64 m0, .int .u64 m1, .int .i64 m2] 38)
  have hF1 := hFW.alloc (.cells #[.int .u64 m0, .int .u64 m1, .int .i64 m2] 38)
  simp only [tv]
  go_wp2_with fail
  go_loopg [5, 6, 7] (T.length + 1) (fun kq v pt okv wr => ∃ (D R : List S38) (B : Nat) (n0 n1 n2 : Int) (bo : Bool), T = D ++ R ∧ (∀ a, a ∈ D → a.f0 ≤ now) ∧ pt = .pointer (some ⟨B, 0, none⟩) ∧ okv = .bool bo ∧ minT R = (⟨n0, n1, n2⟩, bo) ∧ w.heap.size ≤ B ∧ wr.heap[B]? = some (.cells #[.int .u64 n0, .int .u64 n1, .int .i64 n2] 38 (0, 0)) ∧ Kd.R k38 38 wr w.heap.size (fun k => k ≠ B) v D ∧ QS wr q gT g b p R ∧ Fr q gT b w wr ∧ R.length < kq ∧ kq ≤ T.length + 1)
  case atStart => exact ⟨[], T, W.heap.size, m0, m1, m2, ok, rfl, fun _ h => (by cases h), rfl, rfl, hm, hsW, y0, Kd.R_nil _ _ _ _ _, hW1, hF1, by omega, by omega⟩
  case round =>
    obtain ⟨D, R, B, n0, n1, n2, bo, hT, hD, rfl, rfl, hmin, hBs, hbox, hR, hQ, hF, hk1, hk2⟩ := hrel
    obtain ⟨g1, rfl⟩ : ∃ g1, gk = g1 + 1 := ⟨gk - 1, by omega⟩
    obtain ⟨⟨c0, c1⟩, c2⟩ := cell_of3 hbox
    have hDl : D.length ≤ 2048 := by have := congrArg List.length hT; rw [List.length_append] at this; omega
    cases R with
    | nil =>
      cases hmin
      have hsp := due_split (D := D) (R := []) (now := now) (by rw [← hT]; exact hqi.sorted) hD (fun _ _ e => by cases e)
      rw [← hT] at hsp
      have hT' := Lib.hid hT
      clear hT
      go_wp2_with fail
      go_ret
      rw [hsp.1, hsp.2]
      exact ⟨_, rfl, RT.of_R hR (Nat.le_refl _), hQ, hF⟩
    | cons x R =>
      cases hmin
      by_cases hx : n0 ≤ now
      · have dx : decide (n0 ≤ now) = true := decide_eq_true hx
        have hT' := Lib.hid hT
        clear hT
        go_wp2_with fail
        go_at_call 17
        refine (can_T n2 hQ).mono ?_
        rintro e w1 ⟨rfl, hQ1, hk⟩
        have hch := can_head (qs_qi hQ)
        rw [show (⟨n0, n1, n2⟩ : S38).f2 = n2 from rfl] at hch
        rw [hch] at hQ1
        have hBl := blk_lt hbox
        have hbox1 := (hk.block B hBl (by omega) (by omega) (by omega)).trans hbox
        have hR1 : Kd.R k38 38 w1 w.heap.size (fun k => k ≠ B) u5 D := Kd.R_mono (Kd.R_step (Kd.R_bound hR) (fun k hk1 hk2 => hk.block k hk2 (by have := hk1.2.1; omega) (by have := hk1.2.1; omega) (by have := hk1.2.1; omega))) (fun k hk => hk.1)
        have hF1 := hF.trans hk
        have hs1 : w.heap.size ≤ w1.heap.size := hF1.size
        have hBl1 := blk_lt hbox1
        obtain ⟨⟨e0, e1⟩, e2⟩ := cell_of3 hbox1
        clear hQ hR hF hbox c0 c1 c2
        generalize (ListM.mCan p (⟨n0, n1, n2⟩ :: R) n2).2 = cc at *
        obtain ⟨⟨t0, t1, t2⟩, tc2⟩ := cc
        simp only [tv]
        go_wp2_with ((with_reducible refine gate_builtin (b := .append) (xs := #[.tmp 29, .tmp 31]) rfl ?_); at_builtin; refine Kd.R_append k38 (w0 := w1) w.heap.size rfl (.tmp 29) (.tmp 31) 25 38 (.agg #[(.int .u64 0), (.int .u64 0), (.int .i64 0)]) 24 rfl Try.underlying25 info38 rfl (by decide) (by omega) _ D (⟨n0, n1, n2⟩ : S38) [.int .u64 n0, .int .u64 n1, .int .i64 n2] (fun k => k ≠ B) (fun _ => False) rfl rfl ?aP (fun _ hk => hk.elim) ?aF ?aO ?aB ?aS ?aL ?_; (case aP => exact k38_mkM _ _ _ (⟨n0, n1, n2⟩ : S38)); (case aB => exact Below.refl _ _); (case aF => exact (fun k hk => by omega)); (case aO => exact hR1); (case aS => exact hs1); (case aL => omega); intro v3 w3 ho hb3 hg hat; have hbox3 := (hg.block B hBl1 (fun e => hR1.1 B e.symm rfl)).trans hbox1; obtain ⟨⟨g0, g1⟩, g2⟩ := cell_of3 hbox3)
        clear hat hg hbox1 e0 e1 e2
        have hQ3 := qs_low hQ1 hb3 hln.2
        have hF3 := fr_low hF1 hb3
        have hs3 : w.heap.size ≤ w3.heap.size := hF3.size
        have hbx3 := blk_lt hbox3
        have hR3 : Kd.R k38 38 (w3.alloc (.cells #[.int .u64 n0, .int .u64 n1, .int .i64 n2] 38)) w.heap.size (fun k => k ≠ w3.heap.size) v3 (D ++ [⟨n0, n1, n2⟩]) := Kd.R_alloc (Kd.R_mono (Kd.R_bound ho) (fun k hk => by have := hk.2.2.1; omega)) _
        have y3 := World.alloc_heap_new w3 (.cells #[.int .u64 n0, .int .u64 n1, .int .i64 n2] 38)
        have hQ4 := hQ3.alloc (.cells #[.int .u64 n0, .int .u64 n1, .int .i64 n2] 38)
        have hF4 := hF3.alloc (.cells #[.int .u64 n0, .int .u64 n1, .int .i64 n2] 38)
        clear hR1 ho hb3 hQ1 hF1 hbox3 g0 g1 g2 hQ3 hF3
        go_at_call 15
        refine (min_T hQ4).mono ?_
        rintro e w5 ⟨rfl, hb5⟩
        have hQ5 := hQ4.below hb5
        have hF5 := hF4.trans (Fr.of_below hb5)
        have hR5 := Kd.R_below hR3 hb5
        have hbox5 := below_blk hb5 y3 (by simp)
        obtain ⟨mm, bo, hmm⟩ : ∃ mm bo, minT R = (mm, bo) := ⟨_, _, rfl⟩
        obtain ⟨k0, k1', k2⟩ := mm
        rw [hmm]
        obtain ⟨⟨j0, j1⟩, j2⟩ := cell_of3 hbox5
        have i0 := blk_frozen hbox5 0
        have i1 := blk_frozen hbox5 1
        have i2 := blk_frozen hbox5 2
        clear hQ4 hF4 hR3 y3
        have hbb : w5.heap.size = w5.heap.size := rfl
        generalize w3.alloc (.cells #[.int .u64 n0, .int .u64 n1, .int .i64 n2] 38) = W4 at *
        generalize w3.heap.size = B2 at *
        have hB2s := hs3
        simp only [tv]
        go_wp2_with fail
        go_roundg g1
        case measure => omega
        case rel =>
          refine ⟨D ++ [⟨n0, n1, n2⟩], R, B2, k0, k1', k2, bo, by rw [hT'.out]; simp, ?_, rfl, rfl, hmm, hB2s, put3 hbox5 _ _ _, ?_, ?_, ((hF5.far (p := ⟨B2, 0, none⟩) hB2s _).far (p := ⟨B2, 1, none⟩) hB2s _).far (p := ⟨B2, 2, none⟩) hB2s _, ?_, ?_⟩
          · intro a ha
            rcases List.mem_append.1 ha with r | r
            · exact hD a r
            · rw [List.mem_singleton.1 r]; exact hx
          · exact Kd.R_far (Kd.R_far (Kd.R_far hR5 (fun k hk => hk) _) (fun k hk => hk) _) (fun k hk => hk) _
          · exact qs_low hQ5 (below_put3 (Below.refl _ _) hB2s _ _ _) hln.2
          · simp only [List.length_cons] at hk1; omega
          · omega
      · have dx : decide (n0 ≤ now) = false := decide_eq_false hx
        have hsp := due_split (D := D) (R := ⟨n0, n1, n2⟩ :: R) (now := now) (by rw [← hT]; exact hqi.sorted) hD (fun y R' e => by cases e; exact hx)
        rw [← hT] at hsp
        have hT' := Lib.hid hT
        have hsp' := Lib.hid hsp
        clear hT hsp
        go_wp2_with fail
        go_ret
        rw [hsp'.out.1, hsp'.out.2]
        exact ⟨_, rfl, RT.of_R hR (Nat.le_refl _), hQ, hF⟩
end Go.Proofs.Ytokhbiaaaflphaa.ListF
