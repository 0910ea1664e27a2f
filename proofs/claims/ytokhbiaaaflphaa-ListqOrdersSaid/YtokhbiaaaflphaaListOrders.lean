/-
  Queues: the law ListqOrders, walked.
  No condition.
-/
import Derived.Test.YtokhbiaaaflphaaListK
namespace Go.Proofs.Ytokhbiaaaflphaa.ListOrders
open Go.Proofs.Ytokhbiaaaflphaa.ListW Go.Proofs.Ytokhbiaaaflphaa.ListK Go.RowKit Go.Shelf Go.Proofs.Ytokhbiaaaflphaa.ChainA Go.Proofs.Ytokhbiaaaflphaa.ListM Go.Proofs.Ytokhbiaaaflphaa.ListA Go.Proofs.Ytokhbiaaaflphaa.ListB Go.Proofs.Ytokhbiaaaflphaa.ListE Go.Proofs.Ytokhbiaaaflphaa.ListF Go.Proofs.Ytokhbiaaaflphaa.ListR Go.Proofs.Ytokhbiaaaflphaa.ListG Go.Proofs.Ytokhbiaaaflphaa.ListH Go.Proofs.Ytokhbiaaaflphaa.ListI Go.Proofs.Ytokhbiaaaflphaa.GListqPlays Go.Proofs.YtokhbiaaaflphaaW.PrintWords Go.Proofs.YtokhbiaaaflphaaW.PrintLast Go.Proofs.YtokhbiaaaflphaaW.PrintMore
set_option linter.unusedVariables false
set_option linter.unusedSimpArgs false
variable {w : World} {q gT g b p : Nat} {P : Nat → Prop} {T T0 T1 : List S38} {v : Value}

/-! Plain: the same timers in order are the same row. -/
theorem sorted_eq : ∀ A B : List S38, A.Pairwise bef → B.Pairwise bef → A.Perm B → A = B
  | [], B, _, _, h => List.Perm.nil_eq h
  | a :: A, [], _, _, h => absurd h.length_eq (by simp)
  | a :: A, c :: B, hA, hB, h => by
    have h1 := List.pairwise_cons.1 hA
    have h2 := List.pairwise_cons.1 hB
    by_cases e : a = c
    · subst e
      rw [sorted_eq A B h1.2 h2.2 (List.Perm.cons_inv h)]
    · have m1 : a ∈ B := by
        rcases List.mem_cons.1 (h.mem_iff.1 List.mem_cons_self) with q | q
        · exact absurd q e
        · exact q
      have m2 : c ∈ A := by
        rcases List.mem_cons.1 (h.mem_iff.2 List.mem_cons_self) with q | q
        · exact absurd q.symm e
        · exact q
      exact absurd (h2.1 a m1) (bef_asymm (h1.1 c m2))
theorem put_perm (T : List S38) (t : S38) : (putT T t).Perm (t :: T) := by
  unfold putT
  refine List.perm_middle.trans ?_
  rw [List.take_append_drop]
theorem put_snoc {T L : List S38} (t : S38) (h : T.Perm L) : (putT T t).Perm (L ++ [t]) :=
  (put_perm T t).trans ((h.cons t).trans (List.perm_append_singleton t L).symm)
theorem mIn_zero {T T' : List S38} {t : S38} (h : ListM.mIn p T t = (T', 0)) : T' = putT T t := by
  unfold ListM.mIn at h
  split at h
  · split at h
    · exact absurd (congrArg Prod.snd h) (show ¬ (4 : Int) = 0 by decide)
    · exact (congrArg Prod.fst h).symm
  · exact absurd (congrArg Prod.snd h) (show ¬ (1 : Int) = 0 by decide)
theorem mIn_other {T T' : List S38} {t : S38} {c : Int} (h : ListM.mIn p T t = (T', c)) (hc : c ≠ 0) : T' = T := by
  unfold ListM.mIn at h
  split at h
  · split at h
    · exact (congrArg Prod.fst h).symm
    · exact absurd (congrArg Prod.snd h).symm hc
  · exact (congrArg Prod.fst h).symm
/-- A timer of those that pend goes into another queue, in which just those ahead of it lie. -/
theorem mIn_next {T L U : List S38} (hQ : QI p T) (hL : L.Perm T) (k : Nat) (hk : k < L.length) (hU : U.Perm (L.take k)) : ListM.mIn p U (tn L k) = (putT U (tn L k), 0) := by
  have e : tn L k = L[k] := by unfold tn; rw [List.getD_eq_getElem?_getD, List.getElem?_eq_getElem hk]; rfl
  rw [e]
  have hm : L[k] ∈ T := hL.mem_iff.1 (List.getElem_mem hk)
  have hf : findT U L[k].f2 = none := by
    cases hf : findT U L[k].f2 with
    | none => rfl
    | some a =>
      exfalso
      obtain ⟨h1, h2⟩ := findT_some hf
      have h3 := hU.mem_iff.1 h1
      obtain ⟨i, hi, hi2⟩ := List.getElem_of_mem h3
      rw [List.length_take] at hi
      rw [List.getElem_take] at hi2
      have hn : (L.map S38.f2).Nodup := (hL.map S38.f2).nodup_iff.2 hQ.dist
      have h4 := List.pairwise_iff_getElem.1 hn i k (by rw [List.length_map]; omega) (by rw [List.length_map]; exact hk) (by omega)
      rw [List.getElem_map, List.getElem_map, hi2, h2] at h4
      exact h4 rfl
  unfold ListM.mIn
  rw [if_pos (hQ.place _ hm), hf, if_neg (by simp)]
theorem take_snoc_tn (L : List S38) (k : Nat) (hk : k < L.length) : L.take (k + 1) = L.take k ++ [tn L k] := by
  rw [List.take_add_one, List.getElem?_eq_getElem hk]
  unfold tn
  rw [List.getD_eq_getElem?_getD, List.getElem?_eq_getElem hk]; rfl
theorem swap_perm (L : List S38) (j k : Nat) (hj : j < L.length) (hk : k < L.length) : ((L.set j (tn L k)).set k (tn L j)).Perm L := by
  have e1 : tn L j = L[j] := by unfold tn; rw [List.getD_eq_getElem?_getD, List.getElem?_eq_getElem hj]; rfl
  have e2 : tn L k = L[k] := by unfold tn; rw [List.getD_eq_getElem?_getD, List.getElem?_eq_getElem hk]; rfl
  rw [e1, e2]
  exact List.set_set_perm hj hk
/-! A row of the call's own, in its block. -/
theorem reps_tc : ∀ (L : List S38) (cs : List Value), cs.length = L.length * 3 → (∀ (j : Nat) x, L[j]? = some x → (cs.drop (j * 3)).take 3 = [.int .u64 x.f0, .int .u64 x.f1, .int .i64 x.f2]) → cs = tc L
  | [], cs, h, _ => List.eq_nil_of_length_eq_zero (by simpa using h)
  | a :: L, cs, h, hj => by
    have h0 := hj 0 a rfl
    rw [Nat.zero_mul, List.drop_zero] at h0
    have h1 := reps_tc L (cs.drop 3) (by rw [List.length_drop, h, List.length_cons]; omega) (fun j x hx => by
      have := hj (j + 1) x hx
      rw [List.drop_drop, show 3 + j * 3 = (j + 1) * 3 by omega]
      exact this)
    rw [← List.take_append_drop 3 cs, h0, h1]
    rfl
theorem own_row {base : Nat} {ok : Nat → Prop} {v : Value} {L : List S38} (h : Kd.R k38 38 w base ok v L) (hn : 0 < L.length) : ∃ gr cap ex, v = .slice (some ⟨gr, 0, none⟩) L.length cap ∧ base ≤ gr ∧ L.length ≤ cap ∧ w.heap[gr]? = some (.cells (tc L ++ ex).toArray 38 (0, 0)) := by
  obtain ⟨h0, inner, ⟨hlen, hown⟩, hr⟩ := h
  rcases hown with ⟨_, h1⟩ | ⟨gr, cap, cur, h1, h2, h3, h4, h5, h6, h7⟩
  · omega
  · have e : inner = tc L := reps_tc L inner hr.1 (fun j x hx => k38_openM (hr.2 j x hx))
    refine ⟨gr, cap, cur.toList.drop (L.length * k38.sz), h1, h2, h4, ?_⟩
    rw [← e, ← h7, List.take_append_drop]
    exact h3
theorem tc_lt (L : List S38) (j r : Nat) (hj : j < L.length) (hr : r < 3) : j * 3 + r < (tc L).length := by rw [tc_len]; omega
theorem row_cell {W : World} {gr : Nat} {L : List S38} {ex : List Value} (h : W.heap[gr]? = some (.cells (tc L ++ ex).toArray 38 (0, 0))) (j : Nat) (hj : j < L.length) :
    (W.cell? ⟨gr, j * 3, none⟩ = some (.int .u64 (tn L j).f0) ∧ W.cell? ⟨gr, j * 3 + 1, none⟩ = some (.int .u64 (tn L j).f1)) ∧ W.cell? ⟨gr, j * 3 + 2, none⟩ = some (.int .i64 (tn L j).f2) := by
  have key : ∀ r, r < 3 → W.cell? ⟨gr, j * 3 + r, none⟩ = (tc L)[j * 3 + r]? := fun r hr => by
    rw [blk_cell h, List.getElem?_toArray, List.getElem?_append_left (tc_lt L j r hj hr)]
  exact ⟨⟨(key 0 (by omega)).trans (tc_0 L j hj), (key 1 (by omega)).trans (tc_1 L j hj)⟩, (key 2 (by omega)).trans (tc_2 L j hj)⟩
theorem row_put {W : World} {gr : Nat} {L : List S38} {ex : List Value} (h : W.heap[gr]? = some (.cells (tc L ++ ex).toArray 38 (0, 0))) (j : Nat) (hj : j < L.length) (t : S38) :
    (((W.setCell ⟨gr, j * 3, none⟩ (.int .u64 t.f0)).setCell ⟨gr, j * 3 + 1, none⟩ (.int .u64 t.f1)).setCell ⟨gr, j * 3 + 2, none⟩ (.int .i64 t.f2)).heap[gr]? = some (.cells (tc (L.set j t) ++ ex).toArray 38 (0, 0)) := by
  have l0 := tc_lt L j 0 hj (by omega)
  have l1 := tc_lt L j 1 hj (by omega)
  have l2 := tc_lt L j 2 hj (by omega)
  refine blk_put (blk_put (blk_put h (j * 3) _ rfl) (j * 3 + 1) _ rfl) (j * 3 + 2) _ ?_
  rw [List.setIfInBounds_toArray, List.setIfInBounds_toArray, List.setIfInBounds_toArray, List.set_append_left _ _ (by simpa using l0), List.set_append_left _ _ (by rw [List.length_set]; exact l1), List.set_append_left _ _ (by rw [List.length_set, List.length_set]; exact l2), tc_set t L j hj]
/-- Two queues, of whose blocks none is both's. -/
structure W2 (w W : World) (q gT g b o oT og ob p : Nat) (T U : List S38) : Prop where
  a : WS w W q gT g b p T
  c : WS w W o oT og ob p U
  n1 : ∀ i, i = q ∨ i = gT ∨ i = g ∨ i = b → i ≠ o ∧ i ≠ oT ∧ i ≠ ob
  n2 : ∀ i, i = o ∨ i = oT ∨ i = og ∨ i = ob → i ≠ q ∧ i ≠ gT ∧ i ≠ b
section
variable {W W' : World} {o oT og ob : Nat} {U T' U' : List S38}
theorem w2_below (h : W2 w W q gT g b o oT og ob p T U) (k : Below W.heap.size W W') : W2 w W' q gT g b o oT og ob p T U := ⟨h.a.below k, h.c.below k, h.n1, h.n2⟩
theorem w2_fst (h : W2 w W q gT g b o oT og ob p T U) (k : WS w W' q gT g b p T' ∧ Fr q gT b W W') : W2 w W' q gT g b o oT og ob p T' U := ⟨k.1, ⟨h.c.qs.fr k.2 h.n2, h.c.lo, k.1.bel⟩, h.n1, h.n2⟩
theorem w2_snd (h : W2 w W q gT g b o oT og ob p T U) (k : WS w W' o oT og ob p U' ∧ Fr o oT ob W W') : W2 w W' q gT g b o oT og ob p T U' := ⟨⟨h.a.qs.fr k.2 h.n1, h.a.lo, k.1.bel⟩, k.1, h.n1, h.n2⟩
theorem w2_low {m : Nat} (h : W2 w W q gT g b o oT og ob p T U) (k : Below m W W') (hm : q < m ∧ gT < m ∧ g < m ∧ b < m) (ho : o < m ∧ oT < m ∧ og < m ∧ ob < m) (hw : w.heap.size ≤ m) : W2 w W' q gT g b o oT og ob p T U :=
  ⟨⟨qs_low h.a.qs k hm, h.a.lo, h.a.bel.trans (k.mono hw)⟩, ⟨qs_low h.c.qs k ho, h.c.lo, h.a.bel.trans (k.mono hw)⟩, h.n1, h.n2⟩
end
theorem wrap_small (m : Nat) (h : m < 256) : IntKind.i64.wrap (m : Int) = (m : Int) := by
  have e : (m : Int) % (2 ^ 64 : Int) = m := by omega
  unfold IntKind.wrap
  simp only [IntKind.bits, IntKind.signed, e]
  rw [if_neg]
  simp
  omega
theorem u8_nat {a : Int} (h : (Lit.int .u8 a).wf = true) : ∃ n : Nat, a = n ∧ n < 256 := by
  simp -implicitDefEqProofs only [Lit.wf, IntKind.min, IntKind.max, IntKind.signed, IntKind.bits, Bool.and_eq_true] at h
  obtain ⟨h1, h2⟩ := h
  have h1 := of_decide_eq_true h1
  have h2 := of_decide_eq_true h2
  simp at h1 h2
  exact ⟨a.toNat, by omega, by omega⟩
set_option maxRecDepth 100000 in
set_option maxHeartbeats 4000000 in
theorem orders_calls (p : Int) (A : Option Addr) (cap : Nat) (ls : List S38) (B : Option Addr) (bcap : Nat) (ts : List Int) (w : World) (hC : Kd.C k38 w A ls.length ls) (hD : Kd.C (Kd.int .u8) w B ts.length ts) (hts : ∀ x ∈ ts, (Lit.int .u8 x).wf = true) (hmx : ls.length ≤ 140737488355328) (hmy : ts.length ≤ 140737488355328) :
    Calls Try.prog 6 #[.int .i64 p, .slice A ls.length cap, .slice B ts.length bcap] w fun e w' => e = .returned (.bool true) ∧ Below w.heap.size w w' := by
  obtain ⟨nl, hnl⟩ : ∃ n, n = ls.length := ⟨_, rfl⟩
  obtain ⟨nt, hnt⟩ : ∃ n, n = ts.length := ⟨_, rfl⟩
  rw [← hnl] at hC hmx ⊢
  rw [← hnt] at hD hmy ⊢
  by_cases hlen : 40 < nl ∨ nl = 0 ∨ 100 < nt
  · by_cases h1 : 40 < nl
    · have d0 : decide ((40 : Int) < (nl : Int)) = true := decide_eq_true (by omega)
      clear hnl hnt hlen
      go_enter Try.func6, Try.ntmps6
      go_wp2_with fail
      go_at_call 7
      refine (works_calls _).mono ?_
      rintro e w1 ⟨rfl, k1⟩
      simp only []
      go_wp2_with fail
      go_ret
      exact ⟨rfl, k1⟩
    have d0 : decide ((40 : Int) < (nl : Int)) = false := decide_eq_false (by omega)
    by_cases h2 : nl = 0
    · have d1 : decide ((nl : Int) = 0) = true := decide_eq_true (by omega)
      subst h2
      clear hnl hnt hlen
      go_enter Try.func6, Try.ntmps6
      go_wp2_with fail
      go_at_call 7
      refine (works_calls _).mono ?_
      rintro e w1 ⟨rfl, k1⟩
      simp only []
      go_wp2_with fail
      go_ret
      exact ⟨rfl, k1⟩
    have d1 : decide ((nl : Int) = 0) = false := decide_eq_false (by omega)
    have d1' : decide (nl = 0) = false := decide_eq_false h2
    have d2 : decide ((100 : Int) < (nt : Int)) = true := decide_eq_true (by omega)
    clear hnl hnt hlen
    go_enter Try.func6, Try.ntmps6
    go_wp2_with fail
    go_at_call 7
    refine (works_calls _).mono ?_
    rintro e w1 ⟨rfl, k1⟩
    simp only []
    go_wp2_with fail
    go_ret
    exact ⟨rfl, k1⟩
  have d0 : decide ((40 : Int) < (nl : Int)) = false := decide_eq_false (by omega)
  have d1 : decide ((nl : Int) = 0) = false := decide_eq_false (by omega)
  have d1' : decide (nl = 0) = false := decide_eq_false (by omega)
  have d1'' : ¬ nl = 0 := by omega
  have d3 : ((nl : Int) == 0) = false := by rw [beq_eq_false_iff_ne]; omega
  have d4 : (nl == 0) = false := by rw [beq_eq_false_iff_ne]; omega
  have d2 : decide ((100 : Int) < (nt : Int)) = false := decide_eq_false (by omega)
  have hnl' := Lib.hid hnl
  have hnt' := Lib.hid hnt
  have hl40 : nl ≤ 40 := by omega
  clear hnl hnt
  go_enter Try.func6, Try.ntmps6
  go_wp2_with fail
  go_at_call 7
  refine (works_calls _).mono ?_
  rintro e w1 ⟨rfl, k1⟩
  simp only []
  go_wp2_with fail
  go_at_call 19
  by_cases hbad : p < 0 ∨ 1024 < p
  · refine (new_no p _ hbad).mono ?_
    rintro e w2 ⟨rfl, rfl⟩
    simp only []
    go_wp2_with fail
    go_at_call 19
    refine (new_no p _ hbad).mono ?_
    rintro e w2 ⟨rfl, rfl⟩
    simp only []
    go_wp2_with fail
    go_ret
    exact ⟨rfl, k1⟩
  obtain ⟨pn, rfl⟩ : ∃ n : Nat, p = n := ⟨p.toNat, by omega⟩
  refine (new_T pn _ (by omega)).mono ?_
  rintro e w2 ⟨q, gT, g, b, rfl, hQ, hlo, k2⟩
  have hz1 := k1.size
  have S2 : WS w w2 q gT g b pn [] := ⟨hQ, by omega, k1.trans (k2.mono hz1)⟩
  have hz2 := ws_lt S2
  simp only []
  go_wp2_with fail
  go_at_call 19
  refine (new_T pn _ (by omega)).mono ?_
  rintro e w3 ⟨o, oT, og, ob, rfl, hO, hlo3, k3⟩
  have hs2 := S2.bel.size
  have D3 : W2 w w3 q gT g b o oT og ob pn [] [] := ⟨S2.below k3, ⟨hO, by omega, S2.bel.trans (k3.mono hs2)⟩, fun i hi => by omega, fun i hi => by omega⟩
  have hq3 := ws_lt D3.a
  have ho3 := ws_lt D3.c
  have hw3 := D3.a.bel.size
  clear hQ hlo k2 S2 hz2 hO hlo3 k3 hs2 hz1 k1
  simp only []
  go_wp2_with fail
  obtain ⟨bs, hbs⟩ : ∃ n, n = w3.heap.size := ⟨_, rfl⟩
  rw [← hbs] at hq3 ho3 hw3
  go_loopw [12, 13] (fun v i wr => ∃ (k : Nat) (T IL : List S38), i = .int .i64 (k : Int) ∧ k ≤ nl ∧ W2 w wr q gT g b o oT og ob pn T [] ∧ Kd.R k38 38 wr bs (fun _ => True) v IL ∧ T.Perm IL ∧ IL.length ≤ k ∧ bs ≤ wr.heap.size) (fun _ i _ => nl - (intOf i).toNat)
  case atStart => exact ⟨0, [], [], rfl, Nat.zero_le _, D3, Kd.R_nil _ _ _ _ _, List.Perm.refl _, Nat.le_refl _, by omega⟩
  case round =>
    obtain ⟨k, T, IL, rfl, hk, hW, hR, hP, hIL, hbw⟩ := hrel
    clear D3 hbs
    by_cases hlt : k < nl
    · have dk : decide ((k : Int) < (nl : Int)) = true := decide_eq_true (by omega)
      have hk0 : (0 : Int) ≤ (k : Int) := by omega
      have hk1 : (k : Int) < (nl : Int) := by omega
      have hC1 := Kd.C_below hC hW.a.bel
      obtain ⟨ad, rfl, a0, a1, a2⟩ := at_T38 hC1 (k : Int) (by omega) (by omega)
      rw [Int.toNat_natCast] at a0 a1 a2
      obtain ⟨t, ht⟩ : ∃ t, t = rd_T38 ls (k : Int) := ⟨_, rfl⟩
      rw [← ht] at a0 a1 a2
      have ht' := Lib.hid ht
      clear ht
      obtain ⟨t0, t1, t2⟩ := t
      simp only at a0 a1 a2
      go_wp2_with fail
      go_at_call 18
      obtain ⟨T', c, hm⟩ : ∃ T' c, ListM.mIn pn T ⟨t0, t1, t2⟩ = (T', c) := ⟨_, _, rfl⟩
      refine (ins_lit hm hW.a).mono ?_
      rintro e w4 ⟨rfl, k4⟩
      have hW4 := w2_fst hW k4
      have hR4 : Kd.R k38 38 w4 bs (fun _ => True) u12 IL := Kd.R_mono (Kd.R_step (Kd.R_bound hR) (fun i hi hl => k4.2.block i hl (by have := hi.2.1; omega) (by have := hi.2.1; omega) (by have := hi.2.1; omega))) (fun _ _ => trivial)
      have hs4 := k4.2.size
      clear a0 a1 a2 hC1 hR k4
      by_cases hc : c = 0
      · subst hc
        have hT' := mIn_zero hm
        have hC4 := Kd.C_below hC hW4.a.bel
        obtain ⟨ad2, e2, a0, a1, a2⟩ := at_T38 hC4 (k : Int) (by omega) (by omega)
        obtain rfl : ad = ad2 := Option.some.inj e2
        rw [Int.toNat_natCast, ← ht'.out] at a0 a1 a2
        simp only at a0 a1 a2
        clear hm e2
        simp only []
        have hs5 : bs ≤ w4.heap.size := by omega
        go_wp2_with ((with_reducible refine gate_builtin (b := .append) (xs := #[.tmp 83, .tmp 88]) rfl ?_); at_builtin; refine Kd.R_append k38 (w0 := w4) bs rfl (.tmp 83) (.tmp 88) 25 38 (.agg #[(.int .u64 0), (.int .u64 0), (.int .i64 0)]) 24 rfl Try.underlying25 info38 rfl (by decide) (by omega) _ IL (⟨t0, t1, t2⟩ : S38) [.int .u64 t0, .int .u64 t1, .int .i64 t2] (fun _ => True) (fun _ => False) rfl rfl ?aP (fun _ hk => hk.elim) ?aF ?aO ?aB ?aS ?aL ?_; (case aP => exact k38_mkM _ _ _ (⟨t0, t1, t2⟩ : S38)); (case aB => exact Below.refl _ _); (case aF => exact (fun _ _ => trivial)); (case aO => exact hR4); (case aS => exact hs5); (case aL => omega); intro v3 w5 ho hb3 hg hat; clear hg hat)
        go_roundw
        case rel => exact ⟨k + 1, T', IL ++ [⟨t0, t1, t2⟩], by simp, by omega, w2_low hW4 hb3 hq3 ho3 hw3, ho, by rw [hT']; exact put_snoc _ hP, by rw [List.length_append, List.length_singleton]; omega, Nat.le_trans hs5 hb3.size⟩
        case measure => simp only [intOf]; omega
      · have hT' := mIn_other hm hc
        have dc : decide (c = 0) = false := decide_eq_false hc
        clear hm
        simp only []
        go_wp2_with fail
        go_roundw
        case rel => exact ⟨k + 1, T', IL, by simp, by omega, hW4, hR4, by rw [hT']; exact hP, by omega, by omega⟩
        case measure => simp only [intOf]; omega
    · have hkn : k = nl := by omega
      subst hkn
      have dk : decide ((k : Int) < (k : Int)) = false := decide_eq_false (by omega)
      obtain ⟨A', c', rfl⟩ := Kd.R_slice hR
      obtain ⟨n, hn⟩ : ∃ n, n = IL.length := ⟨_, rfl⟩
      have hlT : T.length = n := by rw [hn]; exact hP.length_eq
      by_cases hz : n = 0
      · subst hz
        obtain rfl : IL = [] := List.eq_nil_of_length_eq_zero hn.symm
        obtain rfl : T = [] := List.eq_nil_of_length_eq_zero hlT
        have hlT' := Lib.hid hlT
        clear hR hP hn hlT
        by_cases hz2 : 0 < nt
        · have e1 : decide ((0 : Int) < (nt : Int)) = true := decide_eq_true (by omega)
          have e2 : (0 : Int) < (nt : Int) := by omega
          have e3 : decide (0 < nt) = true := decide_eq_true hz2
          go_wp2_with fail
          refine wp_loop_rounds 1 ?_
          rw [rounds_succ]
          go_wp2_with fail
          refine wp_loop_rounds 1 ?_
          rw [rounds_succ]
          go_wp2_with fail
          go_at_call 10
          refine (all_as hW.a rfl).mono ?_
          rintro e w20 ⟨B0, b0, rfl, g0, g1, k20⟩
          have V20 := w2_below hW k20
          simp only []
          go_wp2_with fail
          go_at_call 10
          refine (all_as V20.c rfl).mono ?_
          rintro e w21 ⟨B1, b1, rfl, g2, g3, k21⟩
          have V21 := w2_below V20 k21
          have g4 := Kd.C_below g0 k21
          have hl9 := (qs_lens V21.a.qs).1
          clear V20 k20 k21 g0
          simp only []
          go_wp2_with fail
          go_at_call 12
          refine (same_yes g4 g1 g2 g3 (by omega)).mono ?_
          rintro e w22 ⟨rfl, k22⟩
          have V22 := w2_below V21 k22
          clear V21 g4 g1 g2 g3
          simp only []
          go_wp2_with fail
          go_at_call 20
          refine (len_as (n := 0) rfl V22.a).mono ?_
          rintro e w23 ⟨rfl, rfl⟩
          simp only []
          go_wp2_with fail
          go_ret
          exact ⟨rfl, V22.a.bel⟩
        · have e1 : decide ((0 : Int) < (nt : Int)) = false := decide_eq_false (by omega)
          have e3 : decide (0 < nt) = false := decide_eq_false hz2
          go_wp2_with fail
          refine wp_loop_rounds 1 ?_
          rw [rounds_succ]
          go_wp2_with fail
          refine wp_loop_rounds 1 ?_
          rw [rounds_succ]
          go_wp2_with fail
          go_at_call 10
          refine (all_as hW.a rfl).mono ?_
          rintro e w20 ⟨B0, b0, rfl, g0, g1, k20⟩
          have V20 := w2_below hW k20
          simp only []
          go_wp2_with fail
          go_at_call 10
          refine (all_as V20.c rfl).mono ?_
          rintro e w21 ⟨B1, b1, rfl, g2, g3, k21⟩
          have V21 := w2_below V20 k21
          have g4 := Kd.C_below g0 k21
          have hl9 := (qs_lens V21.a.qs).1
          clear V20 k20 k21 g0
          simp only []
          go_wp2_with fail
          go_at_call 12
          refine (same_yes g4 g1 g2 g3 (by omega)).mono ?_
          rintro e w22 ⟨rfl, k22⟩
          have V22 := w2_below V21 k22
          clear V21 g4 g1 g2 g3
          simp only []
          go_wp2_with fail
          go_at_call 20
          refine (len_as (n := 0) rfl V22.a).mono ?_
          rintro e w23 ⟨rfl, rfl⟩
          simp only []
          go_wp2_with fail
          go_ret
          exact ⟨rfl, V22.a.bel⟩
      obtain ⟨gr, cc, ex, hv, hgr, hcc, hb⟩ := own_row hR (by omega)
      rw [← hn] at hv hcc ⊢
      obtain ⟨rfl, rfl⟩ : A' = some ⟨gr, 0, none⟩ ∧ c' = cc := by cases hv; exact ⟨rfl, rfl⟩
      clear hv hR
      have hn0 : decide ((0 : Int) < (n : Int)) = true := decide_eq_true (by omega)
      have hn1 : (0 : Int) < (n : Int) := by omega
      have hn2 : 0 < n := by omega
      have hn3 : n ≤ 40 := by omega
      have hn' := Lib.hid hn
      have hlT' := Lib.hid hlT
      clear hn hlT hcc
      go_wp2_with fail
      go_loopw [15] (fun i wr' => ∃ (k2 : Nat) (L : List S38), i = .int .i64 (k2 : Int) ∧ k2 ≤ nt ∧ L.Perm IL ∧ W2 w wr' q gT g b o oT og ob pn T [] ∧ wr'.heap[gr]? = some (.cells (tc L ++ ex).toArray 38 (0, 0)) ∧ bs ≤ wr'.heap.size) (fun i _ => nt - (intOf i).toNat)
      case atStart => exact ⟨0, IL, rfl, Nat.zero_le _, List.Perm.refl _, hW, hb, hbw⟩
      case round =>
        obtain ⟨k2, L, rfl, hk2, hPL, hW2, hb2, hbw2⟩ := hrel
        clear hW hb hbw hIL
        have hlL : L.length = n := by rw [hn'.out]; exact hPL.length_eq
        by_cases hlt2 : k2 < nt
        · have e1 : decide ((k2 : Int) < (nt : Int)) = true := decide_eq_true (by omega)
          have e2 : (0 : Int) ≤ (k2 : Int) := by omega
          have e3 : (k2 : Int) < (nt : Int) := by omega
          obtain ⟨adb, cs, rfl, _, hK, hcs⟩ := Kd.C_get (Kd.C_below hD hW2.a.bel) 0 (k2 : Int) e2 e3
          rw [Int.toNat_natCast] at hK hcs
          have hcell := hcs 0 _ (by rw [show cs = [.int .u8 (ts.getD k2 0)] from hK]; rfl)
          rw [show (Kd.int IntKind.u8).sz = 1 from rfl, Nat.mul_one, Nat.add_zero] at hcell
          have hmem : ts.getD k2 0 ∈ ts := by rw [List.getD_eq_getElem?_getD, List.getElem?_eq_getElem (by have := hnt'.out; omega)]; exact List.getElem_mem _
          obtain ⟨m, hm, hm2⟩ := u8_nat (hts _ hmem)
          rw [hm] at hcell
          clear hcs hK hmem hm
          go_wp2_with fail
          have q1 : Int.tmod (m : Int) (n : Int) = ((m % n : Nat) : Int) := (Int.ofNat_tmod m n).symm
          have q2 : Int.tmod (k2 : Int) (n : Int) = ((k2 % n : Nat) : Int) := (Int.ofNat_tmod k2 n).symm
          have hn4 : decide (n = 0) = false := decide_eq_false (by omega)
          have hn5 : ((n : Int) == 0) = false := by rw [beq_eq_false_iff_ne]; omega
          have hn6 : ¬ n = 0 := by omega
          go_region_held3 (fun w' => w'.cell? (adb.add k2) = some (.int .u8 (m : Int))) (go_keep) ((fail))
          have w6 : IntKind.i64.wrap (m : Int) = (m : Int) := wrap_small m hm2
          have q3 : (IntKind.i64.wrap (m : Int)).tmod (n : Int) = ((m % n : Nat) : Int) := by rw [w6]; exact q1
          have q4 : (k2 : Int) % (n : Int) = ((k2 % n : Nat) : Int) := by omega
          rw [q3, q4]
          have hj : m % n < n := Nat.mod_lt _ hn2
          have hkk : k2 % n < n := Nat.mod_lt _ hn2
          have hW3 := w2_below hW2 (show Below wr.heap.size wr wr.drew from ⟨rfl, rfl, rfl, Nat.le_refl _, fun _ _ => rfl⟩)
          have hb3 : wr.drew.heap[gr]? = some (.cells (tc L ++ ex).toArray 38 (0, 0)) := hb2
          have hbw3 : bs ≤ wr.drew.heap.size := hbw2
          clear q1 q2 q3 q4 w6 hcell hm2 hW2 hb2 hbw2 e2 e3
          generalize m % n = j at *
          generalize k2 % n = kk at *
          generalize wr.drew = W3 at *
          have j0 : (0 : Int) ≤ (j : Int) := by omega
          have j1 : (j : Int) < (n : Int) := by omega
          have k0 : (0 : Int) ≤ (kk : Int) := by omega
          have k1 : (kk : Int) < (n : Int) := by omega
          have hjL : j < L.length := by omega
          have hkL : kk < L.length := by omega
          obtain ⟨⟨x0, x1⟩, x2⟩ := row_cell hb3 j hjL
          have hb4 := blk_alloc hb3 (.cells #[.int .u64 (tn L j).f0, .int .u64 (tn L j).f1, .int .i64 (tn L j).f2] 38)
          have hx4 := World.alloc_heap_new W3 (.cells #[.int .u64 (tn L j).f0, .int .u64 (tn L j).f1, .int .i64 (tn L j).f2] 38)
          have hgr3 := blk_lt hb3
          have hg1 : gr ≠ W3.heap.size := by omega
          have hg2 : W3.heap.size ≠ gr := by omega
          clear hgr3
          obtain ⟨⟨y0, y1⟩, y2⟩ := row_cell hb4 kk hkL
          obtain ⟨⟨z0, z1⟩, z2⟩ := row_cell hb4 j hjL
          obtain ⟨⟨v0, v1⟩, v2⟩ := cell_of3 hx4
          have fj0 := blk_frozen hb4 (j * 3)
          have fj1 := blk_frozen hb4 (j * 3 + 1)
          have fj2 := blk_frozen hb4 (j * 3 + 2)
          have fk0 := blk_frozen hb4 (kk * 3)
          have fk1 := blk_frozen hb4 (kk * 3 + 1)
          have fk2 := blk_frozen hb4 (kk * 3 + 2)
          by_cases hjk : j = kk
          · subst hjk
            go_wp2_with fail
            go_roundw
            case rel =>
              have hb6 := row_put (row_put hb4 j hjL (tn L j)) j (by rw [List.length_set]; exact hkL) (tn L j)
              have B6 := (((((((Below.refl bs W3).alloc hbw3 (.cells #[.int .u64 (tn L j).f0, .int .u64 (tn L j).f1, .int .i64 (tn L j).f2] 38)).setCell (p := ⟨gr, j * 3, none⟩) hgr (.int .u64 (tn L j).f0)).setCell (p := ⟨gr, j * 3 + 1, none⟩) hgr (.int .u64 (tn L j).f1)).setCell (p := ⟨gr, j * 3 + 2, none⟩) hgr (.int .i64 (tn L j).f2)).setCell (p := ⟨gr, j * 3, none⟩) hgr (.int .u64 (tn L j).f0)).setCell (p := ⟨gr, j * 3 + 1, none⟩) hgr (.int .u64 (tn L j).f1)).setCell (p := ⟨gr, j * 3 + 2, none⟩) hgr (.int .i64 (tn L j).f2)
              exact ⟨k2 + 1, (L.set j (tn L j)).set j (tn L j), by simp, by omega, (swap_perm L j j hjL hkL).trans hPL, w2_low hW3 B6 hq3 ho3 hw3, hb6, Nat.le_trans hbw3 B6.size⟩
            case measure => simp only [intOf]; omega
          · have ne00 : ¬ (j * 3 = kk * 3) := by omega
            have me00 : ¬ (kk * 3 = j * 3) := by omega
            have ne01 : ¬ (j * 3 = kk * 3 + 1) := by omega
            have me01 : ¬ (kk * 3 + 1 = j * 3) := by omega
            have ne02 : ¬ (j * 3 = kk * 3 + 2) := by omega
            have me02 : ¬ (kk * 3 + 2 = j * 3) := by omega
            have ne10 : ¬ (j * 3 + 1 = kk * 3) := by omega
            have me10 : ¬ (kk * 3 = j * 3 + 1) := by omega
            have ne11 : ¬ (j * 3 + 1 = kk * 3 + 1) := by omega
            have me11 : ¬ (kk * 3 + 1 = j * 3 + 1) := by omega
            have ne12 : ¬ (j * 3 + 1 = kk * 3 + 2) := by omega
            have me12 : ¬ (kk * 3 + 2 = j * 3 + 1) := by omega
            have ne20 : ¬ (j * 3 + 2 = kk * 3) := by omega
            have me20 : ¬ (kk * 3 = j * 3 + 2) := by omega
            have ne21 : ¬ (j * 3 + 2 = kk * 3 + 1) := by omega
            have me21 : ¬ (kk * 3 + 1 = j * 3 + 2) := by omega
            have ne22 : ¬ (j * 3 + 2 = kk * 3 + 2) := by omega
            have me22 : ¬ (kk * 3 + 2 = j * 3 + 2) := by omega
            go_wp2_with fail
            go_roundw
            case rel =>
              have hb6 := row_put (row_put hb4 j hjL (tn L kk)) kk (by rw [List.length_set]; exact hkL) (tn L j)
              have B6 := (((((((Below.refl bs W3).alloc hbw3 (.cells #[.int .u64 (tn L j).f0, .int .u64 (tn L j).f1, .int .i64 (tn L j).f2] 38)).setCell (p := ⟨gr, j * 3, none⟩) hgr (.int .u64 (tn L kk).f0)).setCell (p := ⟨gr, j * 3 + 1, none⟩) hgr (.int .u64 (tn L kk).f1)).setCell (p := ⟨gr, j * 3 + 2, none⟩) hgr (.int .i64 (tn L kk).f2)).setCell (p := ⟨gr, kk * 3, none⟩) hgr (.int .u64 (tn L j).f0)).setCell (p := ⟨gr, kk * 3 + 1, none⟩) hgr (.int .u64 (tn L j).f1)).setCell (p := ⟨gr, kk * 3 + 2, none⟩) hgr (.int .i64 (tn L j).f2)
              exact ⟨k2 + 1, (L.set j (tn L kk)).set kk (tn L j), by simp, by omega, (swap_perm L j kk hjL hkL).trans hPL, w2_low hW3 B6 hq3 ho3 hw3, hb6, Nat.le_trans hbw3 B6.size⟩
            case measure => simp only [intOf]; omega
        · have hkn2 : k2 = nt := by omega
          subst hkn2
          have e1 : decide ((k2 : Int) < (k2 : Int)) = false := decide_eq_false (by omega)
          go_wp2_with fail
          go_loopw [19] (fun i wr' => ∃ (k3 : Nat) (U : List S38), i = .int .i64 (k3 : Int) ∧ k3 ≤ n ∧ U.Perm (L.take k3) ∧ W2 w wr' q gT g b o oT og ob pn T U ∧ wr'.heap[gr]? = some (.cells (tc L ++ ex).toArray 38 (0, 0))) (fun i _ => n - (intOf i).toNat)
          case atStart => exact ⟨0, [], rfl, Nat.zero_le _, List.Perm.refl _, hW2, hb2⟩
          case round =>
            obtain ⟨k3, U, rfl, hk3, hU, hW3, hb3⟩ := hrel
            clear hW2 hb2 hbw2
            by_cases hlt3 : k3 < n
            · have d9 : decide ((k3 : Int) < (n : Int)) = true := decide_eq_true (by omega)
              have r0 : (0 : Int) ≤ (k3 : Int) := by omega
              have r1 : (k3 : Int) < (n : Int) := by omega
              have hkL : k3 < L.length := by omega
              have hm := mIn_next (qs_qi hW3.a.qs) (hPL.trans hP.symm) k3 hkL hU
              obtain ⟨⟨x0, x1⟩, x2⟩ := row_cell hb3 k3 hkL
              go_wp2_with fail
              go_at_call 18
              refine (ins_lit (a := (tn L k3).f0) (b' := (tn L k3).f1) (c' := (tn L k3).f2) (T' := putT U (tn L k3)) (c := 0) hm hW3.c).mono ?_
              rintro e w9 ⟨rfl, k9⟩
              have hW4 := w2_snd hW3 k9
              have hb4 := fr_blk k9.2 hb3 (by omega)
              clear x0 x1 x2 hW3 hb3 k9 hm
              simp only []
              go_wp2_with fail
              go_roundw
              case rel => exact ⟨k3 + 1, putT U (tn L k3), by simp, by omega, by rw [take_snoc_tn L k3 hkL]; exact put_snoc _ hU, hW4, hb4⟩
              case measure => simp only [intOf]; omega
            · have hkn3 : k3 = n := by omega
              subst hkn3
              have d9 : decide ((k3 : Int) < (k3 : Int)) = false := decide_eq_false (by omega)
              rw [← hlL, List.take_length] at hU
              have hUT : U = T := sorted_eq U T (qs_qi hW3.c.qs).sorted (qs_qi hW3.a.qs).sorted (hU.trans (hPL.trans hP.symm))
              subst hUT
              clear hb3 hU hPL hP hn'
              go_wp2_with fail
              go_at_call 10
              refine (all_as hW3.a rfl).mono ?_
              rintro e w20 ⟨B0, b0, rfl, g0, g1, k20⟩
              have V20 := w2_below hW3 k20
              simp only []
              go_wp2_with fail
              go_at_call 10
              refine (all_as V20.c rfl).mono ?_
              rintro e w21 ⟨B1, b1, rfl, g2, g3, k21⟩
              have V21 := w2_below V20 k21
              have g4 := Kd.C_below g0 k21
              have hl9 := (qs_lens V21.a.qs).1
              clear V20 k20 k21 g0
              simp only []
              go_wp2_with fail
              go_at_call 12
              refine (same_yes g4 g1 g2 g3 (by omega)).mono ?_
              rintro e w22 ⟨rfl, k22⟩
              have V22 := w2_below V21 k22
              clear V21 g4 g1 g2 g3
              simp only []
              go_wp2_with fail
              go_at_call 20
              refine (len_as (n := (k3 : Int)) (by rw [hlT'.out]) V22.a).mono ?_
              rintro e w23 ⟨rfl, rfl⟩
              simp only []
              go_wp2_with fail
              go_ret
              exact ⟨rfl, V22.a.bel⟩
end Go.Proofs.Ytokhbiaaaflphaa.ListOrders
