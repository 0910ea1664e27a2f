/-
  Queues in memory: Insert: its words.
  No condition.
-/
import Derived.Test.YtokhbiaaaflphaaListC
import Derived.Shelf.RegionOpen
namespace Go.Proofs.Ytokhbiaaaflphaa.ListD
open Go.RowKit Go.Shelf Go.Proofs.Ytokhbiaaaflphaa.ChainA Go.Proofs.Ytokhbiaaaflphaa.ChainM Go.Proofs.Ytokhbiaaaflphaa.ChainN Go.Proofs.Ytokhbiaaaflphaa.ChainE Go.Proofs.Ytokhbiaaaflphaa.ListM Go.Proofs.Ytokhbiaaaflphaa.ListA Go.Proofs.Ytokhbiaaaflphaa.ListB Go.Proofs.Ytokhbiaaaflphaa.ListC Go.Proofs.Ytokhbiaaaflphaa.GListqPlays Go.Proofs.YtokhbiaaaflphaaW.PrintWords Go.Proofs.YtokhbiaaaflphaaW.PrintLast Go.Proofs.YtokhbiaaaflphaaW.PrintMore
set_option linter.unusedVariables false
set_option linter.unusedSimpArgs false
theorem keepsFrom_below {B : Nat} {W W' : World} (h : Below W.heap.size W W') : KeepsFrom B W W' :=
  ⟨h.size, fun k o _ hk _ => (h.block k (Array.getElem?_eq_some_iff.1 hk).1).trans hk⟩
theorem keepL_own {β : Type} {ks : List Nat} {W0 : World} {B : Nat} (hB : B ≤ W0.heap.size) (hk : ∀ k, k ∈ ks → k < B) : OwnFrom B (fun (_ : β) W => KeepL ks W0 W) := fun s W W' row hs hg hr k hm => by
  have h1 := hk k hm
  have h2 : k < W.heap.size := by
    have h3 : W.heap[k]? = some W0.heap[k] := by rw [hs k hm]; exact Array.getElem?_eq_getElem (by omega)
    exact (Array.getElem?_eq_some_iff.1 h3).1
  exact (hg.block k h2 (fun e => by have := (hr k e.symm).1; omega)).trans (hs k hm)
/-- Where one is put: ahead of this one; behind all, if -1. -/
def bh (pre : List Nat) : Int := match pre.getLast? with
  | some x => (x : Int)
  | none => -1
theorem bh_snoc (pre : List Nat) (x : Nat) : bh (pre ++ [x]) = x := by
  unfold bh; rw [List.getLast?_append]; rfl
theorem cmp_lt {a b : S38} (h : bef a b) : cmpT a b = -1 := by unfold cmpT; rw [if_pos h]
theorem cmp_ge {a b : S38} (h : ¬ bef a b) : decide (cmpT a b < 0) = false := by
  unfold cmpT; rw [if_neg h]; split <;> rfl
/-- What Insert leaves. -/
def InsPost (q gT g b p i : Nat) (t : S38) (ts : List S38) (l : List Nat) (w : World) (e : Ending) (w' : World) : Prop :=
  e = .returned (.int .i64 0) ∧ ∃ A B : List Nat, l = A ++ B ∧ (∀ x, x ∈ B → ¬ bef (tn ts x) t) ∧ (A = [] ∨ ∃ A' x, A = A' ++ [x] ∧ bef (tn ts x) t) ∧ QB w' q gT g b p (ts.set i t) (A ++ i :: B) ∧ Fr q gT b w w'
/-- The timer laid in its place, and one more counted. -/
def stored (W : World) (q gT i : Nat) (f0 f1 f2 m : Int) : World := (((W.setCell ⟨gT, i * 3, none⟩ (.int .u64 f0)).setCell ⟨gT, i * 3 + 1, none⟩ (.int .u64 f1)).setCell ⟨gT, i * 3 + 2, none⟩ (.int .i64 f2)).setCell ⟨q, 2, none⟩ (.int .i64 m)
theorem stored_far (W : World) (q gT i : Nat) (f0 f1 f2 m : Int) {k : Nat} (h1 : k ≠ q) (h2 : k ≠ gT) : (stored W q gT i f0 f1 f2 m).heap[k]? = W.heap[k]? := by
  unfold stored
  rw [Below.heap_setCell _ _ _ k h1, Below.heap_setCell _ _ _ k h2, Below.heap_setCell _ _ _ k h2, Below.heap_setCell _ _ _ k h2]
theorem stored_T {W : World} {q gT i : Nat} {t : S38} {m : Int} {ts : List S38} (h : W.heap[gT]? = some (.cells (tc ts).toArray 38 (0, 0))) (hi : i < ts.length) (hn : gT ≠ q) : (stored W q gT i t.f0 t.f1 t.f2 m).heap[gT]? = some (.cells (tc (ts.set i t)).toArray 38 (0, 0)) := by
  unfold stored
  rw [Below.heap_setCell _ _ _ gT hn, ← tc_set t ts i hi]
  exact blk_put (blk_put (blk_put h _ _ (by rw [List.setIfInBounds_toArray])) _ _ (by rw [List.setIfInBounds_toArray])) _ _ (by rw [List.setIfInBounds_toArray])
theorem stored_q {W : World} {q gT i : Nat} {f0 f1 f2 m m0 : Int} {u v : Value} (h : W.heap[q]? = some (.cells #[u, v, .int .i64 m0] 70 (0, 0))) (hn : q ≠ gT) : (stored W q gT i f0 f1 f2 m).heap[q]? = some (.cells #[u, v, .int .i64 m] 70 (0, 0)) := by
  unfold stored
  refine blk_put (cs := #[u, v, .int .i64 m0]) ?_ 2 _ rfl
  rw [Below.heap_setCell _ _ _ q hn, Below.heap_setCell _ _ _ q hn, Below.heap_setCell _ _ _ q hn]
  exact h
theorem stored_fr (W : World) (q gT b i : Nat) (f0 f1 f2 m : Int) : Fr q gT b W (stored W q gT i f0 f1 f2 m) := (((((Fr.refl q gT b W).setT _ _).setT _ _).setT _ _).setq _ _)
theorem stored_chn {W : World} {q gT g b p i : Nat} {f0 f1 f2 m : Int} {L : List (List Nat)} (h : Chn W g b p L) (n2 : q ≠ g) (n3 : q ≠ b) (n4 : gT ≠ g) (n5 : gT ≠ b) : Chn (stored W q gT i f0 f1 f2 m) g b p L :=
  h.keep (stored_far W q gT i f0 f1 f2 m n2.symm n4.symm) (stored_far W q gT i f0 f1 f2 m n3.symm n5.symm)
theorem stored_size (W : World) (q gT i : Nat) (f0 f1 f2 m : Int) : (stored W q gT i f0 f1 f2 m).heap.size = W.heap.size := by unfold stored; simp
theorem ins_fin {w W w3 : World} {q gT g b p i D : Nat} {t : S38} {ts : List S38} {l l' : List Nat} {o : Obj} (h : QB w q gT g b p ts l) (hi : i < p) (hBW : Below w.heap.size w W)
    (hq1 : W.heap[q]? = w.heap[q]?) (hT1 : W.heap[gT]? = w.heap[gT]?) (hD : w.heap.size ≤ D) (hk : Wr b (stored W q gT i t.f0 t.f1 t.f2 ((l.length : Int) + 1)) w3) (hC : Chn w3 g b p [l']) (hl : l'.length = l.length + 1) :
    QB (w3.putObj D o) q gT g b p (ts.set i t) l' ∧ Fr q gT b w (w3.putObj D o) := by
  have hlb := h.lb
  have hq := h.lq
  have hT := h.lT
  have far : ∀ k, k < w.heap.size → (w3.putObj D o).heap[k]? = w3.heap[k]? := fun k hk => World.putObj_heap_other (by omega)
  have e1 := wr_blk hk (stored_q (m := (l.length : Int) + 1) (hq1.trans h.hq) h.n1) h.n3
  have e2 := wr_blk hk (stored_T (t := t) (m := (l.length : Int) + 1) (hT1.trans h.hT) (by have := h.ht; omega) h.n1.symm) h.n5
  have hF := ((Fr.of_below hBW).trans (stored_fr W q gT b i t.f0 t.f1 t.f2 ((l.length : Int) + 1))).trans (Fr.of_wr hk)
  refine ⟨⟨?_, (far gT hT).trans e2, by rw [List.length_set]; exact h.ht, hC.keep (far g hlb.1) (far b hlb.2.1), h.n1, h.n2, h.n3, h.n4, h.n5⟩, ⟨hF.os, hF.tape, hF.output, ?_, fun k k1 k2 k3 k4 => (far k k1).trans (hF.block k k1 k2 k3 k4)⟩⟩
  · rw [far q hq, e1, hl]; simp
  · have : (w3.putObj D o).heap.size = w3.heap.size := by simp [World.putObj]
    rw [this]; exact hF.size
theorem wr_drewL {b : Nat} {w w' : World} (h : Wr b w.drew w') : Wr b w w' := ⟨⟨h.1.os, h.1.tape, h.1.output, h.1.size, h.1.block⟩, h.2⟩
theorem bh_cases (P : List Nat) : (P = [] ∧ bh P = -1) ∨ ∃ (P2 : List Nat) (z : Nat), P = P2 ++ [z] ∧ bh P = (z : Int) := by
  rcases List.eq_nil_or_concat P with e | ⟨P', z, e⟩
  · exact .inl ⟨e, by rw [e]; rfl⟩
  · rw [List.concat_eq_append] at e
    exact .inr ⟨P', z, e, by rw [e, bh_snoc]⟩
theorem app_one {p i : Nat} {l : List Nat} (hi : i < p) (hil : i ∉ l) : mApp p [l] 0 (i : Int) = ([l ++ [i]], 0) := by
  unfold mApp
  rw [if_pos ⟨by simp, by omega⟩, Int.toNat_natCast, wh_one, if_neg hil]; rfl
theorem ins_one {p i z : Nat} {A B : List Nat} (hi : i < p) (hz : z < p) (hil : i ∉ A ++ z :: B) (hzA : z ∉ A) : mIns p [A ++ z :: B] (i : Int) (z : Int) = ([A ++ i :: z :: B], 0) := by
  unfold mIns
  rw [if_pos ⟨by omega, by omega⟩, Int.toNat_natCast, Int.toNat_natCast, wh_one, wh_one, if_neg hil, if_pos (show z ∈ A ++ z :: B by simp)]
  rw [if_pos (by decide), if_neg (by decide), Int.toNat_zero, show ([A ++ z :: B] : List (List Nat)).getD 0 [] = A ++ z :: B from rfl, idx_split z B A hzA, List.take_left', List.drop_left'] <;> rfl
/-- The frame in and behind the loop. -/
def insF (q gT p i s : Nat) (f0 f1 : Int) (u6 u26 : Value) : Array Value := #[.pointer (some ⟨q, 0, none⟩), .agg #[.int .u64 f0, .int .u64 f1, .int .i64 (i : Int)], .pointer (some ⟨s, 0, none⟩), .pointer (some ⟨s + 1, 0, none⟩), .int .i64 0, .pointer (some ⟨s + 1 + 1, 0, none⟩), u6, .pointer (some ⟨s + 1, 2, none⟩), .int .i64 (i : Int), .bool false, .bool false, .pointer (some ⟨s + 1, 2, none⟩), .int .i64 (i : Int), .pointer (some ⟨q, 0, none⟩), .pointer (some ⟨q, 0, none⟩), .pointer (some ⟨q, 0, none⟩), .slice (some ⟨gT, 0, none⟩) p p, .int .i64 (p : Int), .bool false, .bool false, .pointer (some ⟨q, 0, none⟩), .pointer (some ⟨s + 1, 2, none⟩), .int .i64 (i : Int), .bool false, .pointer (some ⟨q, 0, none⟩), .func (.func 47) #[] #[.pointer (some ⟨s + 1 + 1 + 1, 0, none⟩)], u26, undef, undef, undef, undef, undef, undef, undef, undef, undef, undef, undef, undef, undef, undef, undef, undef, undef, undef, undef, undef, undef, undef, undef, undef, undef, undef, undef, undef, undef, undef, undef, undef, undef, undef, undef, undef, undef, undef, undef, undef, undef, undef, undef]
/-- The loop's body, and what stands behind the loop. -/
noncomputable def insB : Code := match Try.f18.body with
  | some (.seq _ (.seq _ (.seq _ (.seq _ (.seq (.seq _ (.block _ (.rangeFunc _ _ _ c))) _))))) => c
  | _ => .skip
noncomputable def insT : Code := match Try.f18.body with
  | some (.seq _ (.seq _ (.seq _ (.seq _ (.seq _ c))))) => c
  | _ => .skip
def insI (q gT g b p i : Nat) (f0 f1 : Int) (ts : List S38) (w W0 : World) (pre : List (Pl p)) (W : World) : Prop := (KeepL [q, gT, g, b, w.heap.size, w.heap.size + 1, w.heap.size + 1 + 1 + 1] W0 W ∧ Boxed W (w.heap.size + 1 + 1) 3 (.int .i64 (bh (nts pre))) ∧ ∀ x, x ∈ nts pre → ¬ bef (tn ts x) ⟨f0, f1, (i : Int)⟩) ∧ Below w.heap.size w W
def insX (q gT g b p i : Nat) (f0 f1 : Int) (ts : List S38) (w W0 : World) (c : Code) (pre : List (Pl p)) (W : World) : Prop := (c = .exit 0 ∧ KeepL [q, gT, g, b, w.heap.size, w.heap.size + 1, w.heap.size + 1 + 1 + 1] W0 W ∧ ∃ (pr : List (Pl p)) (x : Pl p), pre = pr ++ [x] ∧ Boxed W (w.heap.size + 1 + 1) 3 (.int .i64 (bh (nts pr))) ∧ (∀ x, x ∈ nts pr → ¬ bef (tn ts x) ⟨f0, f1, (i : Int)⟩) ∧ bef (tn ts x.1) ⟨f0, f1, (i : Int)⟩) ∧ Below w.heap.size w W
/-- What the world holds where the loop begins. -/
structure InsW (q gT g b p i : Nat) (f0 f1 : Int) (ts : List S38) (l : List Nat) (w W0 : World) : Prop where
  h : QB w q gT g b p ts l
  h0 : QB W0 q gT g b p ts l
  x0 : W0.heap[w.heap.size]? = some (.cells #[.pointer (some ⟨q, 0, none⟩)] 24 (0, 0))
  x1 : W0.heap[w.heap.size + 1]? = some (.cells #[.int .u64 f0, .int .u64 f1, .int .i64 (i : Int)] 38 (0, 0))
  y3 : W0.heap[w.heap.size + 1 + 1 + 1]? = some (.cells #[.pointer (some ⟨q, 0, none⟩)] 24 (0, 0))
  hB0 : Below w.heap.size w W0
  hi : i < p
end Go.Proofs.Ytokhbiaaaflphaa.ListD
