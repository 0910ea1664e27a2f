/-
  Queues in memory: Insert.
  No condition.
-/
import Derived.Test.YtokhbiaaaflphaaListD1
import Derived.Test.YtokhbiaaaflphaaListD2
import Derived.Test.YtokhbiaaaflphaaListD3
import Derived.Test.YtokhbiaaaflphaaListD4
import Derived.Shelf.RegionOpen
namespace Go.Proofs.Ytokhbiaaaflphaa.ListD
open Go.RowKit Go.Shelf Go.Proofs.Ytokhbiaaaflphaa.ChainA Go.Proofs.Ytokhbiaaaflphaa.ChainM Go.Proofs.Ytokhbiaaaflphaa.ChainN Go.Proofs.Ytokhbiaaaflphaa.ChainE Go.Proofs.Ytokhbiaaaflphaa.ListM Go.Proofs.Ytokhbiaaaflphaa.ListA Go.Proofs.Ytokhbiaaaflphaa.ListB Go.Proofs.Ytokhbiaaaflphaa.ListC Go.Proofs.Ytokhbiaaaflphaa.GListqPlays Go.Proofs.YtokhbiaaaflphaaW.PrintWords Go.Proofs.YtokhbiaaaflphaaW.PrintLast Go.Proofs.YtokhbiaaaflphaaW.PrintMore
set_option linter.unusedVariables false
set_option linter.unusedSimpArgs false
section
attribute [local go_sem] Oper.semAt_some
set_option maxRecDepth 100000 in
set_option maxHeartbeats 4000000 in
theorem ins_in (n : Nat) (hn : 3 ≤ n) (q gT g b p i : Nat) (t : S38) (ts : List S38) (l : List Nat) (w : World) (h : QB w q gT g b p ts l) (hi : i < p) (ht : t.f2 = (i : Int)) (hil : i ∉ l) :
    CallsIn Fence.wide n Try.prog 18 #[.pointer (some ⟨q, 0, none⟩), tv t] w (InsPost q gT g b p i t ts l w) := by
  have hn1 : 1 ≤ n := by omega
  have hlb := h.lb
  have hq := h.lq
  have hT := h.lT
  have hg := hlb.1
  have hb := hlb.2.1
  have hmx : Try.prog.follows .mixedOrders = true := by kernel_rfl
  have b0 := blk_cell h.hq 0
  have d1 : decide ((i : Int) < 0) = false := decide_eq_false (by omega)
  have d2 : decide (p ≤ i) = false := decide_eq_false (by omega)
  have hni : ¬ p ≤ i := by omega
  have hw : (mWhich p [l] (i : Int)).2 = false := by
    unfold mWhich; rw [Int.toNat_natCast, wh_one, if_neg hil, if_neg (fun q => by omega)]
  obtain ⟨f0, f1, f2⟩ := t
  simp only at ht
  subst ht
  refine callsIn_of_wp_marks Try.func18 rfl trivial ?_ rfl
  simp only [tv, Try.ntmps18, List.size_toArray, List.length_cons, List.length_nil, Nat.reduceAdd, Nat.reduceSub, Array.replicate_succ, Array.replicate_zero, List.push_toArray, List.append_toArray, List.nil_append, List.cons_append]
  gi_wp2
  gi_region
  have hB0 : Below w.heap.size w (((w.alloc (.cells #[.pointer (some ⟨q, 0, none⟩)] 24)).alloc (.cells #[.int .u64 f0, .int .u64 f1, .int .i64 (i : Int)] 38)).drew) := (((Below.refl _ w).alloc (Nat.le_refl _) _).alloc (by simp) _).drew
  gi_wp2_with (first | (refine ⟨trivial, ?_⟩; gi_at_call 30; refine (callsIn_wide.2 (pends_calls q gT g b p i ts l _ (h.below hB0))).mono ?_; rintro e w' ⟨rfl, rfl⟩; rw [hw]) | (refine ⟨trivial, ?_⟩; gi_at_call 33; refine (callsIn_wide.2 (back_calls q _)).mono ?_; rintro e w' ⟨rfl, rfl⟩))
  have y0 := World.alloc_heap_new w (.cells #[.pointer (some ⟨q, 0, none⟩)] 24)
  have y1 := World.alloc_heap_new (w.alloc (.cells #[.pointer (some ⟨q, 0, none⟩)] 24)) (.cells #[.int .u64 f0, .int .u64 f1, .int .i64 (i : Int)] 38)
  have y2 := World.alloc_heap_new ((w.alloc (.cells #[.pointer (some ⟨q, 0, none⟩)] 24)).alloc (.cells #[.int .u64 f0, .int .u64 f1, .int .i64 (i : Int)] 38)) (.cells #[.int .i64 (-1)] 3)
  have y3 := World.alloc_heap_new (((w.alloc (.cells #[.pointer (some ⟨q, 0, none⟩)] 24)).alloc (.cells #[.int .u64 f0, .int .u64 f1, .int .i64 (i : Int)] 38)).alloc (.cells #[.int .i64 (-1)] 3)) (.cells #[.pointer (some ⟨q, 0, none⟩)] 24)
  simp only [World.size_alloc] at y1 y2 y3
  have x0 := blk_alloc (blk_alloc (blk_alloc y0 (.cells #[.int .u64 f0, .int .u64 f1, .int .i64 (i : Int)] 38)) (.cells #[.int .i64 (-1)] 3)) (.cells #[.pointer (some ⟨q, 0, none⟩)] 24)
  have x1 := blk_alloc (blk_alloc y1 (.cells #[.int .i64 (-1)] 3)) (.cells #[.pointer (some ⟨q, 0, none⟩)] 24)
  have x2 := blk_alloc y2 (.cells #[.pointer (some ⟨q, 0, none⟩)] 24)
  have hB0 : Below w.heap.size w (((((w.alloc (.cells #[.pointer (some ⟨q, 0, none⟩)] 24)).alloc (.cells #[.int .u64 f0, .int .u64 f1, .int .i64 (i : Int)] 38)).alloc (.cells #[.int .i64 (-1)] 3)).alloc (.cells #[.pointer (some ⟨q, 0, none⟩)] 24)).drew) := (((((Below.refl _ w).alloc (Nat.le_refl _) _).alloc (by simp) _).alloc (by simp; omega) _).alloc (by simp; omega) _).drew
  have hsz : (((((w.alloc (.cells #[.pointer (some ⟨q, 0, none⟩)] 24)).alloc (.cells #[.int .u64 f0, .int .u64 f1, .int .i64 (i : Int)] 38)).alloc (.cells #[.int .i64 (-1)] 3)).alloc (.cells #[.pointer (some ⟨q, 0, none⟩)] 24)).drew).heap.size = w.heap.size + 1 + 1 + 1 + 1 := by simp [World.drew]
  replace x0 := blk_drew x0
  replace x1 := blk_drew x1
  replace x2 := blk_drew x2
  replace y3 := blk_drew y3
  generalize (((((w.alloc (.cells #[.pointer (some ⟨q, 0, none⟩)] 24)).alloc (.cells #[.int .u64 f0, .int .u64 f1, .int .i64 (i : Int)] 38)).alloc (.cells #[.int .i64 (-1)] 3)).alloc (.cells #[.pointer (some ⟨q, 0, none⟩)] 24)).drew) = W0 at *
  clear y0 y1 y2
  have h0 := h.below hB0
  obtain ⟨xs, hxs⟩ := nts_of (p := p) l.reverse (fun x hx => ChainF.chn_lt h.hC 0 x (show x ∈ l by simpa using hx))
  have hS : InsW q gT g b p i f0 f1 ts l w W0 := ⟨h, h0, x0, x1, y3, hB0, hi⟩
  rename_i KK hKK
  refine wpIn_rangeFunc_ownG rfl hn1 (gf := 47) (lb := #[.pointer (some ⟨w.heap.size + 1 + 1 + 1, 0, none⟩)]) rfl trivial (enters_of Try.func47 (by kernel_rfl) rfl)
    (back_stops (n - 1) (by omega) q g b (w.heap.size + 1 + 1 + 1) p _ l xs hxs _ y3 h0.hq rfl h0.hC) keepL_t (keepL_b (by intro k hk; simp at hk; omega)) (Below.refl _ _) (fun _ => rfl)
    (insI q gT g b p i f0 f1 ts w W0) (insX q gT g b p i f0 f1 ts w W0)
    (show OwnFrom _ (fun pre W => insI q gT g b p i f0 f1 ts w W0 pre W) from OwnFrom.and (OwnFrom.and (keepL_own (Nat.le_refl _) (by intro k hk; simp at hk; omega)) (OwnFrom.and (Own.from (boxed_own _ _ (fun pre : List (Pl p) => .int .i64 (bh (nts pre)))) _) (ownFrom_pure _ _))) (ownFrom_below (Nat.le_refl _) (by omega)))
    (fun c => show OwnFrom _ (fun pre W => insX q gT g b p i f0 f1 ts w W0 c pre W) from OwnFrom.and (fun s A B row hs hg hr => by
      obtain ⟨h1, h2, pr, x, h3, h4, h5, h6⟩ := hs
      exact ⟨h1, keepL_own (β := Unit) (Nat.le_refl _) (by intro k hk; simp at hk; omega) () A B row h2 hg hr, pr, x, h3, boxed_own _ 3 (fun _ : Unit => Value.int .i64 (bh (nts pr))) () A B row h4 hg (fun r e => (hr r e).2), h5, h6⟩) (ownFrom_below (Nat.le_refl _) (by omega)))
    ⟨⟨fun _ _ => rfl, x2, fun x hx => by cases hx⟩, hB0⟩
    (fun x => ⟨insF q gT p i w.heap.size f0 f1 (.int .i64 (x.1 : Int)) (.int .i64 (x.1 : Int)), []⟩) ?assign ?body ?done ?stop
  case assign =>
    intro y x W K hK
    simp only [insF] at hK
    gi_wp2
    exact hK
  case body =>
    intro y pre x W hI _
    by_cases hb : bef (tn ts x.1) ⟨f0, f1, (i : Int)⟩
    · exact insB_lt (n - 1 - 1) (by omega) q gT g b p i f0 f1 ts l w W0 hS y pre x W hI hb
    · exact insB_ge (n - 1 - 1) (by omega) q gT g b p i f0 f1 ts l w W0 hS y pre x W hI hb
  case done =>
    rintro D ys W hD rfl ⟨⟨hK, hB5, hpre⟩, hBW⟩ hKd
    refine hKK _ _ ?_
    rcases bh_cases (nts ys) with ⟨e1, e2⟩ | ⟨P', z, e1, e2⟩
    · rw [e2] at hB5
      have hl0 : l = [] := by rw [e1] at hxs; simpa using hxs
      exact insT_app n hn1 q gT g b p i f0 f1 ts l w W0 hS D W hD hK hBW hKd hB5 (app_one hi hil) (.inl hl0)
    · rw [e2] at hB5
      have hl0 : l = z :: P'.reverse := by
        rw [← List.reverse_reverse l, hxs, e1]; simp
      have hzp : z < p := ChainF.chn_lt h.hC 0 z (show z ∈ l by rw [hl0]; simp)
      have hm2 : mIns p [l] (i : Int) (z : Int) = ([[] ++ i :: l], 0) := by
        have := ins_one (A := []) (B := P'.reverse) hi hzp (by simpa [← hl0] using hil) (by simp)
        simpa [← hl0] using this
      exact insT_ins n hn1 q gT g b p i f0 f1 ts l w W0 hS D W hD hK hBW hKd z [] l hB5 hm2 (by simp) (Lib.hid rfl) (fun x hx => hpre x (by rw [← hxs]; simpa using hx)) (.inl rfl)
  case stop =>
    rintro D c pre W hD hsp ⟨⟨rfl, hK, pr, x, rfl, hB5, hpre, hbx⟩, hBW⟩ hKd
    refine wpIn_exit (hKK _ _ ?_)
    obtain ⟨rest, hrest⟩ := hsp
    have hl0 : l = ((nts rest).reverse ++ [x.1]) ++ (nts pr).reverse := by
      rw [← List.reverse_reverse l, hxs, ← hrest]; simp [nts]
    have hB' : ∀ x, x ∈ (nts pr).reverse → ¬ bef (tn ts x) ⟨f0, f1, (i : Int)⟩ := fun x hx => hpre x (by simpa using hx)
    have hnd : l.Nodup := by
      obtain ⟨ns, hCh, hR⟩ := h.hC
      exact hR.nodup 0 l rfl
    rcases bh_cases (nts pr) with ⟨e1, e2⟩ | ⟨P', z, e1, e2⟩
    · rw [e2] at hB5
      have hl1 : l = (nts rest).reverse ++ [x.1] := by rw [hl0, e1]; simp
      exact insT_app n hn1 q gT g b p i f0 f1 ts l w W0 hS D W hD hK hBW hKd hB5 (app_one hi hil) (.inr ⟨(nts rest).reverse, x.1, hl1, hbx⟩)
    · rw [e2] at hB5
      have hl1 : l = ((nts rest).reverse ++ [x.1]) ++ z :: P'.reverse := by rw [hl0, e1]; simp
      have hzp : z < p := ChainF.chn_lt h.hC 0 z (show z ∈ l by rw [hl1]; simp)
      have hzA : z ∉ (nts rest).reverse ++ [x.1] := fun q => by
        rw [hl1, List.nodup_append] at hnd
        exact hnd.2.2 z q z List.mem_cons_self rfl
      have hm2 : mIns p [l] (i : Int) (z : Int) = ([((nts rest).reverse ++ [x.1]) ++ i :: (nts pr).reverse], 0) := by
        have := ins_one (A := (nts rest).reverse ++ [x.1]) (B := P'.reverse) hi hzp (by rw [← hl1]; exact hil) hzA
        rw [← hl1] at this
        rw [this, e1]; simp
      have hlen : (((nts rest).reverse ++ [x.1]) ++ i :: (nts pr).reverse).length = l.length + 1 := by rw [hl0]; simp only [List.length_append, List.length_cons]; omega
      exact insT_ins n hn1 q gT g b p i f0 f1 ts l w W0 hS D W hD hK hBW hKd z ((nts rest).reverse ++ [x.1]) (nts pr).reverse hB5 hm2 hlen (Lib.hid hl0) hB' (.inr ⟨(nts rest).reverse, x.1, rfl, hbx⟩)
end
end Go.Proofs.Ytokhbiaaaflphaa.ListD
