/-
  Queues in memory: the list from its end on.
  No condition.
-/
import Derived.Test.YtokhbiaaaflphaaListB
namespace Go.Proofs.Ytokhbiaaaflphaa.ListC
open Go.RowKit Go.Shelf Go.Proofs.Ytokhbiaaaflphaa.ChainA Go.Proofs.Ytokhbiaaaflphaa.ChainM Go.Proofs.Ytokhbiaaaflphaa.ChainN Go.Proofs.Ytokhbiaaaflphaa.ChainE Go.Proofs.Ytokhbiaaaflphaa.ListM Go.Proofs.Ytokhbiaaaflphaa.ListA Go.Proofs.Ytokhbiaaaflphaa.ListB Go.Proofs.Ytokhbiaaaflphaa.GListqPlays Go.Proofs.YtokhbiaaaflphaaW.PrintWords Go.Proofs.YtokhbiaaaflphaaW.PrintLast Go.Proofs.YtokhbiaaaflphaaW.PrintMore
set_option linter.unusedVariables false
set_option linter.unusedSimpArgs false
theorem lst_rev : ∀ (l : List Nat) (a : Nat), ChainR.lst a l = (l.reverse ++ [a]).headD 0
  | [], a => rfl
  | c :: l, a => by
    simp only [ChainR.lst]
    rw [lst_rev l c, List.reverse_cons]
    cases l.reverse <;> rfl
theorem lt_rev (l : List Nat) : ltP l = hdP l.reverse := by
  cases l with
  | nil => rfl
  | cons x l =>
    rw [List.reverse_cons]
    simp only [ltP]
    rw [lst_rev l x]
    cases l.reverse <;> rfl
theorem idx_split (x : Nat) (B : List Nat) : ∀ A : List Nat, x ∉ A → (A ++ x :: B).idxOf x = A.length
  | [], _ => by simp
  | a :: A, h => by
    have h1 : (a == x) = false := by
      have : a ≠ x := fun e => h (by rw [e]; exact List.mem_cons_self)
      simpa using this
    have ih := idx_split x B A (fun q => h (List.mem_cons_of_mem _ q))
    rw [List.cons_append, List.idxOf_cons, h1, cond_false, ih, List.length_cons]
theorem prev_rev {p : Nat} {l d r : List Nat} {x : Nat} (hx : l.reverse = d ++ x :: r) (hn : l.Nodup) (hp : x < p) : mBes p [l] (x : Int) (-1) = hdP r := by
  have hl : l = r.reverse ++ x :: d.reverse := by
    rw [← List.reverse_reverse l, hx]; simp
  have hA : x ∉ r.reverse := fun q => by
    rw [hl, List.nodup_append] at hn
    exact hn.2.2 x q x List.mem_cons_self rfl
  have hm : x ∈ l := by rw [hl]; simp
  have hi : l.idxOf x = r.length := by rw [hl, idx_split x _ _ hA, List.length_reverse]
  have hlen : l.length = r.length + 1 + d.length := by rw [hl]; simp; omega
  unfold mBes
  rw [Int.toNat_natCast, wh_one, if_pos hm, if_pos ⟨by omega, by omega⟩]
  simp only [Int.toNat_zero]
  rw [show ([l] : List (List Nat)).getD 0 [] = l from rfl, hi]
  cases r with
  | nil => rw [if_neg (by simp)]; rfl
  | cons y r =>
    rw [if_pos ⟨by simp only [List.length_cons]; omega, by rw [hlen]; simp only [List.length_cons]; omega⟩, show (((y :: r).length : Int) + -1).toNat = r.length by simp only [List.length_cons]; omega, hl, List.reverse_cons, List.append_assoc, List.getD_eq_getElem?_getD, List.getElem?_append_right (by simp)]
    simp [hdP]
def mu (l : List Nat) (i ok : Value) : Nat := match ok with
  | .bool true => sfx l.reverse (intOf i).toNat
  | _ => 0
set_option maxRecDepth 100000 in
set_option maxHeartbeats 4000000 in
theorem back_calls (q : Nat) (w : World) :
    Calls Try.prog 33 #[.pointer (some ⟨q, 0, none⟩)] w fun e w' => e = .returned (.func (.func 47) #[] #[.pointer (some ⟨w.heap.size, 0, none⟩)]) ∧ w' = w.alloc (.cells #[.pointer (some ⟨q, 0, none⟩)] 24) := by
  have hmf : ∀ (fn : Fn) (first cap : Array Value) (w : World), (Instr.makeFunc fn first cap).run Try.prog w = .ok (.func fn first cap) w := fun _ _ _ _ => rfl
  go_enter Try.func33, Try.ntmps33
  go_wp2_with fail
  go_ret
  exact ⟨rfl, rfl⟩
/-- A place. -/
abbrev Pl (p : Nat) := { x : Nat // x < p }
def nts {p : Nat} (xs : List (Pl p)) : List Nat := xs.map fun x => x.1
theorem nts_of {p : Nat} : ∀ l : List Nat, (∀ x, x ∈ l → x < p) → ∃ xs : List (Pl p), l = nts xs
  | [], _ => ⟨[], rfl⟩
  | x :: l, h => by
    obtain ⟨xs, e⟩ := nts_of l (fun y hy => h y (List.mem_cons_of_mem _ hy))
    exact ⟨⟨x, h x List.mem_cons_self⟩ :: xs, congrArg (x :: ·) e⟩
set_option maxRecDepth 100000 in
set_option maxHeartbeats 4000000 in
theorem back1_in (n : Nat) (hn : 1 ≤ n) (q g b cq y p : Nat) (cs : Array Value) (l : List Nat) (xs : List (Pl p)) (hxs : l.reverse = nts xs) (J Jx : List (Pl p) → World → Prop) (W : World)
    (hY : ∀ (pre : List (Pl p)) (x : Pl p) (W1 : World), J pre W1 → pre.length < xs.length → YieldAt Fence.wide (n - 1) Try.prog y #[.int .i64 (x.1 : Int)] W1 fun e W' =>
      (e = .returned (.bool true) ∧ J (pre ++ [x]) W' ∧ KeepL [q, g, b, cq] W1 W') ∨ (e = .returned (.bool false) ∧ Jx (pre ++ [x]) W'))
    (hJ : AbidesFrom W.heap.size J) (h1 : W.heap[cq]? = some (.cells #[.pointer (some ⟨q, 0, none⟩)] 24 (0, 0))) (h2 : W.heap[q]? = some (.cells cs 70 (0, 0))) (hcs : cs[1]? = some (.pointer (some ⟨g, 0, none⟩))) (hC : Chn W g b p [l]) (h0 : J [] W) :
    CallsIn Fence.wide n Try.prog 47 #[.func (.yield y) #[] #[], .pointer (some ⟨cq, 0, none⟩)] W fun e W' => (∃ v, e = .returned v) ∧
      ((∃ ys, ys = xs ∧ J ys W') ∨ (∃ pre, pre <+: xs ∧ Jx pre W')) := by
  have k1 := blk_cell h1 0
  have k2 := (blk_cell h2 1).trans hcs
  have hnd : l.Nodup := by
    obtain ⟨ns, hCh, hR⟩ := hC
    exact hR.nodup 0 l rfl
  refine callsIn_of_wp Try.func47 rfl trivial ?_ rfl
  simp only [Try.ntmps47, List.size_toArray, List.length_cons, List.length_nil, Nat.reduceAdd, Nat.reduceSub, Array.replicate_succ, Array.replicate_zero, List.push_toArray, List.append_toArray, List.nil_append, List.cons_append]
  gi_wp2_with (refine ⟨trivial, ?_⟩; gi_at_call 48; refine (callsIn_wide.2 (last_calls 0 hC)).mono ?_; rintro e w1 ⟨rfl, m, rfl⟩)
  have hlt : ltP (atL [l] 0) = hdP (nts xs) := (lt_rev l).trans (by rw [hxs])
  rw [hlt]
  have hJd0 : J [] (W.drewN m) := hJ _ _ _ none h0 ⟨rfl, rfl, rfl, Nat.le_refl _, fun _ _ _ => rfl⟩ (fun _ e => by cases e)
  have hK0 : KeepL [q, g, b, cq] W (W.drewN m) := fun _ _ => rfl
  generalize W.drewN m = w1 at *
  have hxs' := Lib.hid hxs
  clear hxs hlt
  gi_wp2
  gi_loopw [3, 4] (fun i ok wr => ∃ d r : List (Pl p), xs = d ++ r ∧ i = .int .i64 (hdP (nts r)).1 ∧ ok = .bool (hdP (nts r)).2 ∧ J d wr ∧ KeepL [q, g, b, cq] W wr) (fun i ok _ => mu l i ok)
  case atStart => exact ⟨[], xs, rfl, rfl, rfl, hJd0, hK0⟩
  case round =>
    obtain ⟨d, r, hx, rfl, rfl, hJd, hK⟩ := hrel
    cases r with
    | nil =>
      rw [List.append_nil] at hx
      rw [show hdP (nts ([] : List (Pl p))) = (0, false) from rfl]
      have hx' := Lib.hid hx
      clear hx
      gi_wp2
      go_end0
      exact ⟨⟨_, rfl⟩, .inl ⟨d, hx'.out.symm, hJd⟩⟩
    | cons x r =>
      have hxr : l.reverse = nts d ++ x.1 :: nts r := by rw [hxs'.out, hx]; simp [nts]
      rw [show hdP (nts (x :: r)) = ((x.1 : Int), true) from rfl]
      obtain ⟨fn, tmps, assign, body, hy, hR1⟩ := hY d x wr hJd (by rw [hx]; simp)
      have hpv := prev_rev hxr hnd x.2
      have hx' := Lib.hid hx
      have hxr' := Lib.hid hxr
      clear hx hxr
      gi_wp2
      refine hR1.mono ?_
      rintro e W3 (⟨rfl, hJ3, hk3⟩ | ⟨rfl, hJx3⟩)
      · have hK3 := keepL_t hK hk3
        have z1 := blk_cell ((hK3 cq (by simp)).trans h1) 0
        have z2 := (blk_cell ((hK3 q (by simp)).trans h2) 1).trans hcs
        have hC3 : Chn W3 g b p [l] := hC.keep (hK3 g (by simp)) (hK3 b (by simp))
        gi_wp2_with (refine ⟨trivial, ?_⟩; gi_at_call 49; refine (callsIn_wide.2 (prev_calls (x.1 : Int) hC3)).mono ?_; rintro e w4 ⟨rfl, rfl⟩; rw [hpv])
        go_roundw
        case rel => exact ⟨d ++ [x], r, by rw [hx'.out]; simp, rfl, rfl, hJ3, hK3⟩
        case measure =>
          have hx := hxr'.out
          have hdn : (nts d ++ x.1 :: nts r).Nodup := by rw [← hx, List.Nodup, List.pairwise_reverse]; exact hnd.imp (fun h => h.symm)
          show mu l (.int .i64 (hdP (nts r)).1) (.bool (hdP (nts r)).2) < mu l (.int .i64 (x.1 : Int)) (.bool true)
          simp only [mu, intOf, Int.toNat_natCast, hx]
          rw [sfx_at x.1 (nts r) (nts d) hdn]
          cases hr : nts r with
          | nil => simp [hdP]
          | cons z r2 =>
            rw [hr] at hdn
            simp only [hdP, Int.toNat_natCast]
            rw [show nts d ++ x.1 :: z :: r2 = (nts d ++ [x.1]) ++ z :: r2 by simp, sfx_at z r2 (nts d ++ [x.1]) (by simpa using hdn)]
            simp
      · gi_wp2
        refine bodyPost_ret (results_none rfl _ _ _) rfl ?_
        exact ⟨⟨_, rfl⟩, .inr ⟨d ++ [x], ⟨r, by rw [hx'.out]; simp⟩, hJx3⟩⟩
theorem back_stops (n : Nat) (hn : 1 ≤ n) (q g b cq p : Nat) (cs : Array Value) (l : List Nat) (xs : List (Pl p)) (hxs : l.reverse = nts xs) (w : World) (h1 : w.heap[cq]? = some (.cells #[.pointer (some ⟨q, 0, none⟩)] 24 (0, 0))) (h2 : w.heap[q]? = some (.cells cs 70 (0, 0))) (hcs : cs[1]? = some (.pointer (some ⟨g, 0, none⟩))) (hC : Chn w g b p [l]) :
    SeqStopsK Fence.wide n Try.prog 47 #[.pointer (some ⟨cq, 0, none⟩)] (fun x : Pl p => #[Value.int .i64 (x.1 : Int)]) (KeepL [q, g, b, cq]) (fun ys => ys = xs) (fun pre => pre <+: xs) xs.length w := fun y J Jx W hW hJ hJx hY h0 => by
  have h1' := (hW.block cq (blk_lt h1)).trans h1
  have h2' := (hW.block q (blk_lt h2)).trans h2
  exact back1_in n hn q g b cq y p cs l xs hxs J Jx W hY hJ h1' h2' hcs (hC.below hW) h0
end Go.Proofs.Ytokhbiaaaflphaa.ListC
