/-
  Chains: what the nodes are behind put and drop, and how they stand for lists.
  No condition.
-/
import Derived.Test.YtokhbiaaaflphaaChainB
import Derived.Test.YtokhbiaaaflphaaChainC
import Derived.Test.YtokhbiaaaflphaaChainR
namespace Go.Proofs.Ytokhbiaaaflphaa.ChainS
open Go.RowKit Go.Proofs.Ytokhbiaaaflphaa.ChainA Go.Proofs.Ytokhbiaaaflphaa.ChainB Go.Proofs.Ytokhbiaaaflphaa.ChainC Go.Proofs.Ytokhbiaaaflphaa.ChainR Go.Proofs.Ytokhbiaaaflphaa.GListqPlays
set_option linter.unusedVariables false
def nx (ns : List S94) (k : Nat) : Int := (nd ns k).f0.f0
def pv (ns : List S94) (k : Nat) : Int := (nd ns k).f0.f1
def inn (ns : List S94) (k : Nat) : Int := (nd ns k).f1
theorem nd_set_if (ns : List S94) (i k : Nat) (x : S94) (h : i < ns.length) : nd (ns.set i x) k = if k = i then x else nd ns k := by
  unfold nd
  rw [List.getD_eq_getElem?_getD, List.getElem?_set]
  by_cases e : i = k
  · subst e; rw [if_pos rfl, if_pos h, if_pos rfl]; rfl
  · rw [if_neg e, if_neg (fun q => e q.symm), List.getD_eq_getElem?_getD]
theorem nd_next (ns : List S94) (i k : Nat) (v : Int) (h : i < ns.length) : nd (sNext ns i v) k = if k = i then ⟨⟨v, (nd ns i).f0.f1⟩, (nd ns i).f1⟩ else nd ns k := nd_set_if ns i k _ h
theorem nd_prev (ns : List S94) (i k : Nat) (v : Int) (h : i < ns.length) : nd (sPrev ns i v) k = if k = i then ⟨⟨(nd ns i).f0.f0, v⟩, (nd ns i).f1⟩ else nd ns k := nd_set_if ns i k _ h
theorem nd_in (ns : List S94) (i k : Nat) (v : Int) (h : i < ns.length) : nd (sIn ns i v) k = if k = i then ⟨(nd ns i).f0, v⟩ else nd ns k := nd_set_if ns i k _ h
theorem nx_next (ns : List S94) (i k : Nat) (v : Int) (h : i < ns.length) : nx (sNext ns i v) k = if k = i then v else nx ns k := by
  unfold nx; rw [nd_next ns i k v h]; by_cases e : k = i
  · rw [if_pos e, if_pos e]
  · rw [if_neg e, if_neg e]
theorem pv_next (ns : List S94) (i k : Nat) (v : Int) (h : i < ns.length) : pv (sNext ns i v) k = pv ns k := by
  unfold pv; rw [nd_next ns i k v h]; by_cases e : k = i
  · rw [if_pos e, e]
  · rw [if_neg e]
theorem in_next (ns : List S94) (i k : Nat) (v : Int) (h : i < ns.length) : inn (sNext ns i v) k = inn ns k := by
  unfold inn; rw [nd_next ns i k v h]; by_cases e : k = i
  · rw [if_pos e, e]
  · rw [if_neg e]
theorem nx_prev (ns : List S94) (i k : Nat) (v : Int) (h : i < ns.length) : nx (sPrev ns i v) k = nx ns k := by
  unfold nx; rw [nd_prev ns i k v h]; by_cases e : k = i
  · rw [if_pos e, e]
  · rw [if_neg e]
theorem pv_prev (ns : List S94) (i k : Nat) (v : Int) (h : i < ns.length) : pv (sPrev ns i v) k = if k = i then v else pv ns k := by
  unfold pv; rw [nd_prev ns i k v h]; by_cases e : k = i
  · rw [if_pos e, if_pos e]
  · rw [if_neg e, if_neg e]
theorem in_prev (ns : List S94) (i k : Nat) (v : Int) (h : i < ns.length) : inn (sPrev ns i v) k = inn ns k := by
  unfold inn; rw [nd_prev ns i k v h]; by_cases e : k = i
  · rw [if_pos e, e]
  · rw [if_neg e]
theorem nx_in (ns : List S94) (i k : Nat) (v : Int) (h : i < ns.length) : nx (sIn ns i v) k = nx ns k := by
  unfold nx; rw [nd_in ns i k v h]; by_cases e : k = i
  · rw [if_pos e, e]
  · rw [if_neg e]
theorem pv_in (ns : List S94) (i k : Nat) (v : Int) (h : i < ns.length) : pv (sIn ns i v) k = pv ns k := by
  unfold pv; rw [nd_in ns i k v h]; by_cases e : k = i
  · rw [if_pos e, e]
  · rw [if_neg e]
theorem in_in (ns : List S94) (i k : Nat) (v : Int) (h : i < ns.length) : inn (sIn ns i v) k = if k = i then v else inn ns k := by
  unfold inn; rw [nd_in ns i k v h]; by_cases e : k = i
  · rw [if_pos e, if_pos e]
  · rw [if_neg e, if_neg e]
theorem put_is (ns : List S94) (x y q : Nat) (j : Int) (hx : x < ns.length) (hy : y < ns.length) (hq : q < ns.length) (k : Nat) :
    nx (putN ns x y q j) k = (if k = x then (y : Int) else if k = q then (x : Int) else nx ns k) ∧ pv (putN ns x y q j) k = (if k = y then (x : Int) else if k = x then (q : Int) else pv ns k) ∧ inn (putN ns x y q j) k = (if k = x then j else inn ns k) := by
  unfold putN
  refine ⟨?_, ?_, ?_⟩
  · rw [nx_in _ _ _ _ (by simpa only [sPrev_len, sNext_len] using hx), nx_prev _ _ _ _ (by simpa only [sPrev_len, sNext_len] using hy), nx_next _ _ _ _ (by simpa only [sPrev_len, sNext_len] using hx), nx_prev _ _ _ _ (by simpa only [sPrev_len, sNext_len] using hx), nx_next _ _ _ _ hq]
  · rw [pv_in _ _ _ _ (by simpa only [sPrev_len, sNext_len] using hx), pv_prev _ _ _ _ (by simpa only [sPrev_len, sNext_len] using hy), pv_next _ _ _ _ (by simpa only [sPrev_len, sNext_len] using hx), pv_prev _ _ _ _ (by simpa only [sPrev_len, sNext_len] using hx), pv_next _ _ _ _ hq]
  · rw [in_in _ _ _ _ (by simpa only [sPrev_len, sNext_len] using hx), in_prev _ _ _ _ (by simpa only [sPrev_len, sNext_len] using hy), in_next _ _ _ _ (by simpa only [sPrev_len, sNext_len] using hx), in_prev _ _ _ _ (by simpa only [sPrev_len, sNext_len] using hx), in_next _ _ _ _ hq]
theorem drop_is (ns : List S94) (x q1 q2 : Nat) (hx : x < ns.length) (h1 : q1 < ns.length) (h2 : q2 < ns.length) (k : Nat) :
    nx (dropN ns x q1 q2) k = (if k = x then (x : Int) else if k = q1 then (q2 : Int) else nx ns k) ∧ pv (dropN ns x q1 q2) k = (if k = x then (x : Int) else if k = q2 then (q1 : Int) else pv ns k) ∧ inn (dropN ns x q1 q2) k = (if k = x then -1 else inn ns k) := by
  unfold dropN
  refine ⟨?_, ?_, ?_⟩
  · rw [nx_in _ _ _ _ (by simpa only [sPrev_len, sNext_len] using hx), nx_prev _ _ _ _ (by simpa only [sPrev_len, sNext_len] using hx), nx_next _ _ _ _ (by simpa only [sPrev_len, sNext_len] using hx), nx_prev _ _ _ _ (by simpa only [sPrev_len, sNext_len] using h2), nx_next _ _ _ _ h1]
  · rw [pv_in _ _ _ _ (by simpa only [sPrev_len, sNext_len] using hx), pv_prev _ _ _ _ (by simpa only [sPrev_len, sNext_len] using hx), pv_next _ _ _ _ (by simpa only [sPrev_len, sNext_len] using hx), pv_prev _ _ _ _ (by simpa only [sPrev_len, sNext_len] using h2), pv_next _ _ _ _ h1]
  · rw [in_in _ _ _ _ (by simpa only [sPrev_len, sNext_len] using hx), in_prev _ _ _ _ (by simpa only [sPrev_len, sNext_len] using hx), in_next _ _ _ _ (by simpa only [sPrev_len, sNext_len] using hx), in_prev _ _ _ _ (by simpa only [sPrev_len, sNext_len] using h2), in_next _ _ _ _ h1]
/-- The nodes stand for these lists. -/
structure Rep (p : Nat) (L : List (List Nat)) (ns : List S94) : Prop where
  len : ns.length = p + L.length
  seg : ∀ (j : Nat) (l : List Nat), L[j]? = some l → Seg (nx ns) (pv ns) (p + j) l (p + j)
  mem : ∀ (j : Nat) (l : List Nat) (x : Nat), L[j]? = some l → x ∈ l → x < p ∧ inn ns x = (j : Int)
  nodup : ∀ (j : Nat) (l : List Nat), L[j]? = some l → l.Nodup
  own : ∀ x : Nat, x < p → inn ns x = -1 ∨ ∃ (j : Nat) (l : List Nat), L[j]? = some l ∧ x ∈ l
theorem Rep.free {p : Nat} {L : List (List Nat)} {ns : List S94} (h : Rep p L ns) {x : Nat} (hx : inn ns x = -1) (j : Nat) (l : List Nat) (hl : L[j]? = some l) : x ∉ l := fun q => by
  have := (h.mem j l x hl q).2
  omega
theorem Rep.hd {p : Nat} {L : List (List Nat)} {ns : List S94} (h : Rep p L ns) (j : Nat) (l : List Nat) (hl : L[j]? = some l) : ((p + j) :: l).Nodup :=
  List.nodup_cons.2 ⟨fun q => by have := (h.mem j l _ hl q).1; omega, h.nodup j l hl⟩
theorem nxt_mem (h : Nat) : ∀ B : List Nat, nxt h B = h ∨ nxt h B ∈ B
  | [] => .inl rfl
  | y :: B => .inr List.mem_cons_self
theorem lt_len {L : List (List Nat)} {j : Nat} {l : List Nat} (h : L[j]? = some l) : j < L.length := (List.getElem?_eq_some_iff.1 h).1
theorem set_at {L : List (List Nat)} {j i : Nat} {l0 l1 l : List Nat} (hj : L[j]? = some l0) (h : (L.set j l1)[i]? = some l) : (i = j ∧ l = l1) ∨ (i ≠ j ∧ L[i]? = some l) := by
  rw [List.getElem?_set] at h
  by_cases e : j = i
  · rw [if_pos e, if_pos (by have := lt_len hj; omega)] at h
    exact .inl ⟨e.symm, (Option.some.inj h).symm⟩
  · rw [if_neg e] at h
    exact .inr ⟨fun q => e q.symm, h⟩
theorem rep_put {p : Nat} {L : List (List Nat)} {ns : List S94} (h : Rep p L ns) (j x : Nat) (A B : List Nat) (hl : L[j]? = some (A ++ B)) (hx : x < p) (hf : inn ns x = -1) :
    Rep p (L.set j (A ++ x :: B)) (putN ns x (nxt (p + j) B) (lst (p + j) A) j) := by
  have hj := lt_len hl
  have hlen := h.len
  have inA : ∀ k, k ∈ A → k < p ∧ inn ns k = (j : Int) := fun k hk => h.mem j _ k hl (List.mem_append_left _ hk)
  have inB : ∀ k, k ∈ B → k < p ∧ inn ns k = (j : Int) := fun k hk => h.mem j _ k hl (List.mem_append_right _ hk)
  have hq : lst (p + j) A = p + j ∨ lst (p + j) A ∈ A := List.mem_cons.1 (lst_mem A (p + j))
  have hy := nxt_mem (p + j) B
  have lq : lst (p + j) A < ns.length := by
    rcases hq with e | e
    · omega
    · have := (inA _ e).1; omega
  have ly : nxt (p + j) B < ns.length := by
    rcases hy with e | e
    · omega
    · have := (inB _ e).1; omega
  have hxl : x < ns.length := by omega
  have P := put_is ns x (nxt (p + j) B) (lst (p + j) A) j hxl ly lq
  have hd := h.hd j _ hl
  have hxn : x ∉ (p + j) :: (A ++ B) := fun q => by
    rcases List.mem_cons.1 q with e | e
    · omega
    · exact h.free hf j _ hl e
  refine ⟨?_, ?_, ?_, ?_, ?_⟩
  · rw [putN_len, List.length_set]; exact hlen
  · intro i l hi
    rcases set_at hl hi with ⟨rfl, rfl⟩ | ⟨hij, hi⟩
    · exact seg_put (p + i) x A B hd hxn (h.seg i _ hl) (fun k => (P k).1) (fun k => (P k).2.1)
    · have hil := lt_len hi
      have far : ∀ k, k = p + i ∨ k ∈ l → k ≠ x ∧ k ≠ lst (p + j) A ∧ k ≠ nxt (p + j) B := by
        intro k hk
        rcases hk with e | e
        · refine ⟨by omega, fun q => ?_, fun q => ?_⟩
          · rcases hq with e2 | e2
            · omega
            · have := (inA _ e2).1; omega
          · rcases hy with e2 | e2
            · omega
            · have := (inB _ e2).1; omega
        · have hk := h.mem i l k hi e
          refine ⟨fun q => by rw [q] at hk; omega, fun q => ?_, fun q => ?_⟩
          · rcases hq with e2 | e2
            · omega
            · have := (inA _ e2).2; rw [← q] at this; omega
          · rcases hy with e2 | e2
            · omega
            · have := (inB _ e2).2; rw [← q] at this; omega
      refine seg_congr (p + i) l (p + i) ?_ ?_ (h.seg i l hi)
      · intro k hk
        obtain ⟨f1, f2, f3⟩ := far k (List.mem_cons.1 hk)
        rw [(P k).1, if_neg f1, if_neg f2]
      · intro k hk
        obtain ⟨f1, f2, f3⟩ := far k (by
          rcases List.mem_append.1 hk with e | e
          · exact .inr e
          · exact .inl (List.mem_singleton.1 e))
        rw [(P k).2.1, if_neg f3, if_neg f1]
  · intro i l k hi hk
    rcases set_at hl hi with ⟨rfl, rfl⟩ | ⟨hij, hi⟩
    · rw [(P k).2.2]
      by_cases e : k = x
      · rw [if_pos e, e]; exact ⟨hx, rfl⟩
      · rw [if_neg e]
        refine h.mem i _ k hl ?_
        rcases List.mem_append.1 hk with q | q
        · exact List.mem_append_left _ q
        · exact List.mem_append_right _ ((List.mem_cons.1 q).resolve_left e)
    · have := h.mem i l k hi hk
      rw [(P k).2.2, if_neg (fun q => by rw [q] at this; omega)]; exact this
  · intro i l hi
    rcases set_at hl hi with ⟨rfl, rfl⟩ | ⟨hij, hi⟩
    · have h1 := h.nodup i _ hl
      have h2 : x ∉ A ++ B := h.free hf i _ hl
      rw [List.nodup_append] at h1 ⊢
      refine ⟨h1.1, List.nodup_cons.2 ⟨fun q => h2 (List.mem_append_right _ q), h1.2.1⟩, fun a ha b hb => ?_⟩
      rcases List.mem_cons.1 hb with e | e
      · rw [e]; exact fun q => h2 (List.mem_append_left _ (q ▸ ha))
      · exact h1.2.2 a ha b e
    · exact h.nodup i l hi
  · intro k hk
    rw [(P k).2.2]
    by_cases e : k = x
    · refine .inr ⟨j, A ++ x :: B, ?_, by rw [e]; exact List.mem_append_right _ List.mem_cons_self⟩
      rw [List.getElem?_set, if_pos rfl, if_pos hj]
    · rw [if_neg e]
      rcases h.own k hk with q | ⟨i, l, hi, hm⟩
      · exact .inl q
      · by_cases hij : i = j
        · subst hij
          refine .inr ⟨i, A ++ x :: B, by rw [List.getElem?_set, if_pos rfl, if_pos hj], ?_⟩
          rw [hl] at hi
          rw [← Option.some.inj hi] at hm
          rcases List.mem_append.1 hm with q | q
          · exact List.mem_append_left _ q
          · exact List.mem_append_right _ (List.mem_cons_of_mem _ q)
        · exact .inr ⟨i, l, by rw [List.getElem?_set, if_neg (fun q => hij q.symm)]; exact hi, hm⟩
theorem rep_drop {p : Nat} {L : List (List Nat)} {ns : List S94} (h : Rep p L ns) (j x : Nat) (A B : List Nat) (hl : L[j]? = some (A ++ x :: B)) :
    Rep p (L.set j (A ++ B)) (dropN ns x (lst (p + j) A) (nxt (p + j) B)) := by
  have hj := lt_len hl
  have hlen := h.len
  have inA : ∀ k, k ∈ A → k < p ∧ inn ns k = (j : Int) := fun k hk => h.mem j _ k hl (List.mem_append_left _ hk)
  have inB : ∀ k, k ∈ B → k < p ∧ inn ns k = (j : Int) := fun k hk => h.mem j _ k hl (List.mem_append_right _ (List.mem_cons_of_mem _ hk))
  have inx := h.mem j _ x hl (List.mem_append_right _ List.mem_cons_self)
  have hq : lst (p + j) A = p + j ∨ lst (p + j) A ∈ A := List.mem_cons.1 (lst_mem A (p + j))
  have hy := nxt_mem (p + j) B
  have lq : lst (p + j) A < ns.length := by
    rcases hq with e | e
    · omega
    · have := (inA _ e).1; omega
  have ly : nxt (p + j) B < ns.length := by
    rcases hy with e | e
    · omega
    · have := (inB _ e).1; omega
  have hxl : x < ns.length := by have := inx.1; omega
  have P := drop_is ns x (lst (p + j) A) (nxt (p + j) B) hxl lq ly
  have hd := h.hd j _ hl
  have hnd := h.nodup j _ hl
  have hnd' := List.nodup_append.1 hnd
  have hxA : x ∉ A := fun q => hnd'.2.2 x q x List.mem_cons_self rfl
  have hxB : x ∉ B := (List.nodup_cons.1 hnd'.2.1).1
  refine ⟨?_, ?_, ?_, ?_, ?_⟩
  · rw [dropN_len, List.length_set]; exact hlen
  · intro i l hi
    rcases set_at hl hi with ⟨rfl, rfl⟩ | ⟨hij, hi⟩
    · refine seg_drop (p + i) x A B hd (h.seg i _ hl) (fun k hk => ?_) (fun k hk => ?_)
      · rw [(P k).1, if_neg hk]
      · rw [(P k).2.1, if_neg hk]
    · have hil := lt_len hi
      have far : ∀ k, k = p + i ∨ k ∈ l → k ≠ x ∧ k ≠ lst (p + j) A ∧ k ≠ nxt (p + j) B := by
        intro k hk
        rcases hk with e | e
        · refine ⟨by have := inx.1; omega, fun q => ?_, fun q => ?_⟩
          · rcases hq with e2 | e2
            · omega
            · have := (inA _ e2).1; omega
          · rcases hy with e2 | e2
            · omega
            · have := (inB _ e2).1; omega
        · have hk := h.mem i l k hi e
          refine ⟨fun q => by rw [q, inx.2] at hk; omega, fun q => ?_, fun q => ?_⟩
          · rcases hq with e2 | e2
            · omega
            · have := (inA _ e2).2; rw [← q] at this; omega
          · rcases hy with e2 | e2
            · omega
            · have := (inB _ e2).2; rw [← q] at this; omega
      refine seg_congr (p + i) l (p + i) ?_ ?_ (h.seg i l hi)
      · intro k hk
        obtain ⟨f1, f2, f3⟩ := far k (List.mem_cons.1 hk)
        rw [(P k).1, if_neg f1, if_neg f2]
      · intro k hk
        obtain ⟨f1, f2, f3⟩ := far k (by
          rcases List.mem_append.1 hk with e | e
          · exact .inr e
          · exact .inl (List.mem_singleton.1 e))
        rw [(P k).2.1, if_neg f1, if_neg f3]
  · intro i l k hi hk
    rcases set_at hl hi with ⟨rfl, rfl⟩ | ⟨hij, hi⟩
    · rcases List.mem_append.1 hk with q | q
      · rw [(P k).2.2, if_neg (show k ≠ x from fun e => hxA (e ▸ q))]; exact inA k q
      · rw [(P k).2.2, if_neg (show k ≠ x from fun e => hxB (e ▸ q))]; exact inB k q
    · have := h.mem i l k hi hk
      rw [(P k).2.2, if_neg (fun q => by rw [q, inx.2] at this; omega)]; exact this
  · intro i l hi
    rcases set_at hl hi with ⟨rfl, rfl⟩ | ⟨hij, hi⟩
    · exact List.nodup_append.2 ⟨hnd'.1, (List.nodup_cons.1 hnd'.2.1).2, fun a ha b hb => hnd'.2.2 a ha b (List.mem_cons_of_mem _ hb)⟩
    · exact h.nodup i l hi
  · intro k hk
    rw [(P k).2.2]
    by_cases e : k = x
    · rw [if_pos e]; exact .inl rfl
    · rw [if_neg e]
      rcases h.own k hk with q | ⟨i, l, hi, hm⟩
      · exact .inl q
      · by_cases hij : i = j
        · subst hij
          refine .inr ⟨i, A ++ B, by rw [List.getElem?_set, if_pos rfl, if_pos hj], ?_⟩
          rw [hl] at hi
          rw [← Option.some.inj hi] at hm
          rcases List.mem_append.1 hm with q | q
          · exact List.mem_append_left _ q
          · exact List.mem_append_right _ ((List.mem_cons.1 q).resolve_left e)
        · exact .inr ⟨i, l, by rw [List.getElem?_set, if_neg (fun q => hij q.symm)]; exact hi, hm⟩
theorem rep_fresh (p n : Nat) : Rep p (List.replicate n []) (fresh (p + n)) := by
  have nf : ∀ k, k < p + n → nd (fresh (p + n)) k = ⟨⟨(k : Int), (k : Int)⟩, -1⟩ := by
    intro k hk
    unfold nd fresh
    rw [List.getD_eq_getElem?_getD, List.getElem?_map, List.getElem?_range hk]; rfl
  have none : ∀ (j : Nat) (l : List Nat), (List.replicate n ([] : List Nat))[j]? = some l → l = [] ∧ j < n := by
    intro j l h
    have hj := lt_len h
    rw [List.length_replicate] at hj
    rw [List.getElem?_replicate_of_lt hj] at h
    exact ⟨(Option.some.inj h).symm, hj⟩
  refine ⟨by simp [fresh], ?_, ?_, ?_, ?_⟩
  · intro j l h
    obtain ⟨rfl, hj⟩ := none j l h
    exact ⟨by rw [nx, nf _ (by omega)], by rw [pv, nf _ (by omega)]⟩
  · intro j l x h hx
    obtain ⟨rfl, hj⟩ := none j l h
    cases hx
  · intro j l h
    obtain ⟨rfl, hj⟩ := none j l h
    exact List.nodup_nil
  · intro x hx
    exact .inl (by rw [inn, nf _ (by omega)])
end Go.Proofs.Ytokhbiaaaflphaa.ChainS
