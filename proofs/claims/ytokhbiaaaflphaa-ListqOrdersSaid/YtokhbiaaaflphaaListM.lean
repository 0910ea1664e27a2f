/-
  Queues, plain: timers in order; the document's own answers about them.
  No condition.
-/
import Derived.Test.YtokhbiaaaflphaaGListqPlaysx5
namespace Go.Proofs.Ytokhbiaaaflphaa.ListM
open Go.RowKit Go.Proofs.Ytokhbiaaaflphaa.GListqPlays Go.Proofs.YtokhbiaaaflphaaW.PrintWords Go.Proofs.YtokhbiaaaflphaaW.PrintLast Go.Proofs.YtokhbiaaaflphaaW.PrintMore
set_option linter.unusedVariables false
set_option linter.unusedSimpArgs false
theorem w64 (i : Int) (h0 : -9223372036854775808 ≤ i) (h1 : i < 9223372036854775807) : wrap64 i = i := by unfold wrap64; omega
theorem s38_ext {a b : S38} (h0 : a.f0 = b.f0) (h1 : a.f1 = b.f1) (h2 : a.f2 = b.f2) : a = b := by cases a; cases b; simp only at h0 h1 h2; subst h0 h1 h2; rfl
instance : DecidableEq S38 := fun a b => decidable_of_iff (a.f0 = b.f0 ∧ a.f1 = b.f1 ∧ a.f2 = b.f2) ⟨fun h => s38_ext h.1 h.2.1 h.2.2, fun h => by subst h; exact ⟨rfl, rfl, rfl⟩⟩
/-- Is one timer before another one? -/
def bef (a b : S38) : Prop := a.f0 < b.f0 ∨ (a.f0 = b.f0 ∧ (a.f1 < b.f1 ∨ (a.f1 = b.f1 ∧ a.f2 < b.f2)))
instance (a b : S38) : Decidable (bef a b) := by unfold bef; infer_instance
theorem bef_trans {a b c : S38} (h : bef a b) (k : bef b c) : bef a c := by unfold bef at *; omega
theorem bef_asymm {a b : S38} (h : bef a b) : ¬ bef b a := by unfold bef at *; omega
theorem bef_total {a b : S38} (h : a.f2 ≠ b.f2) (k : ¬ bef a b) : bef b a := by unfold bef at *; omega
theorem bef_due {a b : S38} {now : Int} (h : bef a b) (k : b.f0 ≤ now) : a.f0 ≤ now := by unfold bef at *; omega
/-- What pends: in order, each at a place of its own. -/
structure QI (p : Nat) (T : List S38) : Prop where
  sorted : T.Pairwise bef
  place : ∀ t, t ∈ T → 0 ≤ t.f2 ∧ t.f2 < p
  dist : (T.map S38.f2).Nodup
def fnd (T : List S38) (t : S38) : Nat := (T.filter fun a => decide (bef a t)).length
def putT (T : List S38) (t : S38) : List S38 := T.take (fnd T t) ++ t :: T.drop (fnd T t)
def findT (T : List S38) (x : Int) : Option S38 := T.find? fun a => decide (a.f2 = x)
def outT (T : List S38) (x : Int) : List S38 := T.filter fun a => decide (a.f2 ≠ x)
def dueT (T : List S38) (now : Int) : List S38 := T.filter fun a => decide (a.f0 ≤ now)
def restT (T : List S38) (now : Int) : List S38 := T.filter fun a => decide (¬ a.f0 ≤ now)
theorem fnd_le (T : List S38) (t : S38) : fnd T t ≤ T.length := List.length_filter_le _ _
theorem split_sorted (t : S38) : ∀ (T : List S38), T.Pairwise bef → (∀ a, a ∈ T.take (fnd T t) → bef a t) ∧ (∀ a, a ∈ T.drop (fnd T t) → ¬ bef a t)
  | [], _ => by simp
  | a :: T, h => by
    have h2 := List.pairwise_cons.1 h
    by_cases hb : bef a t
    · have ih := split_sorted t T h2.2
      have e : fnd (a :: T) t = fnd T t + 1 := by unfold fnd; rw [List.filter_cons_of_pos (by simpa using hb)]; rfl
      rw [e, List.take_succ_cons, List.drop_succ_cons]
      refine ⟨fun x hx => ?_, ih.2⟩
      rcases List.mem_cons.1 hx with q | q
      · rw [q]; exact hb
      · exact ih.1 x q
    · have e : fnd (a :: T) t = 0 := by
        unfold fnd
        rw [List.filter_cons_of_neg (by simpa using hb), List.length_eq_zero_iff, List.filter_eq_nil_iff]
        intro x hx
        simp only [decide_eq_true_eq]
        exact fun q => hb (bef_trans (h2.1 x hx) q)
      rw [e, List.take_zero, List.drop_zero]
      refine ⟨fun x hx => by simp at hx, fun x hx => ?_⟩
      rcases List.mem_cons.1 hx with q | q
      · rw [q]; exact hb
      · exact fun r => hb (bef_trans (h2.1 x q) r)
theorem put_at {A B : List S38} {t : S38} (hA : ∀ a, a ∈ A → bef a t) (hB : ∀ b, b ∈ B → ¬ bef b t) : putT (A ++ B) t = A ++ t :: B := by
  have e : fnd (A ++ B) t = A.length := by
    unfold fnd
    rw [List.filter_append, List.length_append]
    have h1 : A.filter (fun a => decide (bef a t)) = A := List.filter_eq_self.2 (fun a ha => by simpa using hA a ha)
    have h2 : B.filter (fun a => decide (bef a t)) = [] := List.filter_eq_nil_iff.2 (fun a ha => by simpa using hB a ha)
    rw [h1, h2]; simp
  unfold putT
  rw [e, List.take_left', List.drop_left'] <;> rfl
theorem mem_put {T : List S38} {t x : S38} : x ∈ putT T t ↔ x = t ∨ x ∈ T := by
  unfold putT
  rw [List.mem_append, List.mem_cons]
  constructor
  · rintro (h | h | h)
    · exact .inr (List.mem_of_mem_take h)
    · exact .inl h
    · exact .inr (List.mem_of_mem_drop h)
  · rintro (h | h)
    · exact .inr (.inl h)
    · rw [← List.take_append_drop (fnd T t) T] at h
      rcases List.mem_append.1 h with q | q
      · exact .inl q
      · exact .inr (.inr q)
theorem len_put (T : List S38) (t : S38) : (putT T t).length = T.length + 1 := by
  unfold putT
  rw [List.length_append, List.length_cons, List.length_take, List.length_drop]
  have := fnd_le T t
  omega
theorem QI.put {p : Nat} {T : List S38} {t : S38} (h : QI p T) (hp : 0 ≤ t.f2 ∧ t.f2 < p) (hd : ∀ a, a ∈ T → a.f2 ≠ t.f2) : QI p (putT T t) := by
  have hs := split_sorted t T h.sorted
  have hap := List.take_append_drop (fnd T t) T
  refine ⟨?_, ?_, ?_⟩
  · have hso := h.sorted
    rw [← hap] at hso
    unfold putT
    rw [List.pairwise_append] at hso ⊢
    refine ⟨hso.1, List.pairwise_cons.2 ⟨fun b hb => ?_, hso.2.1⟩, fun a ha b hb => ?_⟩
    · exact bef_total (hd b (List.mem_of_mem_drop hb)) (hs.2 b hb)
    · rcases List.mem_cons.1 hb with q | q
      · rw [q]; exact hs.1 a ha
      · exact hso.2.2 a ha b q
  · intro x hx
    rcases mem_put.1 hx with q | q
    · rw [q]; exact hp
    · exact h.place x q
  · have hdi := h.dist
    rw [← hap, List.map_append, List.nodup_append] at hdi
    unfold putT
    rw [List.map_append, List.map_cons, List.nodup_append]
    have no : ∀ x, x ∈ T.map S38.f2 → x ≠ t.f2 := fun x hx => by
      obtain ⟨a, ha, rfl⟩ := List.mem_map.1 hx
      exact hd a ha
    refine ⟨hdi.1, List.nodup_cons.2 ⟨fun q => ?_, hdi.2.1⟩, fun a ha b hb => ?_⟩
    · obtain ⟨a, ha, e⟩ := List.mem_map.1 q
      exact hd a (List.mem_of_mem_drop ha) e
    · rcases List.mem_cons.1 hb with q | q
      · rw [q]
        obtain ⟨c, hc, rfl⟩ := List.mem_map.1 ha
        exact hd c (List.mem_of_mem_take hc)
      · exact hdi.2.2 a ha b q
theorem QI.sub {p : Nat} {T : List S38} (h : QI p T) {f : S38 → Bool} : QI p (T.filter f) :=
  ⟨h.sorted.filter _, fun t ht => h.place t (List.mem_filter.1 ht).1, List.Nodup.sublist ((List.filter_sublist).map _) h.dist⟩
theorem QI.nil (p : Nat) : QI p [] := ⟨List.Pairwise.nil, (fun _ h => by cases h), List.nodup_nil⟩
/-- One timer a place. -/
theorem QI.one {p : Nat} {T : List S38} (h : QI p T) {a b : S38} (ha : a ∈ T) (hb : b ∈ T) (e : a.f2 = b.f2) : a = b := by
  have hd := h.dist
  clear h
  induction T with
  | nil => cases ha
  | cons c T ih =>
    rw [List.map_cons, List.nodup_cons] at hd
    rcases List.mem_cons.1 ha with q | q
    · rcases List.mem_cons.1 hb with r | r
      · rw [q, r]
      · exact absurd (List.mem_map.2 ⟨b, r, by rw [← e, q]⟩) hd.1
    · rcases List.mem_cons.1 hb with r | r
      · exact absurd (List.mem_map.2 ⟨a, q, by rw [e, r]⟩) hd.1
      · exact ih q r hd.2
theorem findT_some {T : List S38} {x : Int} {t : S38} (h : findT T x = some t) : t ∈ T ∧ t.f2 = x := by
  unfold findT at h
  exact ⟨List.mem_of_find?_eq_some h, by simpa using List.find?_some h⟩
theorem findT_none {T : List S38} {x : Int} (h : findT T x = none) : ∀ a, a ∈ T → a.f2 ≠ x := by
  unfold findT at h
  intro a ha
  simpa using List.find?_eq_none.1 h a ha
theorem findT_mem {p : Nat} {T : List S38} (h : QI p T) {t : S38} (ht : t ∈ T) : findT T t.f2 = some t := by
  cases hf : findT T t.f2 with
  | none => exact absurd rfl (findT_none hf t ht)
  | some a => rw [h.one (findT_some hf).1 ht (findT_some hf).2]
/-- What the acts come to. -/
def mIn (p : Nat) (T : List S38) (t : S38) : List S38 × Int :=
  if 0 ≤ t.f2 ∧ t.f2 < p then if (findT T t.f2).isSome = true then (T, 4) else (putT T t, 0) else (T, 1)
def mCan (p : Nat) (T : List S38) (x : Int) : List S38 × S38 × Int :=
  if 0 ≤ x ∧ x < p then match findT T x with
    | some t => (outT T x, t, 0)
    | none => (T, z38, 5)
  else (T, z38, 1)
def mMov (p : Nat) (T : List S38) (t : S38) : List S38 × Int :=
  if (mCan p T t.f2).2.2 = 0 then mIn p (mCan p T t.f2).1 t else (T, (mCan p T t.f2).2.2)
theorem QI.mIn {p : Nat} {T : List S38} (h : QI p T) (t : S38) : QI p (mIn p T t).1 := by
  unfold ListM.mIn
  by_cases h1 : 0 ≤ t.f2 ∧ t.f2 < p
  · rw [if_pos h1]
    cases hf : findT T t.f2 with
    | none => exact h.put h1 (findT_none hf)
    | some a => exact h
  · rw [if_neg h1]; exact h
theorem QI.mCan {p : Nat} {T : List S38} (h : QI p T) (x : Int) : QI p (mCan p T x).1 := by
  unfold ListM.mCan
  by_cases h1 : 0 ≤ x ∧ x < p
  · rw [if_pos h1]
    cases hf : findT T x with
    | none => exact h
    | some a => exact h.sub
  · rw [if_neg h1]; exact h
theorem QI.mMov {p : Nat} {T : List S38} (h : QI p T) (t : S38) : QI p (mMov p T t).1 := by
  unfold ListM.mMov
  by_cases h1 : (ListM.mCan p T t.f2).2.2 = 0
  · rw [if_pos h1]; exact (h.mCan _).mIn t
  · rw [if_neg h1]; exact h
/-! The document's own. -/
def getR (T : List S38) (x : Int) : Int × Int × Int × Bool := match findT T x with
  | some t => (t.f0, t.f1, t.f2, true)
  | none => (0, 0, 0, false)
theorem rd_at (T : List S38) (i : Nat) (h : i < T.length) : rd_T38 T (i : Int) = T[i] := by
  unfold rd_T38; rw [Int.toNat_natCast, List.getD_eq_getElem?_getD, List.getElem?_eq_getElem h]; rfl
theorem get_l0 (T : List S38) (P x : Int) (hN : T.length ≤ 1000000) : ∀ (d k i : Nat), T.length - i = d → i ≤ T.length → d < k → complineref07_Get.l0 k x (i : Int) P T = some (getR (T.drop i) x)
  | d, 0, i, _, _, h => by omega
  | d, k + 1, i, hd, hi, hk => by
    simp -implicitDefEqProofs only [complineref07_Get.l0]
    by_cases h : i < T.length
    · rw [if_pos (by omega), if_pos (by omega), List.drop_eq_getElem_cons h, rd_at T i h]
      unfold getR findT
      by_cases hx : T[i].f2 = x
      · rw [if_pos hx, List.find?_cons_of_pos (by simpa using hx)]
      · rw [if_neg hx, List.find?_cons_of_neg (by simpa using hx), w64 _ (by omega) (by omega), show ((i : Int) + 1) = ((i + 1 : Nat) : Int) by omega, get_l0 T P x hN (d - 1) k (i + 1) (by omega) (by omega) (by omega)]
        rfl
    · rw [if_neg (by omega), List.drop_eq_nil_of_le (by omega)]; rfl
theorem get_f (T : List S38) (P x : Int) (k : Nat) (hN : T.length ≤ 1000000) (hk : T.length < k) : complineref07_Get.f k P T x = some (getR T x) := by
  unfold complineref07_Get.f
  have := get_l0 T P x hN T.length k 0 (by omega) (by omega) hk
  rw [List.drop_zero] at this
  exact this
theorem before_f (a b : S38) : complineref01_Before.f a.f0 a.f1 a.f2 b.f0 b.f1 b.f2 = some (decide (bef a b)) := by
  unfold complineref01_Before.f
  by_cases h0 : a.f0 = b.f0
  · rw [if_pos h0]
    by_cases h1 : a.f1 = b.f1
    · rw [if_pos h1]; congr 1; exact decide_eq_decide.2 (by unfold bef; omega)
    · rw [if_neg h1]; congr 1; exact decide_eq_decide.2 (by unfold bef; omega)
  · rw [if_neg h0]; congr 1; exact decide_eq_decide.2 (by unfold bef; omega)
theorem find_l0 (T : List S38) (t : S38) (hN : T.length ≤ 1000000) : ∀ (d k i n : Nat), T.length - i = d → i ≤ T.length → n ≤ i → d < k → complineref04_Find.l0 k T (n : Int) (i : Int) t.f0 t.f1 t.f2 = some ((n + fnd (T.drop i) t : Nat) : Int)
  | d, 0, i, n, _, _, _, h => by omega
  | d, k + 1, i, n, hd, hi, hn, hk => by
    simp -implicitDefEqProofs only [complineref04_Find.l0]
    by_cases h : i < T.length
    · rw [if_pos (by omega), if_pos (by omega), List.drop_eq_getElem_cons h, rd_at T i h, before_f]
      simp -implicitDefEqProofs only [Option.bind_some, decide_eq_true_eq]
      by_cases hx : bef T[i] t
      · rw [if_pos hx, w64 _ (by omega) (by omega), w64 _ (by omega) (by omega), show ((i : Int) + 1) = ((i + 1 : Nat) : Int) by omega, show ((n : Int) + 1) = ((n + 1 : Nat) : Int) by omega, find_l0 T t hN (d - 1) k (i + 1) (n + 1) (by omega) (by omega) (by omega) (by omega)]
        have e : fnd (T[i] :: T.drop (i + 1)) t = fnd (T.drop (i + 1)) t + 1 := by unfold fnd; rw [List.filter_cons_of_pos (by simpa using hx)]; rfl
        rw [e]; congr 2; omega
      · rw [if_neg hx, w64 _ (by omega) (by omega), show ((i : Int) + 1) = ((i + 1 : Nat) : Int) by omega, find_l0 T t hN (d - 1) k (i + 1) n (by omega) (by omega) (by omega) (by omega)]
        have e : fnd (T[i] :: T.drop (i + 1)) t = fnd (T.drop (i + 1)) t := by unfold fnd; rw [List.filter_cons_of_neg (by simpa using hx)]
        rw [e]
    · rw [if_neg (by omega), List.drop_eq_nil_of_le (by omega)]; simp [fnd]
theorem find_f (T : List S38) (t : S38) (k : Nat) (hN : T.length ≤ 1000000) (hk : T.length < k) : complineref04_Find.f k T t.f0 t.f1 t.f2 = some ((fnd T t : Nat) : Int) := by
  unfold complineref04_Find.f
  have := find_l0 T t hN T.length k 0 0 (by omega) (by omega) (by omega) hk
  rw [List.drop_zero, Nat.zero_add] at this
  exact this
theorem put_f (T : List S38) (t : S38) (k : Nat) (hN : T.length ≤ 1000000) (hk : T.length < k) : complineref04_Put.f k T t.f0 t.f1 t.f2 = some (putT T t) := by
  unfold complineref04_Put.f
  have hl := fnd_le T t
  rw [find_f T t k hN hk]
  simp -implicitDefEqProofs only [Option.bind_some, List.nil_append, Int.toNat_natCast]
  rw [if_pos (by omega), if_pos (by omega), if_pos (by rw [List.length_nil, List.length_take]; omega), if_pos (by rw [List.length_take]; omega), if_pos (by rw [List.length_append, List.length_take, List.length_drop]; simp; omega)]
  unfold putT
  rw [List.append_assoc]; rfl
theorem without_l0 (T : List S38) (P x : Int) (hN : T.length ≤ 1000000) : ∀ (d k i : Nat) (o : List S38), T.length - i = d → i ≤ T.length → o.length ≤ i → d < k → complineref07_without.l0 k x o (i : Int) P T = some (P, o ++ outT (T.drop i) x)
  | d, 0, i, o, _, _, _, h => by omega
  | d, k + 1, i, o, hd, hi, ho, hk => by
    simp -implicitDefEqProofs only [complineref07_without.l0]
    by_cases h : i < T.length
    · rw [if_pos (by omega), if_pos (by omega), List.drop_eq_getElem_cons h, rd_at T i h]
      by_cases hx : T[i].f2 = x
      · rw [if_pos hx, w64 _ (by omega) (by omega), show ((i : Int) + 1) = ((i + 1 : Nat) : Int) by omega, without_l0 T P x hN (d - 1) k (i + 1) o (by omega) (by omega) (by omega) (by omega)]
        have e : outT (T[i] :: T.drop (i + 1)) x = outT (T.drop (i + 1)) x := by unfold outT; rw [List.filter_cons_of_neg (by simpa using hx)]
        rw [e]
      · rw [if_neg hx, if_pos (by omega), w64 _ (by omega) (by omega), show ((i : Int) + 1) = ((i + 1 : Nat) : Int) by omega, without_l0 T P x hN (d - 1) k (i + 1) _ (by omega) (by omega) (by simp; omega) (by omega)]
        have e : outT (T[i] :: T.drop (i + 1)) x = T[i] :: outT (T.drop (i + 1)) x := by unfold outT; rw [List.filter_cons_of_pos (by simpa using hx)]
        rw [e, List.append_assoc]; rfl
    · rw [if_neg (by omega), List.drop_eq_nil_of_le (by omega)]; simp [outT]
theorem without_f (T : List S38) (P x : Int) (k : Nat) (hN : T.length ≤ 1000000) (hk : T.length < k) : complineref07_without.f k P T x = some (P, outT T x) := by
  unfold complineref07_without.f
  have := without_l0 T P x hN T.length k 0 [] (by omega) (by omega) (by simp) hk
  rw [List.drop_zero, List.nil_append] at this
  exact this
/-- Those that are due, or the others. -/
def dueB (T : List S38) (now : Int) (c : Bool) : List S38 := T.filter fun a => decide (a.f0 ≤ now) == c
theorem due_l0 (T : List S38) (now : Int) (c : Bool) (hN : T.length ≤ 1000000) : ∀ (d k i : Nat) (o : List S38), T.length - i = d → i ≤ T.length → o.length ≤ i → d < k → complineref04_Due.l0 k T now c o (i : Int) = some (o ++ dueB (T.drop i) now c)
  | d, 0, i, o, _, _, _, h => by omega
  | d, k + 1, i, o, hd, hi, ho, hk => by
    simp -implicitDefEqProofs only [complineref04_Due.l0]
    by_cases h : i < T.length
    · rw [if_pos (by omega), if_pos (by omega), List.drop_eq_getElem_cons h, rd_at T i h]
      by_cases hx : (decide (T[i].f0 ≤ now) == c) = true
      · rw [if_pos hx, if_pos (by omega), w64 _ (by omega) (by omega), show ((i : Int) + 1) = ((i + 1 : Nat) : Int) by omega, due_l0 T now c hN (d - 1) k (i + 1) _ (by omega) (by omega) (by simp; omega) (by omega)]
        have e : dueB (T[i] :: T.drop (i + 1)) now c = T[i] :: dueB (T.drop (i + 1)) now c := by unfold dueB; rw [List.filter_cons_of_pos (p := fun a : S38 => decide (a.f0 ≤ now) == c) hx]
        rw [e, List.append_assoc]; rfl
      · rw [if_neg hx, w64 _ (by omega) (by omega), show ((i : Int) + 1) = ((i + 1 : Nat) : Int) by omega, due_l0 T now c hN (d - 1) k (i + 1) o (by omega) (by omega) (by omega) (by omega)]
        have e : dueB (T[i] :: T.drop (i + 1)) now c = dueB (T.drop (i + 1)) now c := by unfold dueB; rw [List.filter_cons_of_neg (p := fun a : S38 => decide (a.f0 ≤ now) == c) hx]
        rw [e]
    · rw [if_neg (by omega), List.drop_eq_nil_of_le (by omega)]; simp [dueB]
theorem due4_f (T : List S38) (now : Int) (c : Bool) (k : Nat) (hN : T.length ≤ 1000000) (hk : T.length < k) : complineref04_Due.f k T now c = some (dueB T now c) := by
  unfold complineref04_Due.f
  have := due_l0 T now c hN T.length k 0 [] (by omega) (by omega) (by simp) hk
  rw [List.drop_zero, List.nil_append] at this
  exact this
theorem dueB_t (T : List S38) (now : Int) : dueB T now true = dueT T now := by
  unfold dueB dueT
  exact List.filter_congr (fun a _ => by simp)
theorem dueB_f (T : List S38) (now : Int) : dueB T now false = restT T now := by
  unfold dueB restT
  exact List.filter_congr (fun a _ => by by_cases h : a.f0 ≤ now <;> simp [h])
theorem due_f (T : List S38) (P now : Int) (k : Nat) (hN : T.length ≤ 1000000) (hk : T.length < k) : complineref07_Due.f k P T now = some (P, restT T now, dueT T now) := by
  unfold complineref07_Due.f
  rw [due4_f T now false k hN hk, due4_f T now true k hN hk, dueB_t, dueB_f]; rfl
theorem same_l0 (xs ys : List S38) (hN : xs.length ≤ 1000000) (hl : xs.length = ys.length) : ∀ (d k i : Nat), xs.length - i = d → i ≤ xs.length → d < k → complineref04_Same.l0 k xs ys (i : Int) = some (decide (xs.drop i = ys.drop i))
  | d, 0, i, _, _, h => by omega
  | d, k + 1, i, hd, hi, hk => by
    simp -implicitDefEqProofs only [complineref04_Same.l0]
    by_cases h : i < xs.length
    · have h' : i < ys.length := by omega
      rw [if_pos (by omega), if_pos (by omega), if_pos (by omega), List.drop_eq_getElem_cons h, List.drop_eq_getElem_cons h', rd_at xs i h, rd_at ys i h']
      by_cases hx : xs[i] = ys[i]
      · rw [if_neg (by rw [hx]; simp), w64 _ (by omega) (by omega), show ((i : Int) + 1) = ((i + 1 : Nat) : Int) by omega, same_l0 xs ys hN hl (d - 1) k (i + 1) (by omega) (by omega) (by omega)]
        congr 1
        exact decide_eq_decide.2 (by rw [List.cons.injEq]; exact ⟨fun q => ⟨hx, q⟩, fun q => q.2⟩)
      · have hc : (!((xs[i].f0) == (ys[i].f0)) || (!((xs[i].f1) == (ys[i].f1)) || (!((xs[i].f2) == (ys[i].f2))))) = true := by
          by_cases e0 : xs[i].f0 = ys[i].f0
          · by_cases e1 : xs[i].f1 = ys[i].f1
            · have e2 : xs[i].f2 ≠ ys[i].f2 := fun e2 => hx (s38_ext e0 e1 e2)
              simp [e2]
            · simp [e1]
          · simp [e0]
        rw [if_pos hc, decide_eq_false (fun q => hx (List.cons.inj q).1)]
    · rw [if_neg (by omega), List.drop_eq_nil_of_le (by omega), List.drop_eq_nil_of_le (by omega)]; simp
theorem same_f (xs ys : List S38) (k : Nat) (hN : xs.length ≤ 1000000) (hk : xs.length < k) : complineref04_Same.f k xs ys = some (decide (xs = ys)) := by
  unfold complineref04_Same.f
  by_cases hl : xs.length = ys.length
  · rw [if_pos (by omega)]
    have := same_l0 xs ys hN hl xs.length k 0 (by omega) (by omega) hk
    rw [List.drop_zero, List.drop_zero] at this
    exact this
  · rw [if_neg (by omega), decide_eq_false (fun e => hl (by rw [e]))]
def minR (T : List S38) : Int × Int × Int × Bool := match T with
  | t :: _ => (t.f0, t.f1, t.f2, true)
  | [] => (0, 0, 0, false)
theorem min_f (T : List S38) (P : Int) : complineref07_Min.f P T = some (minR T) := by
  unfold complineref07_Min.f
  cases T with
  | nil => rfl
  | cons t T =>
    rw [if_neg (by simp only [List.length_cons]; omega), if_pos (by simp only [List.length_cons]; omega)]; rfl
/-- Which is before which, as the program tells it. -/
def cmpT (a b : S38) : Int := if bef a b then -1 else if bef b a then 1 else 0
theorem cmp_u (a b : Int) : cmp_Compare_uint64.f a b = some (if a < b then -1 else if b < a then 1 else 0) := by
  unfold cmp_Compare_uint64.f cmp_isNaN_uint64.f
  simp -implicitDefEqProofs only [Option.bind_some, bne_self_eq_false, Bool.false_eq_true, if_false]
  by_cases h : a < b
  · rw [if_pos h, if_pos h]
  · rw [if_neg h, if_neg h]
    by_cases h2 : b < a
    · rw [if_pos h2, if_pos h2]
    · rw [if_neg h2, if_neg h2]
theorem cmp_i (a b : Int) : cmp_Compare_int.f a b = some (if a < b then -1 else if b < a then 1 else 0) := by
  unfold cmp_Compare_int.f cmp_isNaN_int.f
  simp -implicitDefEqProofs only [Option.bind_some, bne_self_eq_false, Bool.false_eq_true, if_false]
  by_cases h : a < b
  · rw [if_pos h, if_pos h]
  · rw [if_neg h, if_neg h]
    by_cases h2 : b < a
    · rw [if_pos h2, if_pos h2]
    · rw [if_neg h2, if_neg h2]
theorem or3 (a b c : Int) : cmp_Or_int.f 10 [a, b, c] = some (if a = 0 then if b = 0 then c else b else a) := by
  unfold cmp_Or_int.f
  by_cases ha : a = 0
  · subst ha
    by_cases hb : b = 0
    · subst hb
      by_cases hc : c = 0
      · subst hc; simp [cmp_Or_int.l0, rd, wrap64]
      · simp [cmp_Or_int.l0, rd, wrap64, hc]
    · simp [cmp_Or_int.l0, rd, wrap64, hb]
  · simp [cmp_Or_int.l0, rd, wrap64, ha]
theorem compare_f (a b : S38) : tick_Compare.f 10 a.f0 a.f1 a.f2 b.f0 b.f1 b.f2 = some (cmpT a b) := by
  unfold tick_Compare.f
  rw [cmp_u, cmp_u, cmp_i]
  simp -implicitDefEqProofs only [Option.bind_some]
  rw [or3]
  simp -implicitDefEqProofs only [Option.bind_some]
  congr 1
  unfold cmpT bef
  repeat' split
  all_goals omega
end Go.Proofs.Ytokhbiaaaflphaa.ListM
