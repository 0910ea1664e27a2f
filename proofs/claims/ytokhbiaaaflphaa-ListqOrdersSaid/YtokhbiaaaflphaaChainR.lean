/-
  Chains, plain: segments of places, one beside the other.
  No condition.
-/
namespace Go.Proofs.Ytokhbiaaaflphaa.ChainR
set_option linter.unusedVariables false
/-- From a by way of l to b: each is beside the next. -/
def Seg (nx pv : Nat → Int) (a : Nat) : List Nat → Nat → Prop
  | [], b => nx a = b ∧ pv b = a
  | c :: l, b => nx a = c ∧ pv c = a ∧ Seg nx pv c l b
theorem seg_app (nx pv : Nat → Int) (c : Nat) (l2 : List Nat) (b : Nat) : ∀ (l1 : List Nat) (a : Nat), Seg nx pv a (l1 ++ c :: l2) b ↔ Seg nx pv a l1 c ∧ Seg nx pv c l2 b
  | [], a => by simp only [List.nil_append, Seg, and_assoc]
  | d :: l1, a => by simp only [List.cons_append, Seg, seg_app nx pv c l2 b l1 d, and_assoc]
theorem seg_congr {nx pv nx' pv' : Nat → Int} (b : Nat) : ∀ (l : List Nat) (a : Nat), (∀ k, k ∈ a :: l → nx' k = nx k) → (∀ k, k ∈ l ++ [b] → pv' k = pv k) → Seg nx pv a l b → Seg nx' pv' a l b
  | [], a, hn, hp, h => by
    simp only [Seg] at h ⊢
    rw [hn a (by simp), hp b (by simp)]; exact h
  | c :: l, a, hn, hp, h => by
    simp only [Seg] at h ⊢
    rw [hn a (by simp), hp c (by simp)]
    exact ⟨h.1, h.2.1, seg_congr b l c (fun k hk => hn k (List.mem_cons_of_mem _ hk)) (fun k hk => hp k (List.mem_cons_of_mem _ hk)) h.2.2⟩
/-- The last one ahead of the end. -/
def lst (a : Nat) : List Nat → Nat
  | [] => a
  | c :: l => lst c l
theorem lst_mem : ∀ (l : List Nat) (a : Nat), lst a l ∈ a :: l
  | [], a => by simp [lst]
  | c :: l, a => List.mem_cons_of_mem _ (lst_mem l c)
theorem seg_last {nx pv : Nat → Int} (b : Nat) : ∀ (l : List Nat) (a : Nat), Seg nx pv a l b → pv b = lst a l ∧ nx (lst a l) = b
  | [], a, h => ⟨h.2, h.1⟩
  | c :: l, a, h => seg_last b l c h.2.2
/-- The end is turned to x. -/
theorem seg_turn {nx pv nx' pv' : Nat → Int} (b x : Nat) : ∀ (l : List Nat) (a : Nat), (a :: l).Nodup → Seg nx pv a l b → (∀ k, k ∈ a :: l → k ≠ lst a l → nx' k = nx k) → nx' (lst a l) = x → pv' x = lst a l → (∀ k, k ∈ l → pv' k = pv k) → Seg nx' pv' a l x
  | [], a, _, _, _, h1, h2, _ => ⟨h1, h2⟩
  | c :: l, a, hd, h, hn, h1, h2, hp => by
    simp only [Seg] at h ⊢
    have hne : a ≠ lst a (c :: l) := fun e => by
      have := lst_mem l c
      rw [show lst c l = lst a (c :: l) from rfl, ← e] at this
      exact (List.nodup_cons.1 hd).1 this
    refine ⟨(hn a (by simp) hne).trans h.1, (hp c (by simp)).trans h.2.1, ?_⟩
    exact seg_turn b x l c (List.nodup_cons.1 hd).2 h.2.2 (fun k hk => hn k (List.mem_cons_of_mem _ hk)) h1 h2 (fun k hk => hp k (List.mem_cons_of_mem _ hk))
/-- The one behind A. -/
def nxt (h : Nat) : List Nat → Nat
  | [] => h
  | y :: _ => y
/-- x comes between A and B. -/
theorem seg_put {nx pv nx' pv' : Nat → Int} (h x : Nat) (A B : List Nat) (hd : (h :: (A ++ B)).Nodup) (hx : x ∉ h :: (A ++ B)) (hs : Seg nx pv h (A ++ B) h)
    (hn : ∀ k, nx' k = if k = x then (nxt h B : Int) else if k = lst h A then (x : Int) else nx k) (hp : ∀ k, pv' k = if k = nxt h B then (x : Int) else if k = x then (lst h A : Int) else pv k) : Seg nx' pv' h (A ++ x :: B) h := by
  have hxk : ∀ k, k ∈ h :: (A ++ B) → k ≠ x := fun k hk e => hx (e ▸ hk)
  have hA : ∀ k, k ∈ h :: A → k ∈ h :: (A ++ B) := fun k hk => by
    rcases List.mem_cons.1 hk with e | e
    · exact e ▸ List.mem_cons_self
    · exact List.mem_cons_of_mem _ (List.mem_append_left _ e)
  have hB : ∀ k, k ∈ B → k ∈ h :: (A ++ B) := fun k hk => List.mem_cons_of_mem _ (List.mem_append_right _ hk)
  have hq : lst h A ∈ h :: A := lst_mem A h
  have hdA : (h :: A).Nodup := by
    rw [← List.cons_append] at hd
    exact (List.nodup_append.1 hd).1
  have hAB : ∀ k, k ∈ h :: A → ∀ m, m ∈ B → k ≠ m := by
    rw [← List.cons_append] at hd
    exact (List.nodup_append.1 hd).2.2
  have hqx : lst h A ≠ x := hxk _ (hA _ hq)
  have hh : h ∈ h :: A := List.mem_cons_self
  have turn : ∀ y, Seg nx pv h A y → nxt h B = y → Seg nx' pv' h A x := by
    intro y h1 hy
    refine seg_turn y x A h hdA h1 ?_ ?_ ?_ ?_
    · intro k hk hkq; rw [hn, if_neg (hxk k (hA k hk)), if_neg hkq]
    · rw [hn, if_neg hqx, if_pos rfl]
    · have : x ≠ nxt h B := by
        cases B with
        | nil => exact fun e => hx (by rw [e]; exact List.mem_cons_self)
        | cons y' B' => exact fun e => hxk y' (hB y' List.mem_cons_self) e.symm
      rw [hp, if_neg this, if_pos rfl]
    · intro k hk
      have : k ≠ nxt h B := by
        cases B with
        | nil => exact fun e => (List.nodup_cons.1 hdA).1 (by rw [← show k = h from e]; exact hk)
        | cons y' B' => exact hAB k (List.mem_cons_of_mem _ hk) y' List.mem_cons_self
      rw [hp, if_neg this, if_neg (hxk k (hA k (List.mem_cons_of_mem _ hk)))]
  rw [seg_app]
  cases B with
  | nil =>
    rw [List.append_nil] at hs
    refine ⟨turn h hs rfl, ?_, ?_⟩
    · rw [hn, if_pos rfl]; rfl
    · rw [hp, if_pos (show h = nxt h [] from rfl)]
  | cons y B' =>
    rw [seg_app] at hs
    refine ⟨turn y hs.1 rfl, ?_, ?_, ?_⟩
    · rw [hn, if_pos rfl]; rfl
    · rw [hp, if_pos (show y = nxt h (y :: B') from rfl)]
    · have hdB : (y :: B').Nodup := by
        rw [← List.cons_append] at hd
        exact (List.nodup_append.1 hd).2.1
      refine seg_congr h B' y ?_ ?_ hs.2
      · intro k hk
        rw [hn, if_neg (hxk k (hB k hk)), if_neg (fun e => hAB _ hq k hk e.symm)]
      · intro k hk
        have h1 : k ≠ y := by
          rcases List.mem_append.1 hk with e | e
          · exact fun q => (List.nodup_cons.1 hdB).1 (q ▸ e)
          · rw [List.mem_singleton.1 e]; exact hAB h hh y List.mem_cons_self
        have h2 : k ≠ x := by
          rcases List.mem_append.1 hk with e | e
          · exact hxk k (hB k (List.mem_cons_of_mem _ e))
          · rw [List.mem_singleton.1 e]; exact hxk h (hA h hh)
        rw [hp, if_neg (show k ≠ nxt h (y :: B') from h1), if_neg h2]
/-- x goes out between A and B. -/
theorem seg_drop {nx pv nx' pv' : Nat → Int} (h x : Nat) (A B : List Nat) (hd : (h :: (A ++ x :: B)).Nodup) (hs : Seg nx pv h (A ++ x :: B) h)
    (hn : ∀ k, k ≠ x → nx' k = if k = lst h A then (nxt h B : Int) else nx k) (hp : ∀ k, k ≠ x → pv' k = if k = nxt h B then (lst h A : Int) else pv k) : Seg nx' pv' h (A ++ B) h := by
  have hdA : (h :: A).Nodup := by
    rw [← List.cons_append] at hd
    exact (List.nodup_append.1 hd).1
  have hAX : ∀ k, k ∈ h :: A → ∀ m, m ∈ x :: B → k ≠ m := by
    rw [← List.cons_append] at hd
    exact (List.nodup_append.1 hd).2.2
  have hdX : (x :: B).Nodup := by
    rw [← List.cons_append] at hd
    exact (List.nodup_append.1 hd).2.1
  have hq : lst h A ∈ h :: A := lst_mem A h
  have hh : h ∈ h :: A := List.mem_cons_self
  have hAx : ∀ k, k ∈ h :: A → k ≠ x := fun k hk => hAX k hk x List.mem_cons_self
  rw [seg_app] at hs
  cases B with
  | nil =>
    rw [List.append_nil]
    refine seg_turn x h A h hdA hs.1 ?_ ?_ ?_ ?_
    · intro k hk hkq; rw [hn k (hAx k hk), if_neg hkq]
    · rw [hn _ (hAx _ hq), if_pos rfl]; rfl
    · rw [hp h (hAx h hh), if_pos (show h = nxt h [] from rfl)]
    · intro k hk
      rw [hp k (hAx k (List.mem_cons_of_mem _ hk)), if_neg (show k ≠ nxt h [] from fun e => (List.nodup_cons.1 hdA).1 (by rw [← show k = h from e]; exact hk))]
  | cons y B' =>
    rw [seg_app]
    have hyx : y ≠ x := fun e => (List.nodup_cons.1 hdX).1 (by rw [← e]; exact List.mem_cons_self)
    have hdB := (List.nodup_cons.1 hdX).2
    have hAy : ∀ k, k ∈ h :: A → k ≠ y := fun k hk => hAX k hk y (List.mem_cons_of_mem _ List.mem_cons_self)
    refine ⟨seg_turn x y A h hdA hs.1 ?_ ?_ ?_ ?_, seg_congr h B' y ?_ ?_ hs.2.2.2⟩
    · intro k hk hkq; rw [hn k (hAx k hk), if_neg hkq]
    · rw [hn _ (hAx _ hq), if_pos rfl]; rfl
    · rw [hp y hyx, if_pos (show y = nxt h (y :: B') from rfl)]
    · intro k hk
      rw [hp k (hAx k (List.mem_cons_of_mem _ hk)), if_neg (show k ≠ nxt h (y :: B') from hAy k (List.mem_cons_of_mem _ hk))]
    · intro k hk
      have hkx : k ≠ x := fun e => (List.nodup_cons.1 hdX).1 (e ▸ hk)
      rw [hn k hkx, if_neg (fun e => hAX _ hq k (List.mem_cons_of_mem _ hk) e.symm)]
    · intro k hk
      have h1 : k ≠ y := by
        rcases List.mem_append.1 hk with e | e
        · exact fun q => (List.nodup_cons.1 hdB).1 (q ▸ e)
        · rw [List.mem_singleton.1 e]; exact hAy h hh
      have h2 : k ≠ x := by
        rcases List.mem_append.1 hk with e | e
        · exact fun q => (List.nodup_cons.1 hdX).1 (q ▸ List.mem_cons_of_mem _ e)
        · rw [List.mem_singleton.1 e]; exact hAx h hh
      rw [hp k h2, if_neg (show k ≠ nxt h (y :: B') from h1)]
end Go.Proofs.Ytokhbiaaaflphaa.ChainR
