/-
  Arguments that are structs, or slices of structs, opened for a row, whatever the struct: what the reading says of the cells. No condition.
-/
import Derived.Deep.Slices
import Derived.Deep.Fields
import Derived.ChangeSame
import Derived.SizedLaws
import Derived.Test.YtokhbiaaaflphaaWWords
namespace Go.Proofs.Ytokhbiaaaflphaa.Rowy
open Go.ChangeShapes Go.WideShapes Go.Deep Go.Proofs.YtokhbiaaaflphaaW.PrintWords

theorem list_of {α : Type} (Q : Nat → α → Prop) : ∀ n, (∀ i, i < n → ∃ x, Q i x) → ∃ xs : List α, xs.length = n ∧ ∀ j p, xs[j]? = some p → Q j p
  | 0, _ => ⟨[], rfl, fun j p h => by simp at h⟩
  | n + 1, h => by
    obtain ⟨xs, hl, hx⟩ := list_of Q n (fun i hi => h i (by omega))
    obtain ⟨x, hq⟩ := h n (by omega)
    refine ⟨xs ++ [x], by simp [hl], fun j p hj => ?_⟩
    by_cases hlt : j < xs.length
    · rw [List.getElem?_append_left hlt] at hj
      exact hx j p hj
    · rw [List.getElem?_append_right (by omega)] at hj
      by_cases h0 : j - xs.length = 0
      · rw [h0] at hj
        simp at hj
        subst hj
        obtain rfl : j = n := by omega
        exact hq
      · rw [List.getElem?_eq_none (by simp; omega)] at hj
        cases hj
section
variable {H : Type} {enc : TypeId × Value → H} {P : Program} {W : World} {base : Nat} {spare : Nat → Bool} {held : Bool}
theorem slice_C {t e : TypeId} {a : Option Addr} {len cap : Nat} {D : DataW H} {ps : List MemPlace} {α : Type} (d : Kd α) (ok : α → Prop) (ht : P.underlying t = some (.slice e)) (hsz : P.cellsOf e = d.sz)
    (hel : ∀ n cs y, DataW.trod enc P W base spare held n e cs = some y → ∃ x, d.K W x cs ∧ ok x)
    (h : DataW.Trod enc P W base spare held t (.slice a len cap) D ps) :
    ∃ xs : List α, xs.length = len ∧ len ≤ cap ∧ d.C W a len xs ∧ ∀ x ∈ xs, ok x := by
  obtain ⟨fuel, hf⟩ := h
  rcases open_slice ht hf with ⟨hcs, _⟩ | ⟨x, l, c, m, n, D', Pl, hcs, _, hl, hm, hmm, _, hi⟩
  · simp [Value.cells] at hcs
    obtain ⟨rfl, rfl, rfl⟩ := hcs
    exact ⟨[], rfl, Nat.le_refl _, ⟨rfl, by decide, fun h => absurd h (Nat.lt_irrefl 0)⟩, fun x hx => by cases hx⟩
  · simp [Value.cells] at hcs
    obtain ⟨rfl, rfl, rfl⟩ := hcs
    have hlm : len ≤ m := by rw [hmm]; split <;> omega
    obtain ⟨xs, hxl, hxs⟩ := list_of (fun i (z : α) => ∃ cs', W.cells? base (x.add (i * P.cellsOf e)) (P.cellsOf e) = some cs' ∧ d.K W z cs' ∧ ok z) len (fun i hlt => by
      obtain ⟨cs', hc, ht'⟩ := hi i (by omega)
      obtain ⟨z, hz, ho⟩ := hel _ _ _ ht'
      exact ⟨z, cs', hc, hz, ho⟩)
    refine ⟨xs, hxl, hl, ⟨hxl, by unfold maxLen at hm; omega, fun _ => ⟨x, rfl, fun j p hj => ?_⟩⟩, fun z hz => ?_⟩
    · obtain ⟨cs', hc, hk, _⟩ := hxs j p hj
      obtain ⟨_, hcl, hat⟩ := World.cells?_some hc
      rw [hsz] at hcl hat
      refine ⟨cs', hcl, hk, fun i u hu => ?_⟩
      have hlt : i < d.sz := by
        have := (List.getElem?_eq_some_iff.1 hu).1
        omega
      have := hat i hlt
      rw [Go.Deep.add_add] at this
      exact this.trans hu
    · obtain ⟨j, hj⟩ := List.getElem?_of_mem hz
      obtain ⟨_, _, _, ho⟩ := hxs j z hj
      exact ho
theorem sized_C {t e : TypeId} {a : Option Addr} {len cap : Nat} {D : DataW H} {ps : List MemPlace} {ts : List TypeId} {ds : List (DataW H)} {j : Nat}
    (hsz : (DataW.weightsEach P ts ds).all (· ≤ reachBytes) = true) (ht : ts[j]? = some t) (hd : ds[j]? = some D) (hu : P.underlying t = some (.slice e)) {B : Nat} (hB : P.bytesOf e = B)
    (h : DataW.Trod enc P W base spare held t (.slice a len cap) D ps) : len * B ≤ 140737488351232 := by
  obtain ⟨fuel, hf⟩ := h
  rcases open_slice hu hf with ⟨hcs, _⟩ | ⟨x, l, c, m, n, D', Pl, hcs, _, hl, hm, hmm, hx, _⟩
  · simp [Value.cells] at hcs
    obtain ⟨rfl, rfl, rfl⟩ := hcs
    simp
  · simp [Value.cells] at hcs
    obtain ⟨rfl, rfl, rfl⟩ := hcs
    obtain ⟨hx, _⟩ := Prod.mk.inj hx
    subst hx
    have z := sized_slice hsz ht hd hu
    rw [hB] at z
    simp only [List.length_map, List.length_range] at z
    exact Nat.le_trans (Nat.mul_le_mul_right _ (Nat.le_add_right _ _)) z
theorem agg_K {r : Reach} {b0 : Nat} {t : TypeId} {fs : Array Field} {v : Value} {D : DataW H} {ps : List MemPlace} {α : Type} (d : Kd α) (ok : α → Prop) (hs : P.underlying t = some (.struct fs))
    (hel : ∀ n cs y, DataW.trod enc P W base spare held n t cs = some y → ∃ x, d.K W x cs ∧ ok x)
    (hv : Value.okWide P W r b0 t v) (h : DataW.Trod enc P W base spare held t v D ps) : ∃ (x : α) (cs : Array Value), v = .agg cs ∧ d.K W x cs.toList ∧ ok x := by
  obtain ⟨cs, rfl, _⟩ := okWide_struct hs hv
  obtain ⟨fuel, hf⟩ := h
  obtain ⟨x, hx, ho⟩ := hel _ _ _ hf
  exact ⟨x, cs, rfl, hx, ho⟩
/-- A field's cells, read: one whole number. -/
theorem field_int {n : Nat} {cs : List Value} {t : TypeId} {k : IntKind} {xs : List (DataW H × List MemPlace)} {i : Nat} {o c : Nat} (ht : P.underlying t = some (.int k)) (hi : i < xs.length) (hc : P.cellsOf t = c)
    (h : DataW.trod enc P W base spare held n t ((cs.drop o).take (P.cellsOf t)) = xs[i]?) : ∃ z : Int, (cs.drop o).take c = [.int k z] ∧ (Lit.int k z).wf = true := by
  rw [List.getElem?_eq_getElem hi] at h
  obtain ⟨z, hz, _, hw⟩ := DataW.trod_int ht h
  rw [hc] at hz
  exact ⟨z, hz, hw⟩
theorem field_bool {n : Nat} {cs : List Value} {t : TypeId} {xs : List (DataW H × List MemPlace)} {i : Nat} {o c : Nat} (ht : P.underlying t = some .bool) (hi : i < xs.length) (hc : P.cellsOf t = c)
    (h : DataW.trod enc P W base spare held n t ((cs.drop o).take (P.cellsOf t)) = xs[i]?) : ∃ z : Bool, (cs.drop o).take c = [.bool z] := by
  rw [List.getElem?_eq_getElem hi] at h
  obtain ⟨z, hz, _⟩ := DataW.trod_bool ht h
  rw [hc] at hz
  exact ⟨z, hz⟩
/-- A field that is a struct of its own. -/
theorem field_any {n : Nat} {cs : List Value} {t : TypeId} {xs : List (DataW H × List MemPlace)} {i : Nat} {o c : Nat} (hi : i < xs.length) (hc : P.cellsOf t = c)
    (h : DataW.trod enc P W base spare held n t ((cs.drop o).take (P.cellsOf t)) = xs[i]?) : ∃ y, DataW.trod enc P W base spare held n t ((cs.drop o).take c) = some y := by
  rw [List.getElem?_eq_getElem hi, hc] at h
  exact ⟨_, h⟩
end
end Go.Proofs.Ytokhbiaaaflphaa.Rowy
