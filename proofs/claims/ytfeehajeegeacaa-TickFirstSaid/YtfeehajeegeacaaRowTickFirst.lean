/-
  complinelaw01.TickFirst: the row, out of its walk and its plain law. No condition.
-/
import Derived.Test.YtfeehajeegeacaaRows
import Derived.Test.YtfeehajeegeacaaGTickFirstx4
import Derived.Test.YtfeehajeegeacaaPureTickFirst
import Derived.Test.YtfeehajeegeacaaRowy
import Derived.WalkKit
import Derived.ProofKit
import Derived.OpenShut
import Derived.ShutString
import Derived.ChangeOld
import Derived.Below
import Derived.SizedLaws
import Derived.Carry
namespace Go.Proofs.Ytfeehajeegeacaa.tickFirst
open Go.ChangeShapes Go.WideShapes Go.ChangeAt Go.RowKit Go.Proofs.Ytfeehajeegeacaa.Rowy Go.Proofs.Ytfeehajeegeacaa.GTickFirst Go.Proofs.Ytfeehajeegeacaa.Pure Go.Proofs.YtfeehajeegeacaaW.PrintWords
open Go.ChangeMaps (open_string shut_string)
set_option linter.unusedVariables false
set_option linter.unusedSimpArgs false
theorem own : ownKnob Try.prog.godebug = none := by kernel_rfl
theorem laidOut : laidOutB Try.prog = true := by kernel_rfl
theorem trod_S33 {H : Type} {enc : TypeId × Value → H} {W : World} {base : Nat} {spare : Nat → Bool} {held : Bool} (n : Nat) (cs : List Value) (y : DataW H × List MemPlace)
    (h : DataW.trod enc Try.prog W base spare held n 33 cs = some y) : ∃ x : S33, k33.K W x cs ∧ okS33 x := by
  obtain ⟨xs, m, _, _, hcl, hxl, hf⟩ := DataW.trod_struct Try.underlying33 h
  have hcn : Try.prog.cellsOf 33 = 3 := by kernel_rfl
  rw [hcn] at hcl
  match cs, hcl with
  | [c0, c1, c2], _ =>
    obtain ⟨z0, e0, w0⟩ := field_int (c := 1) Try.underlying22 (by rw [hxl]; decide) (by kernel_rfl) (hf 0 _ rfl)
    have g0 : [c0] = [.int .u64 z0] := e0
    obtain rfl := (List.cons.inj g0).1
    obtain ⟨z1, e1, w1⟩ := field_int (c := 1) Try.underlying22 (by rw [hxl]; decide) (by kernel_rfl) (hf 1 _ rfl)
    have g1 : [c1] = [.int .u64 z1] := e1
    obtain rfl := (List.cons.inj g1).1
    obtain ⟨z2, e2, w2⟩ := field_int (c := 1) Try.underlying3 (by rw [hxl]; decide) (by kernel_rfl) (hf 2 _ rfl)
    have g2 : [c2] = [.int .i64 z2] := e2
    obtain rfl := (List.cons.inj g2).1
    exact ⟨⟨z0, z1, z2⟩, k33_mk W _, w0, w1, w2⟩
set_option maxRecDepth 100000 in
theorem lifted (os : Os) (started : os.Started) (H : Type) (enc : TypeId × Value → H) :
    ReturnsInHanded {} Try.checked os 8 .any (Rows.tickFirstSpec.pre6 enc Try.prog Try.f8 Rows.tickFirstRow.domain false) (Rows.tickFirstSpec.post enc Try.prog Try.f8 false true false false) := by
  refine returnsInHanded_of_change_sized (C := Try.checked) own started (by kernel_rfl) Try.func8
    (ChangeSpec.witness6 (enc := enc) (C := Try.checked) false ⟨#[], #[.slice none 0 0], []⟩ 8 (by kernel_rfl) (by kernel_rfl) (by kernel_rfl) (by kernel_rfl)) ?_
  intro W base args ds gs before hval0 hW hcnd hsz0 _
  have hsz : (DataW.weightsEach Try.prog (Try.f8.params.toList ++ Rows.tickFirstSpec.plain.varTypes Try.prog) (ds ++ gs)).all (· ≤ reachBytes) = true := hsz0
  have hval : ∀ (j : Nat) t v, Try.f8.params[j]? = some t → args[j]? = some v → Value.okWide Try.prog W .any base t v := hval0
  have hW' := hW
  obtain ⟨p, q, hA0, hV, rfl, hfz, hnd⟩ := hW
  have hA : DataW.TrodAll enc Try.prog W 0 (fun _ => true) true Try.f8.params.toList args.toList ds p := hA0
  rw [Try.params8] at hA hval hsz
  obtain ⟨v0, vs0, d0, ds0, p0, q0, hargs, rfl, rfl, h0, r0⟩ := trodAll_cons hA
  obtain ⟨rfl, rfl, rfl⟩ := trodAll_nil r0
  obtain rfl : args = #[v0] := by cases args; simp_all
  obtain ⟨rfl, rfl⟩ := trodVars_none hV
  obtain ⟨A0, len0, cap0, rfl⟩ := okWide_slice Try.underlying36 (hval 0 36 v0 rfl rfl)
  have k0 := h0
  have lt0 : ∀ x ∈ p0, x.block < W.heap.size := by obtain ⟨m, hm⟩ := k0; exact DataW.trod_lt m _ _ _ hm
  obtain ⟨l0, rfl, hc0, hr0, w0⟩ := slice_C k33 okS33 Try.underlying36 (by kernel_rfl) (fun n cs y h => trod_S33 n cs y h) h0
  have y0 : l0.length * 24 ≤ 140737488351232 := sized_C hsz (j := 0) (t := 36) rfl rfl Try.underlying36 (by kernel_rfl) h0
  clear hA0 hval0 hsz0 hsz
  obtain ⟨k, hp⟩ := TickFirst l0 y0 w0
  refine (complinelaw01_TickFirst.calls k A0 cap0 l0 true W hr0 hc0 hp).mono fun e W' ⟨he, bel0⟩ => ?_
  have bel : Below W.heap.size W W' := by first | exact bel0 | exact bel0.below
  subst he
  exact ⟨_, rfl, _, _, _, [], _, [], hW', trodAll_mk1 (shut_bool Try.underlying4 _), (trodAll_cons_mk (Below.trod laidOut (by kernel_rfl) (of_decide_eq_true (by kernel_rfl)) k0 bel lt0) trodAll_mk0), rfl, bel.frame _, fun h => by cases h⟩
theorem over : Rows.tickFirstRow.holds Try.pinned (OpenSpec.ofChange Rows.tickFirstSpec) :=
  OpenClaim.holds_of_wide 8 Try.f8 rfl rfl rfl rfl rfl rfl rfl ⟨rfl, rfl, rfl, rfl, rfl⟩ rfl rfl rfl rfl rfl (by kernel_rfl) Try.func8 (by kernel_rfl)
    (of_decide_eq_true (by kernel_rfl)) (by unfold Func.isWrapper; first | (rw [if_pos (by decide +kernel)]; kernel_rfl) | (rw [if_neg (by decide +kernel)]; exact ⟨rfl, rfl⟩))
    (fun os started H enc _ => lifted os started H enc)
theorem proved : Rows.TickFirstSaid := over
#print axioms proved
end Go.Proofs.Ytfeehajeegeacaa.tickFirst
namespace Go.Proofs.Ytfeehajeegeacaa
/-- The row, under a short name, for the claim. -/
theorem tickFirst_holds : Rows.TickFirstSaid := tickFirst.proved
end Go.Proofs.Ytfeehajeegeacaa
