/-
  complinelaw06.ChainSplices: the row, out of its walk and its plain law. No condition.
-/
import Derived.Test.YtfnppjhkhdfmdaaRows
import Derived.Test.YtfnppjhkhdfmdaaChainSplices
import Derived.Test.YtfnppjhkhdfmdaaRowy
import Derived.WalkKit
import Derived.ProofKit
import Derived.OpenShut
import Derived.ShutString
import Derived.ChangeOld
import Derived.Below
import Derived.SizedLaws
import Derived.Carry
namespace Go.Proofs.Ytfnppjhkhdfmdaa.chainSplices
open Go.ChangeShapes Go.WideShapes Go.ChangeAt Go.RowKit Go.Proofs.Ytfnppjhkhdfmdaa.Rowy Go.Proofs.Ytfnppjhkhdfmdaa.ChainT Go.Proofs.Ytfnppjhkhdfmdaa.ChainSplices Go.Proofs.YtfnppjhkhdfmdaaW.PrintWords
open Go.ChangeMaps (open_string shut_string)
set_option linter.unusedVariables false
set_option linter.unusedSimpArgs false
theorem own : ownKnob Try.prog.godebug = none := by kernel_rfl
theorem laidOut : laidOutB Try.prog = true := by kernel_rfl
def okS33 (x : S33) : Prop := (Lit.int .i64 x.f0).wf = true ∧ (Lit.int .i64 x.f1).wf = true ∧ (Lit.int .i64 x.f2).wf = true
theorem trod_S33 {H : Type} {enc : TypeId × Value → H} {W : World} {base : Nat} {spare : Nat → Bool} {held : Bool} (n : Nat) (cs : List Value) (y : DataW H × List MemPlace)
    (h : DataW.trod enc Try.prog W base spare held n 33 cs = some y) : ∃ x : S33, k33.K W x cs ∧ okS33 x := by
  obtain ⟨xs, m, _, _, hcl, hxl, hf⟩ := DataW.trod_struct Try.underlying33 h
  have hcn : Try.prog.cellsOf 33 = 3 := by kernel_rfl
  rw [hcn] at hcl
  match cs, hcl with
  | [c0, c1, c2], _ =>
    obtain ⟨z0, e0, w0⟩ := field_int (c := 1) Try.underlying3 (by rw [hxl]; decide) (by kernel_rfl) (hf 0 _ rfl)
    have g0 : [c0] = [.int .i64 z0] := e0
    obtain rfl := (List.cons.inj g0).1
    obtain ⟨z1, e1, w1⟩ := field_int (c := 1) Try.underlying3 (by rw [hxl]; decide) (by kernel_rfl) (hf 1 _ rfl)
    have g1 : [c1] = [.int .i64 z1] := e1
    obtain rfl := (List.cons.inj g1).1
    obtain ⟨z2, e2, w2⟩ := field_int (c := 1) Try.underlying3 (by rw [hxl]; decide) (by kernel_rfl) (hf 2 _ rfl)
    have g2 : [c2] = [.int .i64 z2] := e2
    obtain rfl := (List.cons.inj g2).1
    exact ⟨⟨z0, z1, z2⟩, k33_mk W _, w0, w1, w2⟩
set_option maxRecDepth 100000 in
theorem lifted (os : Os) (started : os.Started) (H : Type) (enc : TypeId × Value → H) :
    ReturnsInHanded {} Try.checked os 7 .any (Rows.chainSplicesSpec.pre6 enc Try.prog Try.f7 Rows.chainSplicesRow.domain false) (Rows.chainSplicesSpec.post enc Try.prog Try.f7 false true false false) := by
  refine returnsInHanded_of_change_sized (C := Try.checked) own started (by kernel_rfl) Try.func7
    (ChangeSpec.witness6 (enc := enc) (C := Try.checked) false ⟨#[], #[.int .i64 0, .int .i64 0, .slice none 0 0, .int .i64 0, .int .i64 0], []⟩ 8 (by kernel_rfl) (by kernel_rfl) (by kernel_rfl) (by kernel_rfl)) ?_
  intro W base args ds gs before hval0 hW hcnd hsz0 _
  have hsz : (DataW.weightsEach Try.prog (Try.f7.params.toList ++ Rows.chainSplicesSpec.plain.varTypes Try.prog) (ds ++ gs)).all (· ≤ reachBytes) = true := hsz0
  have hval : ∀ (j : Nat) t v, Try.f7.params[j]? = some t → args[j]? = some v → Value.okWide Try.prog W .any base t v := hval0
  have hW' := hW
  obtain ⟨p, q, hA0, hV, rfl, hfz, hnd⟩ := hW
  have hA : DataW.TrodAll enc Try.prog W 0 (fun _ => true) true Try.f7.params.toList args.toList ds p := hA0
  rw [Try.params7] at hA hval hsz
  obtain ⟨v0, vs0, d0, ds0, p0, q0, hargs, rfl, rfl, h0, r0⟩ := trodAll_cons hA
  obtain ⟨v1, vs1, d1, ds1, p1, q1, rfl, rfl, rfl, h1, r1⟩ := trodAll_cons r0
  obtain ⟨v2, vs2, d2, ds2, p2, q2, rfl, rfl, rfl, h2, r2⟩ := trodAll_cons r1
  obtain ⟨v3, vs3, d3, ds3, p3, q3, rfl, rfl, rfl, h3, r3⟩ := trodAll_cons r2
  obtain ⟨v4, vs4, d4, ds4, p4, q4, rfl, rfl, rfl, h4, r4⟩ := trodAll_cons r3
  obtain ⟨rfl, rfl, rfl⟩ := trodAll_nil r4
  obtain rfl : args = #[v0, v1, v2, v3, v4] := by cases args; simp_all
  obtain ⟨rfl, rfl⟩ := trodVars_none hV
  obtain ⟨a0, rfl, rfl, rfl, w0⟩ := open_int Try.underlying3 (hval 0 3 v0 rfl rfl) h0
  obtain ⟨a1, rfl, rfl, rfl, w1⟩ := open_int Try.underlying3 (hval 1 3 v1 rfl rfl) h1
  obtain ⟨A2, len2, cap2, rfl⟩ := okWide_slice Try.underlying22 (hval 2 22 v2 rfl rfl)
  have k2 := h2
  have lt2 : ∀ x ∈ p2, x.block < W.heap.size := by obtain ⟨m, hm⟩ := k2; exact DataW.trod_lt m _ _ _ hm
  obtain ⟨l2, rfl, hc2, hr2, w2⟩ := slice_C k33 okS33 Try.underlying22 (by kernel_rfl) (fun n cs y h => trod_S33 n cs y h) h2
  have y2 : l2.length * 24 ≤ 140737488351232 := sized_C hsz (j := 2) (t := 22) rfl rfl Try.underlying22 (by kernel_rfl) h2
  obtain ⟨a3, rfl, rfl, rfl, w3⟩ := open_int Try.underlying3 (hval 3 3 v3 rfl rfl) h3
  obtain ⟨a4, rfl, rfl, rfl, w4⟩ := open_int Try.underlying3 (hval 4 3 v4 rfl rfl) h4
  clear hA0 hval0 hsz0 hsz
  refine (splices_calls a0 a1 A2 cap2 l2 a3 a4 W hr2 (by omega)).mono fun e W' ⟨he, bel0⟩ => ?_
  have bel : Below W.heap.size W W' := bel0
  subst he
  exact ⟨_, rfl, _, _, _, [], _, [], hW', trodAll_mk1 (shut_bool Try.underlying4 _), (trodAll_cons_mk (shut_int Try.underlying3 w0) (trodAll_cons_mk (shut_int Try.underlying3 w1) (trodAll_cons_mk (Below.trod laidOut (by kernel_rfl) (of_decide_eq_true (by kernel_rfl)) k2 bel lt2) (trodAll_cons_mk (shut_int Try.underlying3 w3) (trodAll_cons_mk (shut_int Try.underlying3 w4) trodAll_mk0))))), rfl, bel.frame _, fun h => by cases h⟩
theorem over : Rows.chainSplicesRow.holds Try.pinned (OpenSpec.ofChange Rows.chainSplicesSpec) :=
  OpenClaim.holds_of_wide 7 Try.f7 rfl rfl rfl rfl rfl rfl rfl ⟨rfl, rfl, rfl, rfl, rfl⟩ rfl rfl rfl rfl rfl (by kernel_rfl) Try.func7 (by kernel_rfl)
    (of_decide_eq_true (by kernel_rfl)) (by unfold Func.isWrapper; first | (rw [if_pos (by decide +kernel)]; kernel_rfl) | (rw [if_neg (by decide +kernel)]; exact ⟨rfl, rfl⟩))
    (fun os started H enc _ => lifted os started H enc)
theorem proved : Rows.ChainSplicesSaid := over
#print axioms proved
end Go.Proofs.Ytfnppjhkhdfmdaa.chainSplices
namespace Go.Proofs.Ytfnppjhkhdfmdaa
/-- The row, under a short name, for the claim. -/
theorem chainSplices_holds : Rows.ChainSplicesSaid := chainSplices.proved
end Go.Proofs.Ytfnppjhkhdfmdaa
