/-
  complinelaw15.PolicyCalm: the row, out of its walk and its plain law. No condition.
-/
import Derived.Test.YtkbodakmfllnpaaRows
import Derived.Test.YtkbodakmfllnpaaGPolicyCalmx4
import Derived.Test.YtkbodakmfllnpaaPurePolicyCalm
import Derived.Test.YtkbodakmfllnpaaRowy
import Derived.WalkKit
import Derived.ProofKit
import Derived.OpenShut
import Derived.ShutString
import Derived.ChangeOld
import Derived.Below
import Derived.SizedLaws
import Derived.Carry
namespace Go.Proofs.Ytkbodakmfllnpaa.policyCalm
open Go.ChangeShapes Go.WideShapes Go.ChangeAt Go.RowKit Go.Proofs.Ytkbodakmfllnpaa.Rowy Go.Proofs.Ytkbodakmfllnpaa.GPolicyCalm Go.Proofs.Ytkbodakmfllnpaa.Pure Go.Proofs.YtkbodakmfllnpaaW.PrintWords
open Go.ChangeMaps (open_string shut_string)
set_option linter.unusedVariables false
set_option linter.unusedSimpArgs false
theorem own : ownKnob Try.prog.godebug = none := by kernel_rfl
theorem laidOut : laidOutB Try.prog = true := by kernel_rfl
theorem trod_S23 {H : Type} {enc : TypeId × Value → H} {W : World} {base : Nat} {spare : Nat → Bool} {held : Bool} (n : Nat) (cs : List Value) (y : DataW H × List MemPlace)
    (h : DataW.trod enc Try.prog W base spare held n 23 cs = some y) : ∃ x : S23, k23.K W x cs ∧ okS23 x := by
  obtain ⟨xs, m, _, _, hcl, hxl, hf⟩ := DataW.trod_struct Try.underlying23 h
  have hcn : Try.prog.cellsOf 23 = 5 := by kernel_rfl
  rw [hcn] at hcl
  match cs, hcl with
  | [c0, c1, c2, c3, c4], _ =>
    obtain ⟨z0, e0⟩ := field_bool (c := 1) Try.underlying4 (by rw [hxl]; decide) (by kernel_rfl) (hf 0 _ rfl)
    have g0 : [c0] = [.bool z0] := e0
    obtain rfl := (List.cons.inj g0).1
    obtain ⟨z1, e1, w1⟩ := field_int (c := 1) Try.underlying3 (by rw [hxl]; decide) (by kernel_rfl) (hf 1 _ rfl)
    have g1 : [c1] = [.int .i64 z1] := e1
    obtain rfl := (List.cons.inj g1).1
    obtain ⟨z2, e2, w2⟩ := field_int (c := 1) Try.underlying3 (by rw [hxl]; decide) (by kernel_rfl) (hf 2 _ rfl)
    have g2 : [c2] = [.int .i64 z2] := e2
    obtain rfl := (List.cons.inj g2).1
    obtain ⟨z3, e3, w3⟩ := field_int (c := 1) Try.underlying3 (by rw [hxl]; decide) (by kernel_rfl) (hf 3 _ rfl)
    have g3 : [c3] = [.int .i64 z3] := e3
    obtain rfl := (List.cons.inj g3).1
    obtain ⟨z4, e4, w4⟩ := field_int (c := 1) Try.underlying3 (by rw [hxl]; decide) (by kernel_rfl) (hf 4 _ rfl)
    have g4 : [c4] = [.int .i64 z4] := e4
    obtain rfl := (List.cons.inj g4).1
    exact ⟨⟨z0, z1, z2, z3, z4⟩, k23_mk W _, w1, w2, w3, w4⟩
theorem trod_S25 {H : Type} {enc : TypeId × Value → H} {W : World} {base : Nat} {spare : Nat → Bool} {held : Bool} (n : Nat) (cs : List Value) (y : DataW H × List MemPlace)
    (h : DataW.trod enc Try.prog W base spare held n 25 cs = some y) : ∃ x : S25, k25.K W x cs ∧ okS25 x := by
  obtain ⟨xs, m, _, _, hcl, hxl, hf⟩ := DataW.trod_struct Try.underlying25 h
  have hcn : Try.prog.cellsOf 25 = 5 := by kernel_rfl
  rw [hcn] at hcl
  match cs, hcl with
  | [c0, c1, c2, c3, c4], _ =>
    obtain ⟨z0, e0, w0⟩ := field_int (c := 1) Try.underlying3 (by rw [hxl]; decide) (by kernel_rfl) (hf 0 _ rfl)
    have g0 : [c0] = [.int .i64 z0] := e0
    obtain rfl := (List.cons.inj g0).1
    obtain ⟨z1, e1, w1⟩ := field_int (c := 1) Try.underlying3 (by rw [hxl]; decide) (by kernel_rfl) (hf 1 _ rfl)
    have g1 : [c1] = [.int .i64 z1] := e1
    obtain rfl := (List.cons.inj g1).1
    obtain ⟨z2, e2, w2⟩ := field_int (c := 1) Try.underlying3 (by rw [hxl]; decide) (by kernel_rfl) (hf 2 _ rfl)
    have g2 : [c2] = [.int .i64 z2] := e2
    obtain rfl := (List.cons.inj g2).1
    obtain ⟨z3, e3, w3⟩ := field_int (c := 1) Try.underlying3 (by rw [hxl]; decide) (by kernel_rfl) (hf 3 _ rfl)
    have g3 : [c3] = [.int .i64 z3] := e3
    obtain rfl := (List.cons.inj g3).1
    obtain ⟨z4, e4, w4⟩ := field_int (c := 1) Try.underlying3 (by rw [hxl]; decide) (by kernel_rfl) (hf 4 _ rfl)
    have g4 : [c4] = [.int .i64 z4] := e4
    obtain rfl := (List.cons.inj g4).1
    exact ⟨⟨z0, z1, z2, z3, z4⟩, k25_mk W _, w0, w1, w2, w3, w4⟩
set_option maxRecDepth 100000 in
theorem lifted (os : Os) (started : os.Started) (H : Type) (enc : TypeId × Value → H) :
    ReturnsInHanded {} Try.checked os 6 .any (Rows.policyCalmSpec.pre6 enc Try.prog Try.f6 Rows.policyCalmRow.domain false) (Rows.policyCalmSpec.post enc Try.prog Try.f6 false true false false) := by
  refine returnsInHanded_of_change_sized (C := Try.checked) own started (by kernel_rfl) Try.func6
    (ChangeSpec.witness6 (enc := enc) (C := Try.checked) false ⟨#[], #[.agg #[.bool false, .int .i64 0, .int .i64 0, .int .i64 0, .int .i64 0], .int .i64 0, .slice none 0 0], []⟩ 8 (by kernel_rfl) (by kernel_rfl) (by kernel_rfl) (by kernel_rfl)) ?_
  intro W base args ds gs before hval0 hW hcnd hsz0 _
  have hsz : (DataW.weightsEach Try.prog (Try.f6.params.toList ++ Rows.policyCalmSpec.plain.varTypes Try.prog) (ds ++ gs)).all (· ≤ reachBytes) = true := hsz0
  have hval : ∀ (j : Nat) t v, Try.f6.params[j]? = some t → args[j]? = some v → Value.okWide Try.prog W .any base t v := hval0
  have hW' := hW
  obtain ⟨p, q, hA0, hV, rfl, hfz, hnd⟩ := hW
  have hA : DataW.TrodAll enc Try.prog W 0 (fun _ => true) true Try.f6.params.toList args.toList ds p := hA0
  rw [Try.params6] at hA hval hsz
  obtain ⟨v0, vs0, d0, ds0, p0, q0, hargs, rfl, rfl, h0, r0⟩ := trodAll_cons hA
  obtain ⟨v1, vs1, d1, ds1, p1, q1, rfl, rfl, rfl, h1, r1⟩ := trodAll_cons r0
  obtain ⟨v2, vs2, d2, ds2, p2, q2, rfl, rfl, rfl, h2, r2⟩ := trodAll_cons r1
  obtain ⟨rfl, rfl, rfl⟩ := trodAll_nil r2
  obtain rfl : args = #[v0, v1, v2] := by cases args; simp_all
  obtain ⟨rfl, rfl⟩ := trodVars_none hV
  have k0 := h0
  have lt0 : ∀ x ∈ p0, x.block < W.heap.size := by obtain ⟨m, hm⟩ := k0; exact DataW.trod_lt m _ _ _ hm
  obtain ⟨x0, b0, rfl, hk0, w0⟩ := agg_K k23 okS23 Try.underlying23 (fun n cs y h => trod_S23 n cs y h) (hval 0 23 v0 rfl rfl) h0
  obtain ⟨b0⟩ := b0
  obtain rfl : b0 = _ := k23_open hk0
  obtain ⟨a1, rfl, rfl, rfl, w1⟩ := open_int Try.underlying3 (hval 1 3 v1 rfl rfl) h1
  obtain ⟨A2, len2, cap2, rfl⟩ := okWide_slice Try.underlying37 (hval 2 37 v2 rfl rfl)
  have k2 := h2
  have lt2 : ∀ x ∈ p2, x.block < W.heap.size := by obtain ⟨m, hm⟩ := k2; exact DataW.trod_lt m _ _ _ hm
  obtain ⟨l2, rfl, hc2, hr2, w2⟩ := slice_C k25 okS25 Try.underlying37 (by kernel_rfl) (fun n cs y h => trod_S25 n cs y h) h2
  have y2 : l2.length * 40 ≤ 140737488351232 := sized_C hsz (j := 2) (t := 37) rfl rfl Try.underlying37 (by kernel_rfl) h2
  clear hA0 hval0 hsz0 hsz
  obtain ⟨k, hp⟩ := PolicyCalm x0 a1 l2 w0 w1 y2 w2
  refine (complinelaw15_PolicyCalm.calls k x0.f0 x0.f1 x0.f2 x0.f3 x0.f4 a1 A2 cap2 l2 true W hr2 hc2 hp).mono fun e W' ⟨he, bel0⟩ => ?_
  have bel : Below W.heap.size W W' := by first | exact bel0 | exact bel0.below
  subst he
  exact ⟨_, rfl, _, _, _, [], _, [], hW', trodAll_mk1 (shut_bool Try.underlying4 _), (trodAll_cons_mk (Below.trod laidOut (by kernel_rfl) (of_decide_eq_true (by kernel_rfl)) k0 bel lt0) (trodAll_cons_mk (shut_int Try.underlying3 w1) (trodAll_cons_mk (Below.trod laidOut (by kernel_rfl) (of_decide_eq_true (by kernel_rfl)) k2 bel lt2) trodAll_mk0))), rfl, bel.frame _, fun h => by cases h⟩
theorem over : Rows.policyCalmRow.holds Try.pinned (OpenSpec.ofChange Rows.policyCalmSpec) :=
  OpenClaim.holds_of_wide 6 Try.f6 rfl rfl rfl rfl rfl rfl rfl ⟨rfl, rfl, rfl, rfl, rfl⟩ rfl rfl rfl rfl rfl (by kernel_rfl) Try.func6 (by kernel_rfl)
    (of_decide_eq_true (by kernel_rfl)) (by unfold Func.isWrapper; first | (rw [if_pos (by decide +kernel)]; kernel_rfl) | (rw [if_neg (by decide +kernel)]; exact ⟨rfl, rfl⟩))
    (fun os started H enc _ => lifted os started H enc)
theorem proved : Rows.PolicyCalmSaid := over
#print axioms proved
end Go.Proofs.Ytkbodakmfllnpaa.policyCalm
namespace Go.Proofs.Ytkbodakmfllnpaa
/-- The row, under a short name, for the claim. -/
theorem policyCalm_holds : Rows.PolicyCalmSaid := policyCalm.proved
end Go.Proofs.Ytkbodakmfllnpaa
