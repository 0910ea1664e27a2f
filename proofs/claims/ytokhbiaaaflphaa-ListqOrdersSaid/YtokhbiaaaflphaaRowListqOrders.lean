/-
  complinelaw07.ListqOrders: the row, out of its walk and its plain law. No condition.
-/
import Derived.Test.YtokhbiaaaflphaaRows
import Derived.Test.YtokhbiaaaflphaaListOrders
import Derived.Test.YtokhbiaaaflphaaRowy
import Derived.WalkKit
import Derived.ProofKit
import Derived.OpenShut
import Derived.ShutString
import Derived.ChangeOld
import Derived.Below
import Derived.SizedLaws
import Derived.Carry
namespace Go.Proofs.Ytokhbiaaaflphaa.listqOrders
open Go.ChangeShapes Go.WideShapes Go.ChangeAt Go.RowKit Go.Proofs.Ytokhbiaaaflphaa.Rowy Go.Proofs.Ytokhbiaaaflphaa.ListK Go.Proofs.Ytokhbiaaaflphaa.GListqPlays Go.Proofs.YtokhbiaaaflphaaW.PrintWords
open Go.ChangeMaps (open_string shut_string)
set_option linter.unusedVariables false
set_option linter.unusedSimpArgs false
theorem own : ownKnob Try.prog.godebug = none := by kernel_rfl
theorem laidOut : laidOutB Try.prog = true := by kernel_rfl
def okS38 (x : S38) : Prop := (Lit.int .u64 x.f0).wf = true ∧ (Lit.int .u64 x.f1).wf = true ∧ (Lit.int .i64 x.f2).wf = true
set_option maxRecDepth 100000 in
theorem trod_S38 {H : Type} {enc : TypeId × Value → H} {W : World} {base : Nat} {spare : Nat → Bool} {held : Bool} (n : Nat) (cs : List Value) (y : DataW H × List MemPlace)
    (h : DataW.trod enc Try.prog W base spare held n 38 cs = some y) : ∃ x : S38, k38.K W x cs ∧ okS38 x := by
  obtain ⟨xs, m, _, _, hcl, hxl, hf⟩ := DataW.trod_struct Try.underlying38 h
  have hcn : Try.prog.cellsOf 38 = 3 := by kernel_rfl
  rw [hcn] at hcl
  match cs, hcl with
  | [c0, c1, c2], _ =>
    obtain ⟨z0, e0, w0⟩ := field_int (c := 1) Try.underlying32 (by rw [hxl]; decide) (by kernel_rfl) (hf 0 _ rfl)
    have g0 : [c0] = [.int .u64 z0] := e0
    obtain rfl := (List.cons.inj g0).1
    obtain ⟨z1, e1, w1⟩ := field_int (c := 1) Try.underlying32 (by rw [hxl]; decide) (by kernel_rfl) (hf 1 _ rfl)
    have g1 : [c1] = [.int .u64 z1] := e1
    obtain rfl := (List.cons.inj g1).1
    obtain ⟨z2, e2, w2⟩ := field_int (c := 1) Try.underlying3 (by rw [hxl]; decide) (by kernel_rfl) (hf 2 _ rfl)
    have g2 : [c2] = [.int .i64 z2] := e2
    obtain rfl := (List.cons.inj g2).1
    exact ⟨⟨z0, z1, z2⟩, k38_mk W _, w0, w1, w2⟩
set_option maxRecDepth 100000 in
theorem lifted (os : Os) (started : os.Started) (H : Type) (enc : TypeId × Value → H) :
    ReturnsInHanded {} Try.checked os 6 .any (Rows.listqOrdersSpec.pre6 enc Try.prog Try.f6 Rows.listqOrdersRow.domain false) (Rows.listqOrdersSpec.post enc Try.prog Try.f6 false true false false) := by
  refine returnsInHanded_of_change_sized (C := Try.checked) own started (by kernel_rfl) Try.func6
    (ChangeSpec.witness6 (enc := enc) (C := Try.checked) false ⟨#[], #[.int .i64 0, .slice none 0 0, .slice none 0 0], []⟩ 8 (by kernel_rfl) (by kernel_rfl) (by kernel_rfl) (by kernel_rfl)) ?_
  intro W base args ds gs before hval0 hW hcnd hsz0 _
  have hsz : (DataW.weightsEach Try.prog (Try.f6.params.toList ++ Rows.listqOrdersSpec.plain.varTypes Try.prog) (ds ++ gs)).all (· ≤ reachBytes) = true := hsz0
  have hval : ∀ (j : Nat) t v, Try.f6.params[j]? = some t → args[j]? = some v → Value.okWide Try.prog W .any base t v := hval0
  have hW' := hW
  obtain ⟨p, q, hA0, hV, rfl, hfz, hnd⟩ := hW
  have hA : DataW.TrodAll enc Try.prog W 0 (fun _ => true) true Try.f6.params.toList args.toList ds p := hA0
  rw [Try.params6] at hA hval hsz
  obtain ⟨v0, vs0, d0, ds0, p0, q0, hargs, rfl, rfl, h0, r0⟩ := trodAll_cons hA
  obtain ⟨v1, vs1, d1, ds1, p1, q1, rfl, rfl, rfl, h1, r1⟩ := trodAll_cons r0
  obtain ⟨v2, vs2, d2, ds2, p2, q2, rfl, rfl, rfl, h2, r2⟩ := trodAll_cons r1
  obtain ⟨rfl, rfl, rfl⟩ := trodAll_nil r2
  obtain rfl : args = #[v0, v1, v2] := by cases args; simp_all
  obtain ⟨rfl, rfl⟩ := trodVars_none hV
  obtain ⟨a0, rfl, rfl, rfl, w0⟩ := open_int Try.underlying3 (hval 0 3 v0 rfl rfl) h0
  obtain ⟨A1, len1, cap1, rfl⟩ := okWide_slice Try.underlying25 (hval 1 25 v1 rfl rfl)
  have k1 := h1
  have lt1 : ∀ x ∈ p1, x.block < W.heap.size := by obtain ⟨m, hm⟩ := k1; exact DataW.trod_lt m _ _ _ hm
  obtain ⟨l1, rfl, hc1, hr1, w1⟩ := slice_C k38 okS38 Try.underlying25 (by kernel_rfl) (fun n cs y h => trod_S38 n cs y h) h1
  have y1 : l1.length * 24 ≤ 140737488351232 := sized_C hsz (j := 1) (t := 25) rfl rfl Try.underlying25 (by kernel_rfl) h1
  obtain ⟨A2, len2, cap2, rfl⟩ := okWide_slice Try.underlying48 (hval 2 48 v2 rfl rfl)
  have k2 := h2
  have lt2 : ∀ x ∈ p2, x.block < W.heap.size := by obtain ⟨m, hm⟩ := k2; exact DataW.trod_lt m _ _ _ hm
  obtain ⟨l2, rfl, hc2, hr2, w2⟩ := slice_C (Kd.int .u8) (fun z => (Lit.int .u8 z).wf = true) Try.underlying48 (by kernel_rfl) (fun n cs y h => by obtain ⟨z, rfl, _, hw⟩ := DataW.trod_int Try.underlying5 h; exact ⟨z, rfl, hw⟩) h2
  have y2 : l2.length * 1 ≤ 140737488351232 := sized_C hsz (j := 2) (t := 48) rfl rfl Try.underlying48 (by kernel_rfl) h2
  clear hA0 hval0 hsz0 hsz
  refine (ListOrders.orders_calls a0 A1 cap1 l1 A2 cap2 l2 W hr1 hr2 w2 (by omega) (by omega)).mono fun e W' ⟨he, bel0⟩ => ?_
  have bel : Below W.heap.size W W' := bel0
  subst he
  exact ⟨_, rfl, _, _, _, [], _, [], hW', trodAll_mk1 (shut_bool Try.underlying4 _), (trodAll_cons_mk (shut_int Try.underlying3 w0) (trodAll_cons_mk (Below.trod laidOut (by kernel_rfl) (of_decide_eq_true (by kernel_rfl)) k1 bel lt1) (trodAll_cons_mk (Below.trod laidOut (by kernel_rfl) (of_decide_eq_true (by kernel_rfl)) k2 bel lt2) trodAll_mk0))), rfl, bel.frame _, fun h => by cases h⟩
theorem over : Rows.listqOrdersRow.holds Try.pinned (OpenSpec.ofChange Rows.listqOrdersSpec) :=
  OpenClaim.holds_of_wide 6 Try.f6 rfl rfl rfl rfl rfl rfl rfl ⟨rfl, rfl, rfl, rfl, rfl⟩ rfl rfl rfl rfl rfl (by kernel_rfl) Try.func6 (by kernel_rfl)
    (of_decide_eq_true (by kernel_rfl)) (by unfold Func.isWrapper; first | (rw [if_pos (by decide +kernel)]; kernel_rfl) | (rw [if_neg (by decide +kernel)]; exact ⟨rfl, rfl⟩))
    (fun os started H enc _ => lifted os started H enc)
theorem proved : Rows.ListqOrdersSaid := over
#print axioms proved
end Go.Proofs.Ytokhbiaaaflphaa.listqOrders
namespace Go.Proofs.Ytokhbiaaaflphaa
/-- The row, under a short name, for the claim. -/
theorem listqOrders_holds : Rows.ListqOrdersSaid := listqOrders.proved
end Go.Proofs.Ytokhbiaaaflphaa
