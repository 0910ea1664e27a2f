/-
  No cell of these rows narrows 'for every input' (looked for: loops, veiled, ifaces, maps, wideKeys, modest, calm, conditions, laid).
  DERIVED. THE GIVEN ROWS OF THIS SEAT. 6 by the template 'for every input the law returns true; each argument reads behind the call as it read before'; 0 by the template 'total and deterministic' (their statements: YtkbodakmfllnpaaTotals.lean).
  GIVEN WITH THE SEED: the statements are not yours to turn. If you find one false, say at which input.
  Laid BY PROGRAM, IN A SANDBOX (cutbox-rows.mjs): the forced cells as the released guide's own fill.sh prints them over the translation 4b58a8a58c889aa5… (all of the seat's roots in one cut). By AI agents, Wed Nov 11 2026. No macro, syntax, notation, axiom, sorry.
-/
import Derived.Test.YtkbodakmfllnpaaChecked
import GoSem.Claim
import GoSem.ClaimJoined
import GoSem.ClaimMapViews
import Derived.JoinedTies
import Derived.KernelRfl
namespace Go.Proofs.Ytkbodakmfllnpaa
/- THE CELL 'sum', in the pinned program and in every row, IS THE sha256 OF THE DUMP (.gsa) THAT YtkbodakmfllnpaaProg.lean LOADS. Nothing in Lean hashes anything: it is a label: what it is worth is what the hold of that sum in a sandbox is worth. -/
noncomputable def Try.pinned : Pinned := { name := "ytkbodakmfllnpaa", sum := "4b58a8a58c889aa54a48738a916ba1536c7a8228c6016117d480e2cdd0df02f6", checked := Try.checked }
namespace Rows
def none {H : Type} : Left H := { results := [], args := [] }

/-- 'complinelaw15.PolicyWants': WHATEVER THE INPUT: true; the input reads as it did. -/
def policyWantsSpec : ChangeSpec := { name := "policyWants", fn := fun _ => fun
  | [d1, d2] => { results := [.lit (.bool true)], args := [d1, d2] }
  | _ => none }
def policyWantsRow : OpenClaim := { program := "ytkbodakmfllnpaa", sum := "4b58a8a58c889aa54a48738a916ba1536c7a8228c6016117d480e2cdd0df02f6", func := "compline/complinelaw15.PolicyWants", spec := "policyWants", unfollowed := true, recurses := true, apart := false }
def PolicyWantsSaid : Prop := policyWantsRow.holds Try.pinned (OpenSpec.ofChange policyWantsSpec)

/-- ITS FALSE NEIGHBOUR: 'it returns false'. Refute it at one input. -/
def policyWantsWrong : ChangeSpec := { name := "policyWants", fn := fun _ => fun
  | [d1, d2] => { results := [.lit (.bool false)], args := [d1, d2] }
  | _ => none }
def PolicyWantsWrongFalsely : Prop := policyWantsRow.holds Try.pinned (OpenSpec.ofChange policyWantsWrong)

/-- 'complinelaw15.PolicySteps': WHATEVER THE INPUT: true; the input reads as it did. -/
def policyStepsSpec : ChangeSpec := { name := "policySteps", fn := fun _ => fun
  | [d1, d2, d3, d4] => { results := [.lit (.bool true)], args := [d1, d2, d3, d4] }
  | _ => none }
def policyStepsRow : OpenClaim := { program := "ytkbodakmfllnpaa", sum := "4b58a8a58c889aa54a48738a916ba1536c7a8228c6016117d480e2cdd0df02f6", func := "compline/complinelaw15.PolicySteps", spec := "policySteps", unfollowed := true, recurses := true, apart := false }
def PolicyStepsSaid : Prop := policyStepsRow.holds Try.pinned (OpenSpec.ofChange policyStepsSpec)

/-- ITS FALSE NEIGHBOUR: 'it returns false'. Refute it at one input. -/
def policyStepsWrong : ChangeSpec := { name := "policySteps", fn := fun _ => fun
  | [d1, d2, d3, d4] => { results := [.lit (.bool false)], args := [d1, d2, d3, d4] }
  | _ => none }
def PolicyStepsWrongFalsely : Prop := policyStepsRow.holds Try.pinned (OpenSpec.ofChange policyStepsWrong)

/-- 'complinelaw15.PolicyRuns': WHATEVER THE INPUT: true; the input reads as it did. -/
def policyRunsSpec : ChangeSpec := { name := "policyRuns", fn := fun _ => fun
  | [d1, d2, d3] => { results := [.lit (.bool true)], args := [d1, d2, d3] }
  | _ => none }
def policyRunsRow : OpenClaim := { program := "ytkbodakmfllnpaa", sum := "4b58a8a58c889aa54a48738a916ba1536c7a8228c6016117d480e2cdd0df02f6", func := "compline/complinelaw15.PolicyRuns", spec := "policyRuns", unfollowed := true, recurses := true, apart := false }
def PolicyRunsSaid : Prop := policyRunsRow.holds Try.pinned (OpenSpec.ofChange policyRunsSpec)

/-- ITS FALSE NEIGHBOUR: 'it returns false'. Refute it at one input. -/
def policyRunsWrong : ChangeSpec := { name := "policyRuns", fn := fun _ => fun
  | [d1, d2, d3] => { results := [.lit (.bool false)], args := [d1, d2, d3] }
  | _ => none }
def PolicyRunsWrongFalsely : Prop := policyRunsRow.holds Try.pinned (OpenSpec.ofChange policyRunsWrong)

/-- 'complinelaw15.PolicyCalm': WHATEVER THE INPUT: true; the input reads as it did. -/
def policyCalmSpec : ChangeSpec := { name := "policyCalm", fn := fun _ => fun
  | [d1, d2, d3] => { results := [.lit (.bool true)], args := [d1, d2, d3] }
  | _ => none }
def policyCalmRow : OpenClaim := { program := "ytkbodakmfllnpaa", sum := "4b58a8a58c889aa54a48738a916ba1536c7a8228c6016117d480e2cdd0df02f6", func := "compline/complinelaw15.PolicyCalm", spec := "policyCalm", unfollowed := true, recurses := true, apart := false }
def PolicyCalmSaid : Prop := policyCalmRow.holds Try.pinned (OpenSpec.ofChange policyCalmSpec)

/-- ITS FALSE NEIGHBOUR: 'it returns false'. Refute it at one input. -/
def policyCalmWrong : ChangeSpec := { name := "policyCalm", fn := fun _ => fun
  | [d1, d2, d3] => { results := [.lit (.bool false)], args := [d1, d2, d3] }
  | _ => none }
def PolicyCalmWrongFalsely : Prop := policyCalmRow.holds Try.pinned (OpenSpec.ofChange policyCalmWrong)

/-- 'complinelaw15.PolicyFlaps': WHATEVER THE INPUT: true; the input reads as it did. -/
def policyFlapsSpec : ChangeSpec := { name := "policyFlaps", fn := fun _ => fun
  | [d1, d2, d3, d4] => { results := [.lit (.bool true)], args := [d1, d2, d3, d4] }
  | _ => none }
def policyFlapsRow : OpenClaim := { program := "ytkbodakmfllnpaa", sum := "4b58a8a58c889aa54a48738a916ba1536c7a8228c6016117d480e2cdd0df02f6", func := "compline/complinelaw15.PolicyFlaps", spec := "policyFlaps", unfollowed := true, recurses := true, apart := false }
def PolicyFlapsSaid : Prop := policyFlapsRow.holds Try.pinned (OpenSpec.ofChange policyFlapsSpec)

/-- ITS FALSE NEIGHBOUR: 'it returns false'. Refute it at one input. -/
def policyFlapsWrong : ChangeSpec := { name := "policyFlaps", fn := fun _ => fun
  | [d1, d2, d3, d4] => { results := [.lit (.bool false)], args := [d1, d2, d3, d4] }
  | _ => none }
def PolicyFlapsWrongFalsely : Prop := policyFlapsRow.holds Try.pinned (OpenSpec.ofChange policyFlapsWrong)

/-- 'complinelaw15.PolicyStays': WHATEVER THE INPUT: true; the input reads as it did. -/
def policyStaysSpec : ChangeSpec := { name := "policyStays", fn := fun _ => fun
  | [d1, d2, d3, d4] => { results := [.lit (.bool true)], args := [d1, d2, d3, d4] }
  | _ => none }
def policyStaysRow : OpenClaim := { program := "ytkbodakmfllnpaa", sum := "4b58a8a58c889aa54a48738a916ba1536c7a8228c6016117d480e2cdd0df02f6", func := "compline/complinelaw15.PolicyStays", spec := "policyStays", unfollowed := true, recurses := true, apart := false }
def PolicyStaysSaid : Prop := policyStaysRow.holds Try.pinned (OpenSpec.ofChange policyStaysSpec)

/-- ITS FALSE NEIGHBOUR: 'it returns false'. Refute it at one input. -/
def policyStaysWrong : ChangeSpec := { name := "policyStays", fn := fun _ => fun
  | [d1, d2, d3, d4] => { results := [.lit (.bool false)], args := [d1, d2, d3, d4] }
  | _ => none }
def PolicyStaysWrongFalsely : Prop := policyStaysRow.holds Try.pinned (OpenSpec.ofChange policyStaysWrong)

/- THE SECOND FORM. 'bulk': how many values and letters a reading holds, each counted each time it is reached (what is shared counts as often as it is met; a slice's spare places count too). A statement '..UptoSaid' is the law's where the arguments, and the package variables that the reading takes, are together of bulk at most 1048576: NARROWER than '..Said'. Prove '..Said' where nothing that the law and all that it calls make is longer than what came in: it says more and counts as full. Else prove '..UptoSaid'. A law counts once. -/
mutual
def uptoBulk {H : Type} : DataW H → Nat
  | .lit (.string bytes) => bytes.length + 1
  | .lit _ => 1
  | .nil => 1
  | .ptr d => uptoBulk d + 1
  | .slice elems spare => uptoBulkAll elems + uptoBulkAll spare + 1
  | .agg parts => uptoBulkAll parts + 1
  | .iface _ d => uptoBulk d + 1
  | .map entries => uptoBulkEntries entries + 1
  | .held _ => 1
def uptoBulkAll {H : Type} : List (DataW H) → Nat
  | [] => 0
  | d :: r => uptoBulk d + uptoBulkAll r
def uptoBulkEntries {H : Type} : List (Lit × DataW H) → Nat
  | [] => 0
  | x :: r => uptoBulkEntry x + uptoBulkEntries r
def uptoBulkEntry {H : Type} : Lit × DataW H → Nat
  | (.string bytes, d) => bytes.length + uptoBulk d + 1
  | (_, d) => uptoBulk d + 1
 end
def uptoSmall : (H : Type) → List (DataW H) → Bool := fun _ ds => decide (uptoBulkAll ds ≤ 1048576)
def OpenSpec.upto (s : _root_.Go.ChangeSpec) : _root_.Go.OpenSpec := { _root_.Go.OpenSpec.ofChange s with cond := some uptoSmall }

/-- 'complinelaw15.PolicyWants', WHERE WHAT IT READS IS OF BULK AT MOST 1048576: true; the input reads as it did. -/
def policyWantsUptoRow : OpenClaim := { program := "ytkbodakmfllnpaa", sum := "4b58a8a58c889aa54a48738a916ba1536c7a8228c6016117d480e2cdd0df02f6", func := "compline/complinelaw15.PolicyWants", spec := "policyWants", unfollowed := true, recurses := true, apart := false, narrowed := true }
def PolicyWantsUptoSaid : Prop := policyWantsUptoRow.holds Try.pinned (OpenSpec.upto policyWantsSpec)

/-- 'complinelaw15.PolicySteps', WHERE WHAT IT READS IS OF BULK AT MOST 1048576: true; the input reads as it did. -/
def policyStepsUptoRow : OpenClaim := { program := "ytkbodakmfllnpaa", sum := "4b58a8a58c889aa54a48738a916ba1536c7a8228c6016117d480e2cdd0df02f6", func := "compline/complinelaw15.PolicySteps", spec := "policySteps", unfollowed := true, recurses := true, apart := false, narrowed := true }
def PolicyStepsUptoSaid : Prop := policyStepsUptoRow.holds Try.pinned (OpenSpec.upto policyStepsSpec)

/-- 'complinelaw15.PolicyRuns', WHERE WHAT IT READS IS OF BULK AT MOST 1048576: true; the input reads as it did. -/
def policyRunsUptoRow : OpenClaim := { program := "ytkbodakmfllnpaa", sum := "4b58a8a58c889aa54a48738a916ba1536c7a8228c6016117d480e2cdd0df02f6", func := "compline/complinelaw15.PolicyRuns", spec := "policyRuns", unfollowed := true, recurses := true, apart := false, narrowed := true }
def PolicyRunsUptoSaid : Prop := policyRunsUptoRow.holds Try.pinned (OpenSpec.upto policyRunsSpec)

/-- 'complinelaw15.PolicyCalm', WHERE WHAT IT READS IS OF BULK AT MOST 1048576: true; the input reads as it did. -/
def policyCalmUptoRow : OpenClaim := { program := "ytkbodakmfllnpaa", sum := "4b58a8a58c889aa54a48738a916ba1536c7a8228c6016117d480e2cdd0df02f6", func := "compline/complinelaw15.PolicyCalm", spec := "policyCalm", unfollowed := true, recurses := true, apart := false, narrowed := true }
def PolicyCalmUptoSaid : Prop := policyCalmUptoRow.holds Try.pinned (OpenSpec.upto policyCalmSpec)

/-- 'complinelaw15.PolicyFlaps', WHERE WHAT IT READS IS OF BULK AT MOST 1048576: true; the input reads as it did. -/
def policyFlapsUptoRow : OpenClaim := { program := "ytkbodakmfllnpaa", sum := "4b58a8a58c889aa54a48738a916ba1536c7a8228c6016117d480e2cdd0df02f6", func := "compline/complinelaw15.PolicyFlaps", spec := "policyFlaps", unfollowed := true, recurses := true, apart := false, narrowed := true }
def PolicyFlapsUptoSaid : Prop := policyFlapsUptoRow.holds Try.pinned (OpenSpec.upto policyFlapsSpec)

/-- 'complinelaw15.PolicyStays', WHERE WHAT IT READS IS OF BULK AT MOST 1048576: true; the input reads as it did. -/
def policyStaysUptoRow : OpenClaim := { program := "ytkbodakmfllnpaa", sum := "4b58a8a58c889aa54a48738a916ba1536c7a8228c6016117d480e2cdd0df02f6", func := "compline/complinelaw15.PolicyStays", spec := "policyStays", unfollowed := true, recurses := true, apart := false, narrowed := true }
def PolicyStaysUptoSaid : Prop := policyStaysUptoRow.holds Try.pinned (OpenSpec.upto policyStaysSpec)

end Rows
end Go.Proofs.Ytkbodakmfllnpaa
