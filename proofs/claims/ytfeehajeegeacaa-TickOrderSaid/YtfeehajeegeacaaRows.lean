/-
  No cell of these rows narrows 'for every input' (looked for: loops, veiled, ifaces, maps, wideKeys, modest, calm, conditions, laid).
  DERIVED. THE GIVEN ROWS OF THIS SEAT. 8 by the template 'for every input the law returns true; each argument reads behind the call as it read before'; 0 by the template 'total and deterministic' (their statements: YtfeehajeegeacaaTotals.lean).
  GIVEN WITH THE SEED: the statements are not yours to turn. If you find one false, say at which input.
  Laid BY PROGRAM, IN A SANDBOX (cutbox-rows.mjs): the forced cells as the released guide's own fill.sh prints them over the translation c41fd1ba53a48c10… (all of the seat's roots in one cut). By AI agents, Wed Nov 11 2026. No macro, syntax, notation, axiom, sorry.
-/
import Derived.Test.YtfeehajeegeacaaChecked
import GoSem.Claim
import GoSem.ClaimJoined
import GoSem.ClaimMapViews
import Derived.JoinedTies
import Derived.KernelRfl
namespace Go.Proofs.Ytfeehajeegeacaa
/- THE CELL 'sum', in the pinned program and in every row, IS THE sha256 OF THE DUMP (.gsa) THAT YtfeehajeegeacaaProg.lean LOADS. Nothing in Lean hashes anything: it is a label: what it is worth is what the hold of that sum in a sandbox is worth. -/
noncomputable def Try.pinned : Pinned := { name := "ytfeehajeegeacaa", sum := "c41fd1ba53a48c10a6879a3573ed45c7bde2e0466a881c90885c548014eba206", checked := Try.checked }
namespace Rows
def none {H : Type} : Left H := { results := [], args := [] }

/-- 'complinelaw01.TickSums': WHATEVER THE INPUT: true; the input reads as it did. -/
def tickSumsSpec : ChangeSpec := { name := "tickSums", fn := fun _ => fun
  | [d1, d2] => { results := [.lit (.bool true)], args := [d1, d2] }
  | _ => none }
def tickSumsRow : OpenClaim := { program := "ytfeehajeegeacaa", sum := "c41fd1ba53a48c10a6879a3573ed45c7bde2e0466a881c90885c548014eba206", func := "compline/complinelaw01.TickSums", spec := "tickSums", inPlace := ["math/bits.Add64", "math/bits.Sub64"], apart := false }
def TickSumsSaid : Prop := tickSumsRow.holds Try.pinned (OpenSpec.ofChange tickSumsSpec)

/-- ITS FALSE NEIGHBOUR: 'it returns false'. Refute it at one input. -/
def tickSumsWrong : ChangeSpec := { name := "tickSums", fn := fun _ => fun
  | [d1, d2] => { results := [.lit (.bool false)], args := [d1, d2] }
  | _ => none }
def TickSumsWrongFalsely : Prop := tickSumsRow.holds Try.pinned (OpenSpec.ofChange tickSumsWrong)

/-- 'complinelaw01.TickBack': WHATEVER THE INPUT: true; the input reads as it did. -/
def tickBackSpec : ChangeSpec := { name := "tickBack", fn := fun _ => fun
  | [d1, d2] => { results := [.lit (.bool true)], args := [d1, d2] }
  | _ => none }
def tickBackRow : OpenClaim := { program := "ytfeehajeegeacaa", sum := "c41fd1ba53a48c10a6879a3573ed45c7bde2e0466a881c90885c548014eba206", func := "compline/complinelaw01.TickBack", spec := "tickBack", inPlace := ["math/bits.Add64", "math/bits.Sub64"], apart := false }
def TickBackSaid : Prop := tickBackRow.holds Try.pinned (OpenSpec.ofChange tickBackSpec)

/-- ITS FALSE NEIGHBOUR: 'it returns false'. Refute it at one input. -/
def tickBackWrong : ChangeSpec := { name := "tickBack", fn := fun _ => fun
  | [d1, d2] => { results := [.lit (.bool false)], args := [d1, d2] }
  | _ => none }
def TickBackWrongFalsely : Prop := tickBackRow.holds Try.pinned (OpenSpec.ofChange tickBackWrong)

/-- 'complinelaw01.TickSteps': WHATEVER THE INPUT: true; the input reads as it did. -/
def tickStepsSpec : ChangeSpec := { name := "tickSteps", fn := fun _ => fun
  | [d1, d2] => { results := [.lit (.bool true)], args := [d1, d2] }
  | _ => none }
def tickStepsRow : OpenClaim := { program := "ytfeehajeegeacaa", sum := "c41fd1ba53a48c10a6879a3573ed45c7bde2e0466a881c90885c548014eba206", func := "compline/complinelaw01.TickSteps", spec := "tickSteps", inPlace := ["math/bits.Add64", "math/bits.Sub64"], apart := false }
def TickStepsSaid : Prop := tickStepsRow.holds Try.pinned (OpenSpec.ofChange tickStepsSpec)

/-- ITS FALSE NEIGHBOUR: 'it returns false'. Refute it at one input. -/
def tickStepsWrong : ChangeSpec := { name := "tickSteps", fn := fun _ => fun
  | [d1, d2] => { results := [.lit (.bool false)], args := [d1, d2] }
  | _ => none }
def TickStepsWrongFalsely : Prop := tickStepsRow.holds Try.pinned (OpenSpec.ofChange tickStepsWrong)

/-- 'complinelaw01.TickRounds': WHATEVER THE INPUT: true; the input reads as it did. -/
def tickRoundsSpec : ChangeSpec := { name := "tickRounds", fn := fun _ => fun
  | [d1, d2] => { results := [.lit (.bool true)], args := [d1, d2] }
  | _ => none }
def tickRoundsRow : OpenClaim := { program := "ytfeehajeegeacaa", sum := "c41fd1ba53a48c10a6879a3573ed45c7bde2e0466a881c90885c548014eba206", func := "compline/complinelaw01.TickRounds", spec := "tickRounds", inPlace := ["math/bits.Add64", "math/bits.Sub64"], apart := false }
def TickRoundsSaid : Prop := tickRoundsRow.holds Try.pinned (OpenSpec.ofChange tickRoundsSpec)

/-- ITS FALSE NEIGHBOUR: 'it returns false'. Refute it at one input. -/
def tickRoundsWrong : ChangeSpec := { name := "tickRounds", fn := fun _ => fun
  | [d1, d2] => { results := [.lit (.bool false)], args := [d1, d2] }
  | _ => none }
def TickRoundsWrongFalsely : Prop := tickRoundsRow.holds Try.pinned (OpenSpec.ofChange tickRoundsWrong)

/-- 'complinelaw01.TickOrder': WHATEVER THE INPUT: true; the input reads as it did. -/
def tickOrderSpec : ChangeSpec := { name := "tickOrder", fn := fun _ => fun
  | [d1, d2, d3] => { results := [.lit (.bool true)], args := [d1, d2, d3] }
  | _ => none }
def tickOrderRow : OpenClaim := { program := "ytfeehajeegeacaa", sum := "c41fd1ba53a48c10a6879a3573ed45c7bde2e0466a881c90885c548014eba206", func := "compline/complinelaw01.TickOrder", spec := "tickOrder", inPlace := ["math/bits.Add64", "math/bits.Sub64"], apart := false }
def TickOrderSaid : Prop := tickOrderRow.holds Try.pinned (OpenSpec.ofChange tickOrderSpec)

/-- ITS FALSE NEIGHBOUR: 'it returns false'. Refute it at one input. -/
def tickOrderWrong : ChangeSpec := { name := "tickOrder", fn := fun _ => fun
  | [d1, d2, d3] => { results := [.lit (.bool false)], args := [d1, d2, d3] }
  | _ => none }
def TickOrderWrongFalsely : Prop := tickOrderRow.holds Try.pinned (OpenSpec.ofChange tickOrderWrong)

/-- 'complinelaw01.TickFirst': WHATEVER THE INPUT: true; the input reads as it did. -/
def tickFirstSpec : ChangeSpec := { name := "tickFirst", fn := fun _ => fun
  | [d] => { results := [.lit (.bool true)], args := [d] }
  | _ => none }
def tickFirstRow : OpenClaim := { program := "ytfeehajeegeacaa", sum := "c41fd1ba53a48c10a6879a3573ed45c7bde2e0466a881c90885c548014eba206", func := "compline/complinelaw01.TickFirst", spec := "tickFirst", inPlace := ["math/bits.Add64", "math/bits.Sub64"], apart := false }
def TickFirstSaid : Prop := tickFirstRow.holds Try.pinned (OpenSpec.ofChange tickFirstSpec)

/-- ITS FALSE NEIGHBOUR: 'it returns false'. Refute it at one input. -/
def tickFirstWrong : ChangeSpec := { name := "tickFirst", fn := fun _ => fun
  | [d] => { results := [.lit (.bool false)], args := [d] }
  | _ => none }
def TickFirstWrongFalsely : Prop := tickFirstRow.holds Try.pinned (OpenSpec.ofChange tickFirstWrong)

/-- 'complinelaw01.TickAfter': WHATEVER THE INPUT: true; the input reads as it did. -/
def tickAfterSpec : ChangeSpec := { name := "tickAfter", fn := fun _ => fun
  | [d1, d2, d3] => { results := [.lit (.bool true)], args := [d1, d2, d3] }
  | _ => none }
def tickAfterRow : OpenClaim := { program := "ytfeehajeegeacaa", sum := "c41fd1ba53a48c10a6879a3573ed45c7bde2e0466a881c90885c548014eba206", func := "compline/complinelaw01.TickAfter", spec := "tickAfter", inPlace := ["math/bits.Add64", "math/bits.Sub64"], apart := false }
def TickAfterSaid : Prop := tickAfterRow.holds Try.pinned (OpenSpec.ofChange tickAfterSpec)

/-- ITS FALSE NEIGHBOUR: 'it returns false'. Refute it at one input. -/
def tickAfterWrong : ChangeSpec := { name := "tickAfter", fn := fun _ => fun
  | [d1, d2, d3] => { results := [.lit (.bool false)], args := [d1, d2, d3] }
  | _ => none }
def TickAfterWrongFalsely : Prop := tickAfterRow.holds Try.pinned (OpenSpec.ofChange tickAfterWrong)

/-- 'complinelaw01.TickMissed': WHATEVER THE INPUT: true; the input reads as it did. -/
def tickMissedSpec : ChangeSpec := { name := "tickMissed", fn := fun _ => fun
  | [d1, d2, d3] => { results := [.lit (.bool true)], args := [d1, d2, d3] }
  | _ => none }
def tickMissedRow : OpenClaim := { program := "ytfeehajeegeacaa", sum := "c41fd1ba53a48c10a6879a3573ed45c7bde2e0466a881c90885c548014eba206", func := "compline/complinelaw01.TickMissed", spec := "tickMissed", inPlace := ["math/bits.Add64", "math/bits.Sub64"], apart := false }
def TickMissedSaid : Prop := tickMissedRow.holds Try.pinned (OpenSpec.ofChange tickMissedSpec)

/-- ITS FALSE NEIGHBOUR: 'it returns false'. Refute it at one input. -/
def tickMissedWrong : ChangeSpec := { name := "tickMissed", fn := fun _ => fun
  | [d1, d2, d3] => { results := [.lit (.bool false)], args := [d1, d2, d3] }
  | _ => none }
def TickMissedWrongFalsely : Prop := tickMissedRow.holds Try.pinned (OpenSpec.ofChange tickMissedWrong)

/- THE SECOND FORM. 'bulk': how many values and letters a reading holds, each counted each time it is reached (what is shared counts as often as it is met; a slice's spare places count too). A statement '..UptoSaid' is the law's where the arguments, and the package variables that the reading takes, are together of bulk at most 1048576: NARROWER than '..Said'. Prove '..Said' where nothing that the law and all that it calls make is longer than what came in: it says more and counts as full. Else prove '..UptoSaid'. A law counts once. -/
mutual
def uptoBulk {H : Type} : DataW H → Nat
  | .lit (.string bytes) => bytes.length + 1
  | .lit _ => 1
  | .nil => 1
  | .ptr d => uptoBulk d + 1
  | .slice elems spare => uptoBulkAll elems + uptoBulkAll spare + 1
  | .agg parts => uptoBulkAll parts + 1
  | .iface _ d => uptoBulk d + 1
  | .map entries => uptoBulkEntries entries + 1
  | .held _ => 1
def uptoBulkAll {H : Type} : List (DataW H) → Nat
  | [] => 0
  | d :: r => uptoBulk d + uptoBulkAll r
def uptoBulkEntries {H : Type} : List (Lit × DataW H) → Nat
  | [] => 0
  | x :: r => uptoBulkEntry x + uptoBulkEntries r
def uptoBulkEntry {H : Type} : Lit × DataW H → Nat
  | (.string bytes, d) => bytes.length + uptoBulk d + 1
  | (_, d) => uptoBulk d + 1
 end
def uptoSmall : (H : Type) → List (DataW H) → Bool := fun _ ds => decide (uptoBulkAll ds ≤ 1048576)
def OpenSpec.upto (s : _root_.Go.ChangeSpec) : _root_.Go.OpenSpec := { _root_.Go.OpenSpec.ofChange s with cond := some uptoSmall }

/-- 'complinelaw01.TickSums', WHERE WHAT IT READS IS OF BULK AT MOST 1048576: true; the input reads as it did. -/
def tickSumsUptoRow : OpenClaim := { program := "ytfeehajeegeacaa", sum := "c41fd1ba53a48c10a6879a3573ed45c7bde2e0466a881c90885c548014eba206", func := "compline/complinelaw01.TickSums", spec := "tickSums", inPlace := ["math/bits.Add64", "math/bits.Sub64"], apart := false, narrowed := true }
def TickSumsUptoSaid : Prop := tickSumsUptoRow.holds Try.pinned (OpenSpec.upto tickSumsSpec)

/-- 'complinelaw01.TickBack', WHERE WHAT IT READS IS OF BULK AT MOST 1048576: true; the input reads as it did. -/
def tickBackUptoRow : OpenClaim := { program := "ytfeehajeegeacaa", sum := "c41fd1ba53a48c10a6879a3573ed45c7bde2e0466a881c90885c548014eba206", func := "compline/complinelaw01.TickBack", spec := "tickBack", inPlace := ["math/bits.Add64", "math/bits.Sub64"], apart := false, narrowed := true }
def TickBackUptoSaid : Prop := tickBackUptoRow.holds Try.pinned (OpenSpec.upto tickBackSpec)

/-- 'complinelaw01.TickSteps', WHERE WHAT IT READS IS OF BULK AT MOST 1048576: true; the input reads as it did. -/
def tickStepsUptoRow : OpenClaim := { program := "ytfeehajeegeacaa", sum := "c41fd1ba53a48c10a6879a3573ed45c7bde2e0466a881c90885c548014eba206", func := "compline/complinelaw01.TickSteps", spec := "tickSteps", inPlace := ["math/bits.Add64", "math/bits.Sub64"], apart := false, narrowed := true }
def TickStepsUptoSaid : Prop := tickStepsUptoRow.holds Try.pinned (OpenSpec.upto tickStepsSpec)

/-- 'complinelaw01.TickRounds', WHERE WHAT IT READS IS OF BULK AT MOST 1048576: true; the input reads as it did. -/
def tickRoundsUptoRow : OpenClaim := { program := "ytfeehajeegeacaa", sum := "c41fd1ba53a48c10a6879a3573ed45c7bde2e0466a881c90885c548014eba206", func := "compline/complinelaw01.TickRounds", spec := "tickRounds", inPlace := ["math/bits.Add64", "math/bits.Sub64"], apart := false, narrowed := true }
def TickRoundsUptoSaid : Prop := tickRoundsUptoRow.holds Try.pinned (OpenSpec.upto tickRoundsSpec)

/-- 'complinelaw01.TickOrder', WHERE WHAT IT READS IS OF BULK AT MOST 1048576: true; the input reads as it did. -/
def tickOrderUptoRow : OpenClaim := { program := "ytfeehajeegeacaa", sum := "c41fd1ba53a48c10a6879a3573ed45c7bde2e0466a881c90885c548014eba206", func := "compline/complinelaw01.TickOrder", spec := "tickOrder", inPlace := ["math/bits.Add64", "math/bits.Sub64"], apart := false, narrowed := true }
def TickOrderUptoSaid : Prop := tickOrderUptoRow.holds Try.pinned (OpenSpec.upto tickOrderSpec)

/-- 'complinelaw01.TickFirst', WHERE WHAT IT READS IS OF BULK AT MOST 1048576: true; the input reads as it did. -/
def tickFirstUptoRow : OpenClaim := { program := "ytfeehajeegeacaa", sum := "c41fd1ba53a48c10a6879a3573ed45c7bde2e0466a881c90885c548014eba206", func := "compline/complinelaw01.TickFirst", spec := "tickFirst", inPlace := ["math/bits.Add64", "math/bits.Sub64"], apart := false, narrowed := true }
def TickFirstUptoSaid : Prop := tickFirstUptoRow.holds Try.pinned (OpenSpec.upto tickFirstSpec)

/-- 'complinelaw01.TickAfter', WHERE WHAT IT READS IS OF BULK AT MOST 1048576: true; the input reads as it did. -/
def tickAfterUptoRow : OpenClaim := { program := "ytfeehajeegeacaa", sum := "c41fd1ba53a48c10a6879a3573ed45c7bde2e0466a881c90885c548014eba206", func := "compline/complinelaw01.TickAfter", spec := "tickAfter", inPlace := ["math/bits.Add64", "math/bits.Sub64"], apart := false, narrowed := true }
def TickAfterUptoSaid : Prop := tickAfterUptoRow.holds Try.pinned (OpenSpec.upto tickAfterSpec)

/-- 'complinelaw01.TickMissed', WHERE WHAT IT READS IS OF BULK AT MOST 1048576: true; the input reads as it did. -/
def tickMissedUptoRow : OpenClaim := { program := "ytfeehajeegeacaa", sum := "c41fd1ba53a48c10a6879a3573ed45c7bde2e0466a881c90885c548014eba206", func := "compline/complinelaw01.TickMissed", spec := "tickMissed", inPlace := ["math/bits.Add64", "math/bits.Sub64"], apart := false, narrowed := true }
def TickMissedUptoSaid : Prop := tickMissedUptoRow.holds Try.pinned (OpenSpec.upto tickMissedSpec)

end Rows
end Go.Proofs.Ytfeehajeegeacaa
