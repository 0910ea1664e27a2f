/-
  No cell of these rows narrows 'for every input' (looked for: loops, veiled, ifaces, maps, wideKeys, modest, calm, conditions, laid).
  DERIVED. THE GIVEN ROWS OF THIS SEAT. 6 by the template 'for every input the law returns true; each argument reads behind the call as it read before'; 0 by the template 'total and deterministic' (their statements: YtpnpaidjgglfbaaTotals.lean).
  GIVEN WITH THE SEED: the statements are not yours to turn. If you find one false, say at which input.
  Laid BY PROGRAM, IN A SANDBOX (cutbox-rows.mjs): the forced cells as the released guide's own fill.sh prints them over the translation 8b011e5c98ab16c2… (all of the seat's roots in one cut). By AI agents, Wed Nov 11 2026. No macro, syntax, notation, axiom, sorry.
-/
import Derived.Test.YtpnpaidjgglfbaaChecked
import GoSem.Claim
import GoSem.ClaimJoined
import GoSem.ClaimMapViews
import Derived.JoinedTies
import Derived.KernelRfl
namespace Go.Proofs.Ytpnpaidjgglfbaa
/- THE CELL 'sum', in the pinned program and in every row, IS THE sha256 OF THE DUMP (.gsa) THAT YtpnpaidjgglfbaaProg.lean LOADS. Nothing in Lean hashes anything: it is a label: what it is worth is what the hold of that sum in a sandbox is worth. -/
noncomputable def Try.pinned : Pinned := { name := "ytpnpaidjgglfbaa", sum := "8b011e5c98ab16c2d7d814207ff0f4fb565aa70f1abeb2195a0e8f734e675bac", checked := Try.checked }
namespace Rows
def none {H : Type} : Left H := { results := [], args := [] }

/-- 'complinelaw03.DigitTells': WHATEVER THE INPUT: true; the input reads as it did. -/
def digitTellsSpec : ChangeSpec := { name := "digitTells", fn := fun _ => fun
  | [d1, d2, d3] => { results := [.lit (.bool true)], args := [d1, d2, d3] }
  | _ => none }
def digitTellsRow : OpenClaim := { program := "ytpnpaidjgglfbaa", sum := "8b011e5c98ab16c2d7d814207ff0f4fb565aa70f1abeb2195a0e8f734e675bac", func := "compline/complinelaw03.DigitTells", spec := "digitTells", apart := false }
def DigitTellsSaid : Prop := digitTellsRow.holds Try.pinned (OpenSpec.ofChange digitTellsSpec)

/-- ITS FALSE NEIGHBOUR: 'it returns false'. Refute it at one input. -/
def digitTellsWrong : ChangeSpec := { name := "digitTells", fn := fun _ => fun
  | [d1, d2, d3] => { results := [.lit (.bool false)], args := [d1, d2, d3] }
  | _ => none }
def DigitTellsWrongFalsely : Prop := digitTellsRow.holds Try.pinned (OpenSpec.ofChange digitTellsWrong)

/-- 'complinelaw03.DigitBegins': WHATEVER THE INPUT: true; the input reads as it did. -/
def digitBeginsSpec : ChangeSpec := { name := "digitBegins", fn := fun _ => fun
  | [d1, d2, d3, d4] => { results := [.lit (.bool true)], args := [d1, d2, d3, d4] }
  | _ => none }
def digitBeginsRow : OpenClaim := { program := "ytpnpaidjgglfbaa", sum := "8b011e5c98ab16c2d7d814207ff0f4fb565aa70f1abeb2195a0e8f734e675bac", func := "compline/complinelaw03.DigitBegins", spec := "digitBegins", apart := false }
def DigitBeginsSaid : Prop := digitBeginsRow.holds Try.pinned (OpenSpec.ofChange digitBeginsSpec)

/-- ITS FALSE NEIGHBOUR: 'it returns false'. Refute it at one input. -/
def digitBeginsWrong : ChangeSpec := { name := "digitBegins", fn := fun _ => fun
  | [d1, d2, d3, d4] => { results := [.lit (.bool false)], args := [d1, d2, d3, d4] }
  | _ => none }
def DigitBeginsWrongFalsely : Prop := digitBeginsRow.holds Try.pinned (OpenSpec.ofChange digitBeginsWrong)

/-- 'complinelaw03.DigitHolds': WHATEVER THE INPUT: true; the input reads as it did. -/
def digitHoldsSpec : ChangeSpec := { name := "digitHolds", fn := fun _ => fun
  | [d1, d2, d3] => { results := [.lit (.bool true)], args := [d1, d2, d3] }
  | _ => none }
def digitHoldsRow : OpenClaim := { program := "ytpnpaidjgglfbaa", sum := "8b011e5c98ab16c2d7d814207ff0f4fb565aa70f1abeb2195a0e8f734e675bac", func := "compline/complinelaw03.DigitHolds", spec := "digitHolds", apart := false }
def DigitHoldsSaid : Prop := digitHoldsRow.holds Try.pinned (OpenSpec.ofChange digitHoldsSpec)

/-- ITS FALSE NEIGHBOUR: 'it returns false'. Refute it at one input. -/
def digitHoldsWrong : ChangeSpec := { name := "digitHolds", fn := fun _ => fun
  | [d1, d2, d3] => { results := [.lit (.bool false)], args := [d1, d2, d3] }
  | _ => none }
def DigitHoldsWrongFalsely : Prop := digitHoldsRow.holds Try.pinned (OpenSpec.ofChange digitHoldsWrong)

/-- 'complinelaw03.DigitFalls': WHATEVER THE INPUT: true; the input reads as it did. -/
def digitFallsSpec : ChangeSpec := { name := "digitFalls", fn := fun _ => fun
  | [d1, d2, d3] => { results := [.lit (.bool true)], args := [d1, d2, d3] }
  | _ => none }
def digitFallsRow : OpenClaim := { program := "ytpnpaidjgglfbaa", sum := "8b011e5c98ab16c2d7d814207ff0f4fb565aa70f1abeb2195a0e8f734e675bac", func := "compline/complinelaw03.DigitFalls", spec := "digitFalls", apart := false }
def DigitFallsSaid : Prop := digitFallsRow.holds Try.pinned (OpenSpec.ofChange digitFallsSpec)

/-- ITS FALSE NEIGHBOUR: 'it returns false'. Refute it at one input. -/
def digitFallsWrong : ChangeSpec := { name := "digitFalls", fn := fun _ => fun
  | [d1, d2, d3] => { results := [.lit (.bool false)], args := [d1, d2, d3] }
  | _ => none }
def DigitFallsWrongFalsely : Prop := digitFallsRow.holds Try.pinned (OpenSpec.ofChange digitFallsWrong)

/-- 'complinelaw03.DigitRises': WHATEVER THE INPUT: true; the input reads as it did. -/
def digitRisesSpec : ChangeSpec := { name := "digitRises", fn := fun _ => fun
  | [d1, d2, d3, d4] => { results := [.lit (.bool true)], args := [d1, d2, d3, d4] }
  | _ => none }
def digitRisesRow : OpenClaim := { program := "ytpnpaidjgglfbaa", sum := "8b011e5c98ab16c2d7d814207ff0f4fb565aa70f1abeb2195a0e8f734e675bac", func := "compline/complinelaw03.DigitRises", spec := "digitRises", apart := false }
def DigitRisesSaid : Prop := digitRisesRow.holds Try.pinned (OpenSpec.ofChange digitRisesSpec)

/-- ITS FALSE NEIGHBOUR: 'it returns false'. Refute it at one input. -/
def digitRisesWrong : ChangeSpec := { name := "digitRises", fn := fun _ => fun
  | [d1, d2, d3, d4] => { results := [.lit (.bool false)], args := [d1, d2, d3, d4] }
  | _ => none }
def DigitRisesWrongFalsely : Prop := digitRisesRow.holds Try.pinned (OpenSpec.ofChange digitRisesWrong)

/-- 'complinelaw03.DigitLater': WHATEVER THE INPUT: true; the input reads as it did. -/
def digitLaterSpec : ChangeSpec := { name := "digitLater", fn := fun _ => fun
  | [d1, d2, d3, d4] => { results := [.lit (.bool true)], args := [d1, d2, d3, d4] }
  | _ => none }
def digitLaterRow : OpenClaim := { program := "ytpnpaidjgglfbaa", sum := "8b011e5c98ab16c2d7d814207ff0f4fb565aa70f1abeb2195a0e8f734e675bac", func := "compline/complinelaw03.DigitLater", spec := "digitLater", apart := false }
def DigitLaterSaid : Prop := digitLaterRow.holds Try.pinned (OpenSpec.ofChange digitLaterSpec)

/-- ITS FALSE NEIGHBOUR: 'it returns false'. Refute it at one input. -/
def digitLaterWrong : ChangeSpec := { name := "digitLater", fn := fun _ => fun
  | [d1, d2, d3, d4] => { results := [.lit (.bool false)], args := [d1, d2, d3, d4] }
  | _ => none }
def DigitLaterWrongFalsely : Prop := digitLaterRow.holds Try.pinned (OpenSpec.ofChange digitLaterWrong)

/- THE SECOND FORM. 'bulk': how many values and letters a reading holds, each counted each time it is reached (what is shared counts as often as it is met; a slice's spare places count too). A statement '..UptoSaid' is the law's where the arguments, and the package variables that the reading takes, are together of bulk at most 1048576: NARROWER than '..Said'. Prove '..Said' where nothing that the law and all that it calls make is longer than what came in: it says more and counts as full. Else prove '..UptoSaid'. A law counts once. -/
mutual
def uptoBulk {H : Type} : DataW H → Nat
  | .lit (.string bytes) => bytes.length + 1
  | .lit _ => 1
  | .nil => 1
  | .ptr d => uptoBulk d + 1
  | .slice elems spare => uptoBulkAll elems + uptoBulkAll spare + 1
  | .agg parts => uptoBulkAll parts + 1
  | .iface _ d => uptoBulk d + 1
  | .map entries => uptoBulkEntries entries + 1
  | .held _ => 1
def uptoBulkAll {H : Type} : List (DataW H) → Nat
  | [] => 0
  | d :: r => uptoBulk d + uptoBulkAll r
def uptoBulkEntries {H : Type} : List (Lit × DataW H) → Nat
  | [] => 0
  | x :: r => uptoBulkEntry x + uptoBulkEntries r
def uptoBulkEntry {H : Type} : Lit × DataW H → Nat
  | (.string bytes, d) => bytes.length + uptoBulk d + 1
  | (_, d) => uptoBulk d + 1
 end
def uptoSmall : (H : Type) → List (DataW H) → Bool := fun _ ds => decide (uptoBulkAll ds ≤ 1048576)
def OpenSpec.upto (s : _root_.Go.ChangeSpec) : _root_.Go.OpenSpec := { _root_.Go.OpenSpec.ofChange s with cond := some uptoSmall }

/-- 'complinelaw03.DigitTells', WHERE WHAT IT READS IS OF BULK AT MOST 1048576: true; the input reads as it did. -/
def digitTellsUptoRow : OpenClaim := { program := "ytpnpaidjgglfbaa", sum := "8b011e5c98ab16c2d7d814207ff0f4fb565aa70f1abeb2195a0e8f734e675bac", func := "compline/complinelaw03.DigitTells", spec := "digitTells", apart := false, narrowed := true }
def DigitTellsUptoSaid : Prop := digitTellsUptoRow.holds Try.pinned (OpenSpec.upto digitTellsSpec)

/-- 'complinelaw03.DigitBegins', WHERE WHAT IT READS IS OF BULK AT MOST 1048576: true; the input reads as it did. -/
def digitBeginsUptoRow : OpenClaim := { program := "ytpnpaidjgglfbaa", sum := "8b011e5c98ab16c2d7d814207ff0f4fb565aa70f1abeb2195a0e8f734e675bac", func := "compline/complinelaw03.DigitBegins", spec := "digitBegins", apart := false, narrowed := true }
def DigitBeginsUptoSaid : Prop := digitBeginsUptoRow.holds Try.pinned (OpenSpec.upto digitBeginsSpec)

/-- 'complinelaw03.DigitHolds', WHERE WHAT IT READS IS OF BULK AT MOST 1048576: true; the input reads as it did. -/
def digitHoldsUptoRow : OpenClaim := { program := "ytpnpaidjgglfbaa", sum := "8b011e5c98ab16c2d7d814207ff0f4fb565aa70f1abeb2195a0e8f734e675bac", func := "compline/complinelaw03.DigitHolds", spec := "digitHolds", apart := false, narrowed := true }
def DigitHoldsUptoSaid : Prop := digitHoldsUptoRow.holds Try.pinned (OpenSpec.upto digitHoldsSpec)

/-- 'complinelaw03.DigitFalls', WHERE WHAT IT READS IS OF BULK AT MOST 1048576: true; the input reads as it did. -/
def digitFallsUptoRow : OpenClaim := { program := "ytpnpaidjgglfbaa", sum := "8b011e5c98ab16c2d7d814207ff0f4fb565aa70f1abeb2195a0e8f734e675bac", func := "compline/complinelaw03.DigitFalls", spec := "digitFalls", apart := false, narrowed := true }
def DigitFallsUptoSaid : Prop := digitFallsUptoRow.holds Try.pinned (OpenSpec.upto digitFallsSpec)

/-- 'complinelaw03.DigitRises', WHERE WHAT IT READS IS OF BULK AT MOST 1048576: true; the input reads as it did. -/
def digitRisesUptoRow : OpenClaim := { program := "ytpnpaidjgglfbaa", sum := "8b011e5c98ab16c2d7d814207ff0f4fb565aa70f1abeb2195a0e8f734e675bac", func := "compline/complinelaw03.DigitRises", spec := "digitRises", apart := false, narrowed := true }
def DigitRisesUptoSaid : Prop := digitRisesUptoRow.holds Try.pinned (OpenSpec.upto digitRisesSpec)

/-- 'complinelaw03.DigitLater', WHERE WHAT IT READS IS OF BULK AT MOST 1048576: true; the input reads as it did. -/
def digitLaterUptoRow : OpenClaim := { program := "ytpnpaidjgglfbaa", sum := "8b011e5c98ab16c2d7d814207ff0f4fb565aa70f1abeb2195a0e8f734e675bac", func := "compline/complinelaw03.DigitLater", spec := "digitLater", apart := false, narrowed := true }
def DigitLaterUptoSaid : Prop := digitLaterUptoRow.holds Try.pinned (OpenSpec.upto digitLaterSpec)

end Rows
end Go.Proofs.Ytpnpaidjgglfbaa
