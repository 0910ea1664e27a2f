/-
  No cell of these rows narrows 'for every input' (looked for: loops, veiled, ifaces, maps, wideKeys, modest, calm, conditions, laid).
  DERIVED. THE GIVEN ROWS OF THIS SEAT. 4 by the template 'for every input the law returns true; each argument reads behind the call as it read before'; 0 by the template 'total and deterministic' (their statements: YtokhbiaaaflphaaTotals.lean).
  GIVEN WITH THE SEED: the statements are not yours to turn. If you find one false, say at which input.
  Laid BY PROGRAM, IN A SANDBOX (cutbox-rows.mjs): the forced cells as the released guide's own fill.sh prints them over the translation 40a4a880ed6e16c9… (all of the seat's roots in one cut). By AI agents, Wed Nov 11 2026. No macro, syntax, notation, axiom, sorry.
-/
import Derived.Test.YtokhbiaaaflphaaChecked
import GoSem.Claim
import GoSem.ClaimJoined
import GoSem.ClaimMapViews
import Derived.JoinedTies
import Derived.KernelRfl
namespace Go.Proofs.Ytokhbiaaaflphaa
/- THE CELL 'sum', in the pinned program and in every row, IS THE sha256 OF THE DUMP (.gsa) THAT YtokhbiaaaflphaaProg.lean LOADS. Nothing in Lean hashes anything: it is a label: what it is worth is what the hold of that sum in a sandbox is worth. -/
noncomputable def Try.pinned : Pinned := { name := "ytokhbiaaaflphaa", sum := "40a4a880ed6e16c9533fd32c73d9dabd199a4ec704657d6215ede7d2a2936c7d", checked := Try.checked }
namespace Rows
def none {H : Type} : Left H := { results := [], args := [] }

/-- 'complinelaw07.ListqPlays': WHATEVER THE INPUT: true; the input reads as it did. -/
def listqPlaysSpec : ChangeSpec := { name := "listqPlays", fn := fun _ => fun
  | [d1, d2, d3] => { results := [.lit (.bool true)], args := [d1, d2, d3] }
  | _ => none }
def listqPlaysRow : OpenClaim := { program := "ytokhbiaaaflphaa", sum := "40a4a880ed6e16c9533fd32c73d9dabd199a4ec704657d6215ede7d2a2936c7d", func := "compline/complinelaw07.ListqPlays", spec := "listqPlays", unfollowed := true, recurses := true, apart := false }
def ListqPlaysSaid : Prop := listqPlaysRow.holds Try.pinned (OpenSpec.ofChange listqPlaysSpec)

/-- ITS FALSE NEIGHBOUR: 'it returns false'. Refute it at one input. -/
def listqPlaysWrong : ChangeSpec := { name := "listqPlays", fn := fun _ => fun
  | [d1, d2, d3] => { results := [.lit (.bool false)], args := [d1, d2, d3] }
  | _ => none }
def ListqPlaysWrongFalsely : Prop := listqPlaysRow.holds Try.pinned (OpenSpec.ofChange listqPlaysWrong)

/-- 'complinelaw07.ListqDues': WHATEVER THE INPUT: true; the input reads as it did. -/
def listqDuesSpec : ChangeSpec := { name := "listqDues", fn := fun _ => fun
  | [d1, d2, d3] => { results := [.lit (.bool true)], args := [d1, d2, d3] }
  | _ => none }
def listqDuesRow : OpenClaim := { program := "ytokhbiaaaflphaa", sum := "40a4a880ed6e16c9533fd32c73d9dabd199a4ec704657d6215ede7d2a2936c7d", func := "compline/complinelaw07.ListqDues", spec := "listqDues", unfollowed := true, recurses := true, apart := false }
def ListqDuesSaid : Prop := listqDuesRow.holds Try.pinned (OpenSpec.ofChange listqDuesSpec)

/-- ITS FALSE NEIGHBOUR: 'it returns false'. Refute it at one input. -/
def listqDuesWrong : ChangeSpec := { name := "listqDues", fn := fun _ => fun
  | [d1, d2, d3] => { results := [.lit (.bool false)], args := [d1, d2, d3] }
  | _ => none }
def ListqDuesWrongFalsely : Prop := listqDuesRow.holds Try.pinned (OpenSpec.ofChange listqDuesWrong)

/-- 'complinelaw07.ListqMoves': WHATEVER THE INPUT: true; the input reads as it did. -/
def listqMovesSpec : ChangeSpec := { name := "listqMoves", fn := fun _ => fun
  | [d1, d2, d3] => { results := [.lit (.bool true)], args := [d1, d2, d3] }
  | _ => none }
def listqMovesRow : OpenClaim := { program := "ytokhbiaaaflphaa", sum := "40a4a880ed6e16c9533fd32c73d9dabd199a4ec704657d6215ede7d2a2936c7d", func := "compline/complinelaw07.ListqMoves", spec := "listqMoves", unfollowed := true, recurses := true, apart := false }
def ListqMovesSaid : Prop := listqMovesRow.holds Try.pinned (OpenSpec.ofChange listqMovesSpec)

/-- ITS FALSE NEIGHBOUR: 'it returns false'. Refute it at one input. -/
def listqMovesWrong : ChangeSpec := { name := "listqMoves", fn := fun _ => fun
  | [d1, d2, d3] => { results := [.lit (.bool false)], args := [d1, d2, d3] }
  | _ => none }
def ListqMovesWrongFalsely : Prop := listqMovesRow.holds Try.pinned (OpenSpec.ofChange listqMovesWrong)

/-- 'complinelaw07.ListqOrders': WHATEVER THE INPUT: true; the input reads as it did. -/
def listqOrdersSpec : ChangeSpec := { name := "listqOrders", fn := fun _ => fun
  | [d1, d2, d3] => { results := [.lit (.bool true)], args := [d1, d2, d3] }
  | _ => none }
def listqOrdersRow : OpenClaim := { program := "ytokhbiaaaflphaa", sum := "40a4a880ed6e16c9533fd32c73d9dabd199a4ec704657d6215ede7d2a2936c7d", func := "compline/complinelaw07.ListqOrders", spec := "listqOrders", unfollowed := true, recurses := true, apart := false }
def ListqOrdersSaid : Prop := listqOrdersRow.holds Try.pinned (OpenSpec.ofChange listqOrdersSpec)

/-- ITS FALSE NEIGHBOUR: 'it returns false'. Refute it at one input. -/
def listqOrdersWrong : ChangeSpec := { name := "listqOrders", fn := fun _ => fun
  | [d1, d2, d3] => { results := [.lit (.bool false)], args := [d1, d2, d3] }
  | _ => none }
def ListqOrdersWrongFalsely : Prop := listqOrdersRow.holds Try.pinned (OpenSpec.ofChange listqOrdersWrong)

/- THE SECOND FORM. 'bulk': how many values and letters a reading holds, each counted each time it is reached (what is shared counts as often as it is met; a slice's spare places count too). A statement '..UptoSaid' is the law's where the arguments, and the package variables that the reading takes, are together of bulk at most 1048576: NARROWER than '..Said'. Prove '..Said' where nothing that the law and all that it calls make is longer than what came in: it says more and counts as full. Else prove '..UptoSaid'. A law counts once. -/
mutual
def uptoBulk {H : Type} : DataW H → Nat
  | .lit (.string bytes) => bytes.length + 1
  | .lit _ => 1
  | .nil => 1
  | .ptr d => uptoBulk d + 1
  | .slice elems spare => uptoBulkAll elems + uptoBulkAll spare + 1
  | .agg parts => uptoBulkAll parts + 1
  | .iface _ d => uptoBulk d + 1
  | .map entries => uptoBulkEntries entries + 1
  | .held _ => 1
def uptoBulkAll {H : Type} : List (DataW H) → Nat
  | [] => 0
  | d :: r => uptoBulk d + uptoBulkAll r
def uptoBulkEntries {H : Type} : List (Lit × DataW H) → Nat
  | [] => 0
  | x :: r => uptoBulkEntry x + uptoBulkEntries r
def uptoBulkEntry {H : Type} : Lit × DataW H → Nat
  | (.string bytes, d) => bytes.length + uptoBulk d + 1
  | (_, d) => uptoBulk d + 1
 end
def uptoSmall : (H : Type) → List (DataW H) → Bool := fun _ ds => decide (uptoBulkAll ds ≤ 1048576)
def OpenSpec.upto (s : _root_.Go.ChangeSpec) : _root_.Go.OpenSpec := { _root_.Go.OpenSpec.ofChange s with cond := some uptoSmall }

/-- 'complinelaw07.ListqPlays', WHERE WHAT IT READS IS OF BULK AT MOST 1048576: true; the input reads as it did. -/
def listqPlaysUptoRow : OpenClaim := { program := "ytokhbiaaaflphaa", sum := "40a4a880ed6e16c9533fd32c73d9dabd199a4ec704657d6215ede7d2a2936c7d", func := "compline/complinelaw07.ListqPlays", spec := "listqPlays", unfollowed := true, recurses := true, apart := false, narrowed := true }
def ListqPlaysUptoSaid : Prop := listqPlaysUptoRow.holds Try.pinned (OpenSpec.upto listqPlaysSpec)

/-- 'complinelaw07.ListqDues', WHERE WHAT IT READS IS OF BULK AT MOST 1048576: true; the input reads as it did. -/
def listqDuesUptoRow : OpenClaim := { program := "ytokhbiaaaflphaa", sum := "40a4a880ed6e16c9533fd32c73d9dabd199a4ec704657d6215ede7d2a2936c7d", func := "compline/complinelaw07.ListqDues", spec := "listqDues", unfollowed := true, recurses := true, apart := false, narrowed := true }
def ListqDuesUptoSaid : Prop := listqDuesUptoRow.holds Try.pinned (OpenSpec.upto listqDuesSpec)

/-- 'complinelaw07.ListqMoves', WHERE WHAT IT READS IS OF BULK AT MOST 1048576: true; the input reads as it did. -/
def listqMovesUptoRow : OpenClaim := { program := "ytokhbiaaaflphaa", sum := "40a4a880ed6e16c9533fd32c73d9dabd199a4ec704657d6215ede7d2a2936c7d", func := "compline/complinelaw07.ListqMoves", spec := "listqMoves", unfollowed := true, recurses := true, apart := false, narrowed := true }
def ListqMovesUptoSaid : Prop := listqMovesUptoRow.holds Try.pinned (OpenSpec.upto listqMovesSpec)

/-- 'complinelaw07.ListqOrders', WHERE WHAT IT READS IS OF BULK AT MOST 1048576: true; the input reads as it did. -/
def listqOrdersUptoRow : OpenClaim := { program := "ytokhbiaaaflphaa", sum := "40a4a880ed6e16c9533fd32c73d9dabd199a4ec704657d6215ede7d2a2936c7d", func := "compline/complinelaw07.ListqOrders", spec := "listqOrders", unfollowed := true, recurses := true, apart := false, narrowed := true }
def ListqOrdersUptoSaid : Prop := listqOrdersUptoRow.holds Try.pinned (OpenSpec.upto listqOrdersSpec)

end Rows
end Go.Proofs.Ytokhbiaaaflphaa
