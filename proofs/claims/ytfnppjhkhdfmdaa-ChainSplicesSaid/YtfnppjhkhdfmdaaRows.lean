/-
  No cell of these rows narrows 'for every input' (looked for: loops, veiled, ifaces, maps, wideKeys, modest, calm, conditions, laid).
  DERIVED. THE GIVEN ROWS OF THIS SEAT. 5 by the template 'for every input the law returns true; each argument reads behind the call as it read before'; 0 by the template 'total and deterministic' (their statements: YtfnppjhkhdfmdaaTotals.lean).
  GIVEN WITH THE SEED: the statements are not yours to turn. If you find one false, say at which input.
  Laid BY PROGRAM, IN A SANDBOX (cutbox-rows.mjs): the forced cells as the released guide's own fill.sh prints them over the translation 3b0af3b9547d0fea… (all of the seat's roots in one cut). By AI agents, Wed Nov 11 2026. No macro, syntax, notation, axiom, sorry.
-/
import Derived.Test.YtfnppjhkhdfmdaaChecked
import GoSem.Claim
import GoSem.ClaimJoined
import GoSem.ClaimMapViews
import Derived.JoinedTies
import Derived.KernelRfl
namespace Go.Proofs.Ytfnppjhkhdfmdaa
/- THE CELL 'sum', in the pinned program and in every row, IS THE sha256 OF THE DUMP (.gsa) THAT YtfnppjhkhdfmdaaProg.lean LOADS. Nothing in Lean hashes anything: it is a label: what it is worth is what the hold of that sum in a sandbox is worth. -/
noncomputable def Try.pinned : Pinned := { name := "ytfnppjhkhdfmdaa", sum := "3b0af3b9547d0fea91074417fa7dddc3fb9351418ef2c40d7581717c8239f273", checked := Try.checked }
namespace Rows
def none {H : Type} : Left H := { results := [], args := [] }

/-- 'complinelaw06.ChainPlays': WHATEVER THE INPUT: true; the input reads as it did. -/
def chainPlaysSpec : ChangeSpec := { name := "chainPlays", fn := fun _ => fun
  | [d1, d2, d3, d4] => { results := [.lit (.bool true)], args := [d1, d2, d3, d4] }
  | _ => none }
def chainPlaysRow : OpenClaim := { program := "ytfnppjhkhdfmdaa", sum := "3b0af3b9547d0fea91074417fa7dddc3fb9351418ef2c40d7581717c8239f273", func := "compline/complinelaw06.ChainPlays", spec := "chainPlays", unfollowed := true, recurses := true, apart := false }
def ChainPlaysSaid : Prop := chainPlaysRow.holds Try.pinned (OpenSpec.ofChange chainPlaysSpec)

/-- ITS FALSE NEIGHBOUR: 'it returns false'. Refute it at one input. -/
def chainPlaysWrong : ChangeSpec := { name := "chainPlays", fn := fun _ => fun
  | [d1, d2, d3, d4] => { results := [.lit (.bool false)], args := [d1, d2, d3, d4] }
  | _ => none }
def ChainPlaysWrongFalsely : Prop := chainPlaysRow.holds Try.pinned (OpenSpec.ofChange chainPlaysWrong)

/-- 'complinelaw06.ChainTurns': WHATEVER THE INPUT: true; the input reads as it did. -/
def chainTurnsSpec : ChangeSpec := { name := "chainTurns", fn := fun _ => fun
  | [d1, d2, d3, d4] => { results := [.lit (.bool true)], args := [d1, d2, d3, d4] }
  | _ => none }
def chainTurnsRow : OpenClaim := { program := "ytfnppjhkhdfmdaa", sum := "3b0af3b9547d0fea91074417fa7dddc3fb9351418ef2c40d7581717c8239f273", func := "compline/complinelaw06.ChainTurns", spec := "chainTurns", unfollowed := true, recurses := true, apart := false }
def ChainTurnsSaid : Prop := chainTurnsRow.holds Try.pinned (OpenSpec.ofChange chainTurnsSpec)

/-- ITS FALSE NEIGHBOUR: 'it returns false'. Refute it at one input. -/
def chainTurnsWrong : ChangeSpec := { name := "chainTurns", fn := fun _ => fun
  | [d1, d2, d3, d4] => { results := [.lit (.bool false)], args := [d1, d2, d3, d4] }
  | _ => none }
def ChainTurnsWrongFalsely : Prop := chainTurnsRow.holds Try.pinned (OpenSpec.ofChange chainTurnsWrong)

/-- 'complinelaw06.ChainOnce': WHATEVER THE INPUT: true; the input reads as it did. -/
def chainOnceSpec : ChangeSpec := { name := "chainOnce", fn := fun _ => fun
  | [d1, d2, d3] => { results := [.lit (.bool true)], args := [d1, d2, d3] }
  | _ => none }
def chainOnceRow : OpenClaim := { program := "ytfnppjhkhdfmdaa", sum := "3b0af3b9547d0fea91074417fa7dddc3fb9351418ef2c40d7581717c8239f273", func := "compline/complinelaw06.ChainOnce", spec := "chainOnce", unfollowed := true, recurses := true, apart := false }
def ChainOnceSaid : Prop := chainOnceRow.holds Try.pinned (OpenSpec.ofChange chainOnceSpec)

/-- ITS FALSE NEIGHBOUR: 'it returns false'. Refute it at one input. -/
def chainOnceWrong : ChangeSpec := { name := "chainOnce", fn := fun _ => fun
  | [d1, d2, d3] => { results := [.lit (.bool false)], args := [d1, d2, d3] }
  | _ => none }
def ChainOnceWrongFalsely : Prop := chainOnceRow.holds Try.pinned (OpenSpec.ofChange chainOnceWrong)

/-- 'complinelaw06.ChainBack': WHATEVER THE INPUT: true; the input reads as it did. -/
def chainBackSpec : ChangeSpec := { name := "chainBack", fn := fun _ => fun
  | [d1, d2, d3, d4, d5, d6] => { results := [.lit (.bool true)], args := [d1, d2, d3, d4, d5, d6] }
  | _ => none }
def chainBackRow : OpenClaim := { program := "ytfnppjhkhdfmdaa", sum := "3b0af3b9547d0fea91074417fa7dddc3fb9351418ef2c40d7581717c8239f273", func := "compline/complinelaw06.ChainBack", spec := "chainBack", unfollowed := true, recurses := true, apart := false }
def ChainBackSaid : Prop := chainBackRow.holds Try.pinned (OpenSpec.ofChange chainBackSpec)

/-- ITS FALSE NEIGHBOUR: 'it returns false'. Refute it at one input. -/
def chainBackWrong : ChangeSpec := { name := "chainBack", fn := fun _ => fun
  | [d1, d2, d3, d4, d5, d6] => { results := [.lit (.bool false)], args := [d1, d2, d3, d4, d5, d6] }
  | _ => none }
def ChainBackWrongFalsely : Prop := chainBackRow.holds Try.pinned (OpenSpec.ofChange chainBackWrong)

/-- 'complinelaw06.ChainSplices': WHATEVER THE INPUT: true; the input reads as it did. -/
def chainSplicesSpec : ChangeSpec := { name := "chainSplices", fn := fun _ => fun
  | [d1, d2, d3, d4, d5] => { results := [.lit (.bool true)], args := [d1, d2, d3, d4, d5] }
  | _ => none }
def chainSplicesRow : OpenClaim := { program := "ytfnppjhkhdfmdaa", sum := "3b0af3b9547d0fea91074417fa7dddc3fb9351418ef2c40d7581717c8239f273", func := "compline/complinelaw06.ChainSplices", spec := "chainSplices", unfollowed := true, recurses := true, apart := false }
def ChainSplicesSaid : Prop := chainSplicesRow.holds Try.pinned (OpenSpec.ofChange chainSplicesSpec)

/-- ITS FALSE NEIGHBOUR: 'it returns false'. Refute it at one input. -/
def chainSplicesWrong : ChangeSpec := { name := "chainSplices", fn := fun _ => fun
  | [d1, d2, d3, d4, d5] => { results := [.lit (.bool false)], args := [d1, d2, d3, d4, d5] }
  | _ => none }
def ChainSplicesWrongFalsely : Prop := chainSplicesRow.holds Try.pinned (OpenSpec.ofChange chainSplicesWrong)

/- THE SECOND FORM. 'bulk': how many values and letters a reading holds, each counted each time it is reached (what is shared counts as often as it is met; a slice's spare places count too). A statement '..UptoSaid' is the law's where the arguments, and the package variables that the reading takes, are together of bulk at most 1048576: NARROWER than '..Said'. Prove '..Said' where nothing that the law and all that it calls make is longer than what came in: it says more and counts as full. Else prove '..UptoSaid'. A law counts once. -/
mutual
def uptoBulk {H : Type} : DataW H → Nat
  | .lit (.string bytes) => bytes.length + 1
  | .lit _ => 1
  | .nil => 1
  | .ptr d => uptoBulk d + 1
  | .slice elems spare => uptoBulkAll elems + uptoBulkAll spare + 1
  | .agg parts => uptoBulkAll parts + 1
  | .iface _ d => uptoBulk d + 1
  | .map entries => uptoBulkEntries entries + 1
  | .held _ => 1
def uptoBulkAll {H : Type} : List (DataW H) → Nat
  | [] => 0
  | d :: r => uptoBulk d + uptoBulkAll r
def uptoBulkEntries {H : Type} : List (Lit × DataW H) → Nat
  | [] => 0
  | x :: r => uptoBulkEntry x + uptoBulkEntries r
def uptoBulkEntry {H : Type} : Lit × DataW H → Nat
  | (.string bytes, d) => bytes.length + uptoBulk d + 1
  | (_, d) => uptoBulk d + 1
 end
def uptoSmall : (H : Type) → List (DataW H) → Bool := fun _ ds => decide (uptoBulkAll ds ≤ 1048576)
def OpenSpec.upto (s : _root_.Go.ChangeSpec) : _root_.Go.OpenSpec := { _root_.Go.OpenSpec.ofChange s with cond := some uptoSmall }

/-- 'complinelaw06.ChainPlays', WHERE WHAT IT READS IS OF BULK AT MOST 1048576: true; the input reads as it did. -/
def chainPlaysUptoRow : OpenClaim := { program := "ytfnppjhkhdfmdaa", sum := "3b0af3b9547d0fea91074417fa7dddc3fb9351418ef2c40d7581717c8239f273", func := "compline/complinelaw06.ChainPlays", spec := "chainPlays", unfollowed := true, recurses := true, apart := false, narrowed := true }
def ChainPlaysUptoSaid : Prop := chainPlaysUptoRow.holds Try.pinned (OpenSpec.upto chainPlaysSpec)

/-- 'complinelaw06.ChainTurns', WHERE WHAT IT READS IS OF BULK AT MOST 1048576: true; the input reads as it did. -/
def chainTurnsUptoRow : OpenClaim := { program := "ytfnppjhkhdfmdaa", sum := "3b0af3b9547d0fea91074417fa7dddc3fb9351418ef2c40d7581717c8239f273", func := "compline/complinelaw06.ChainTurns", spec := "chainTurns", unfollowed := true, recurses := true, apart := false, narrowed := true }
def ChainTurnsUptoSaid : Prop := chainTurnsUptoRow.holds Try.pinned (OpenSpec.upto chainTurnsSpec)

/-- 'complinelaw06.ChainOnce', WHERE WHAT IT READS IS OF BULK AT MOST 1048576: true; the input reads as it did. -/
def chainOnceUptoRow : OpenClaim := { program := "ytfnppjhkhdfmdaa", sum := "3b0af3b9547d0fea91074417fa7dddc3fb9351418ef2c40d7581717c8239f273", func := "compline/complinelaw06.ChainOnce", spec := "chainOnce", unfollowed := true, recurses := true, apart := false, narrowed := true }
def ChainOnceUptoSaid : Prop := chainOnceUptoRow.holds Try.pinned (OpenSpec.upto chainOnceSpec)

/-- 'complinelaw06.ChainBack', WHERE WHAT IT READS IS OF BULK AT MOST 1048576: true; the input reads as it did. -/
def chainBackUptoRow : OpenClaim := { program := "ytfnppjhkhdfmdaa", sum := "3b0af3b9547d0fea91074417fa7dddc3fb9351418ef2c40d7581717c8239f273", func := "compline/complinelaw06.ChainBack", spec := "chainBack", unfollowed := true, recurses := true, apart := false, narrowed := true }
def ChainBackUptoSaid : Prop := chainBackUptoRow.holds Try.pinned (OpenSpec.upto chainBackSpec)

/-- 'complinelaw06.ChainSplices', WHERE WHAT IT READS IS OF BULK AT MOST 1048576: true; the input reads as it did. -/
def chainSplicesUptoRow : OpenClaim := { program := "ytfnppjhkhdfmdaa", sum := "3b0af3b9547d0fea91074417fa7dddc3fb9351418ef2c40d7581717c8239f273", func := "compline/complinelaw06.ChainSplices", spec := "chainSplices", unfollowed := true, recurses := true, apart := false, narrowed := true }
def ChainSplicesUptoSaid : Prop := chainSplicesUptoRow.holds Try.pinned (OpenSpec.upto chainSplicesSpec)

end Rows
end Go.Proofs.Ytfnppjhkhdfmdaa
