/-
  No cell of these rows narrows 'for every input' (looked for: loops, veiled, ifaces, maps, wideKeys, modest, calm, conditions, laid).
  DERIVED. THE GIVEN ROWS OF THIS SEAT. 6 by the template 'for every input the law returns true; each argument reads behind the call as it read before'; 0 by the template 'total and deterministic' (their statements: YtnhcamklammcdaaTotals.lean).
  GIVEN WITH THE SEED: the statements are not yours to turn. If you find one false, say at which input.
  Laid BY PROGRAM, IN A SANDBOX (cutbox-rows.mjs): the forced cells as the released guide's own fill.sh prints them over the translation c7576267ae90c332… (all of the seat's roots in one cut). By AI agents, Wed Nov 11 2026. No macro, syntax, notation, axiom, sorry.
-/
import Derived.Test.YtnhcamklammcdaaChecked
import GoSem.Claim
import GoSem.ClaimJoined
import GoSem.ClaimMapViews
import Derived.JoinedTies
import Derived.KernelRfl
namespace Go.Proofs.Ytnhcamklammcdaa
/- THE CELL 'sum', in the pinned program and in every row, IS THE sha256 OF THE DUMP (.gsa) THAT YtnhcamklammcdaaProg.lean LOADS. Nothing in Lean hashes anything: it is a label: what it is worth is what the hold of that sum in a sandbox is worth. -/
noncomputable def Try.pinned : Pinned := { name := "ytnhcamklammcdaa", sum := "c7576267ae90c332da22eecf5e0713236db445cb086df6672acc0a00910079eb", checked := Try.checked }
namespace Rows
def none {H : Type} : Left H := { results := [], args := [] }

/-- 'stepladderlaw06.MmrTells': WHATEVER THE INPUT: true; the input reads as it did. -/
def mmrTellsSpec : ChangeSpec := { name := "mmrTells", fn := fun _ => fun
  | [d1, d2, d3, d4, d5, d6] => { results := [.lit (.bool true)], args := [d1, d2, d3, d4, d5, d6] }
  | _ => none }
def mmrTellsRow : OpenClaim := { program := "ytnhcamklammcdaa", sum := "c7576267ae90c332da22eecf5e0713236db445cb086df6672acc0a00910079eb", func := "stepladder/stepladderlaw06.MmrTells", spec := "mmrTells", inPlace := ["math/bits.Add64"], unfollowed := true, recurses := true, apart := false }
def MmrTellsSaid : Prop := mmrTellsRow.holds Try.pinned (OpenSpec.ofChange mmrTellsSpec)

/-- ITS FALSE NEIGHBOUR: 'it returns false'. Refute it at one input. -/
def mmrTellsWrong : ChangeSpec := { name := "mmrTells", fn := fun _ => fun
  | [d1, d2, d3, d4, d5, d6] => { results := [.lit (.bool false)], args := [d1, d2, d3, d4, d5, d6] }
  | _ => none }
def MmrTellsWrongFalsely : Prop := mmrTellsRow.holds Try.pinned (OpenSpec.ofChange mmrTellsWrong)

/-- 'stepladderlaw06.MmrJoins': WHATEVER THE INPUT: true; the input reads as it did. -/
def mmrJoinsSpec : ChangeSpec := { name := "mmrJoins", fn := fun _ => fun
  | [d1, d2] => { results := [.lit (.bool true)], args := [d1, d2] }
  | _ => none }
def mmrJoinsRow : OpenClaim := { program := "ytnhcamklammcdaa", sum := "c7576267ae90c332da22eecf5e0713236db445cb086df6672acc0a00910079eb", func := "stepladder/stepladderlaw06.MmrJoins", spec := "mmrJoins", inPlace := ["math/bits.Add64"], unfollowed := true, recurses := true, apart := false }
def MmrJoinsSaid : Prop := mmrJoinsRow.holds Try.pinned (OpenSpec.ofChange mmrJoinsSpec)

/-- ITS FALSE NEIGHBOUR: 'it returns false'. Refute it at one input. -/
def mmrJoinsWrong : ChangeSpec := { name := "mmrJoins", fn := fun _ => fun
  | [d1, d2] => { results := [.lit (.bool false)], args := [d1, d2] }
  | _ => none }
def MmrJoinsWrongFalsely : Prop := mmrJoinsRow.holds Try.pinned (OpenSpec.ofChange mmrJoinsWrong)

/-- 'stepladderlaw06.MmrWhole': WHATEVER THE INPUT: true; the input reads as it did. -/
def mmrWholeSpec : ChangeSpec := { name := "mmrWhole", fn := fun _ => fun
  | [d1, d2] => { results := [.lit (.bool true)], args := [d1, d2] }
  | _ => none }
def mmrWholeRow : OpenClaim := { program := "ytnhcamklammcdaa", sum := "c7576267ae90c332da22eecf5e0713236db445cb086df6672acc0a00910079eb", func := "stepladder/stepladderlaw06.MmrWhole", spec := "mmrWhole", inPlace := ["math/bits.Add64"], unfollowed := true, recurses := true, apart := false }
def MmrWholeSaid : Prop := mmrWholeRow.holds Try.pinned (OpenSpec.ofChange mmrWholeSpec)

/-- ITS FALSE NEIGHBOUR: 'it returns false'. Refute it at one input. -/
def mmrWholeWrong : ChangeSpec := { name := "mmrWhole", fn := fun _ => fun
  | [d1, d2] => { results := [.lit (.bool false)], args := [d1, d2] }
  | _ => none }
def MmrWholeWrongFalsely : Prop := mmrWholeRow.holds Try.pinned (OpenSpec.ofChange mmrWholeWrong)

/-- 'stepladderlaw06.MmrPaths': WHATEVER THE INPUT: true; the input reads as it did. -/
def mmrPathsSpec : ChangeSpec := { name := "mmrPaths", fn := fun _ => fun
  | [d1, d2, d3] => { results := [.lit (.bool true)], args := [d1, d2, d3] }
  | _ => none }
def mmrPathsRow : OpenClaim := { program := "ytnhcamklammcdaa", sum := "c7576267ae90c332da22eecf5e0713236db445cb086df6672acc0a00910079eb", func := "stepladder/stepladderlaw06.MmrPaths", spec := "mmrPaths", inPlace := ["math/bits.Add64"], unfollowed := true, recurses := true, apart := false }
def MmrPathsSaid : Prop := mmrPathsRow.holds Try.pinned (OpenSpec.ofChange mmrPathsSpec)

/-- ITS FALSE NEIGHBOUR: 'it returns false'. Refute it at one input. -/
def mmrPathsWrong : ChangeSpec := { name := "mmrPaths", fn := fun _ => fun
  | [d1, d2, d3] => { results := [.lit (.bool false)], args := [d1, d2, d3] }
  | _ => none }
def MmrPathsWrongFalsely : Prop := mmrPathsRow.holds Try.pinned (OpenSpec.ofChange mmrPathsWrong)

/-- 'stepladderlaw06.MmrOne': WHATEVER THE INPUT: true; the input reads as it did. -/
def mmrOneSpec : ChangeSpec := { name := "mmrOne", fn := fun _ => fun
  | [d1, d2, d3] => { results := [.lit (.bool true)], args := [d1, d2, d3] }
  | _ => none }
def mmrOneRow : OpenClaim := { program := "ytnhcamklammcdaa", sum := "c7576267ae90c332da22eecf5e0713236db445cb086df6672acc0a00910079eb", func := "stepladder/stepladderlaw06.MmrOne", spec := "mmrOne", inPlace := ["math/bits.Add64"], unfollowed := true, recurses := true, apart := false }
def MmrOneSaid : Prop := mmrOneRow.holds Try.pinned (OpenSpec.ofChange mmrOneSpec)

/-- ITS FALSE NEIGHBOUR: 'it returns false'. Refute it at one input. -/
def mmrOneWrong : ChangeSpec := { name := "mmrOne", fn := fun _ => fun
  | [d1, d2, d3] => { results := [.lit (.bool false)], args := [d1, d2, d3] }
  | _ => none }
def MmrOneWrongFalsely : Prop := mmrOneRow.holds Try.pinned (OpenSpec.ofChange mmrOneWrong)

/-- 'stepladderlaw06.MmrWork': WHATEVER THE INPUT: true; the input reads as it did. -/
def mmrWorkSpec : ChangeSpec := { name := "mmrWork", fn := fun _ => fun
  | [d1, d2, d3, d4] => { results := [.lit (.bool true)], args := [d1, d2, d3, d4] }
  | _ => none }
def mmrWorkRow : OpenClaim := { program := "ytnhcamklammcdaa", sum := "c7576267ae90c332da22eecf5e0713236db445cb086df6672acc0a00910079eb", func := "stepladder/stepladderlaw06.MmrWork", spec := "mmrWork", inPlace := ["math/bits.Add64"], unfollowed := true, recurses := true, apart := false }
def MmrWorkSaid : Prop := mmrWorkRow.holds Try.pinned (OpenSpec.ofChange mmrWorkSpec)

/-- ITS FALSE NEIGHBOUR: 'it returns false'. Refute it at one input. -/
def mmrWorkWrong : ChangeSpec := { name := "mmrWork", fn := fun _ => fun
  | [d1, d2, d3, d4] => { results := [.lit (.bool false)], args := [d1, d2, d3, d4] }
  | _ => none }
def MmrWorkWrongFalsely : Prop := mmrWorkRow.holds Try.pinned (OpenSpec.ofChange mmrWorkWrong)

/- THE SECOND FORM. 'bulk': how many values and letters a reading holds, each counted each time it is reached (what is shared counts as often as it is met; a slice's spare places count too). A statement '..UptoSaid' is the law's where the arguments, and the package variables that the reading takes, are together of bulk at most 1048576: NARROWER than '..Said'. Prove '..Said' where nothing that the law and all that it calls make is longer than what came in: it says more and counts as full. Else prove '..UptoSaid'. A law counts once. -/
mutual
def uptoBulk {H : Type} : DataW H → Nat
  | .lit (.string bytes) => bytes.length + 1
  | .lit _ => 1
  | .nil => 1
  | .ptr d => uptoBulk d + 1
  | .slice elems spare => uptoBulkAll elems + uptoBulkAll spare + 1
  | .agg parts => uptoBulkAll parts + 1
  | .iface _ d => uptoBulk d + 1
  | .map entries => uptoBulkEntries entries + 1
  | .held _ => 1
def uptoBulkAll {H : Type} : List (DataW H) → Nat
  | [] => 0
  | d :: r => uptoBulk d + uptoBulkAll r
def uptoBulkEntries {H : Type} : List (Lit × DataW H) → Nat
  | [] => 0
  | x :: r => uptoBulkEntry x + uptoBulkEntries r
def uptoBulkEntry {H : Type} : Lit × DataW H → Nat
  | (.string bytes, d) => bytes.length + uptoBulk d + 1
  | (_, d) => uptoBulk d + 1
 end
def uptoSmall : (H : Type) → List (DataW H) → Bool := fun _ ds => decide (uptoBulkAll ds ≤ 1048576)
def OpenSpec.upto (s : _root_.Go.ChangeSpec) : _root_.Go.OpenSpec := { _root_.Go.OpenSpec.ofChange s with cond := some uptoSmall }

/-- 'stepladderlaw06.MmrTells', WHERE WHAT IT READS IS OF BULK AT MOST 1048576: true; the input reads as it did. -/
def mmrTellsUptoRow : OpenClaim := { program := "ytnhcamklammcdaa", sum := "c7576267ae90c332da22eecf5e0713236db445cb086df6672acc0a00910079eb", func := "stepladder/stepladderlaw06.MmrTells", spec := "mmrTells", inPlace := ["math/bits.Add64"], unfollowed := true, recurses := true, apart := false, narrowed := true }
def MmrTellsUptoSaid : Prop := mmrTellsUptoRow.holds Try.pinned (OpenSpec.upto mmrTellsSpec)

/-- 'stepladderlaw06.MmrJoins', WHERE WHAT IT READS IS OF BULK AT MOST 1048576: true; the input reads as it did. -/
def mmrJoinsUptoRow : OpenClaim := { program := "ytnhcamklammcdaa", sum := "c7576267ae90c332da22eecf5e0713236db445cb086df6672acc0a00910079eb", func := "stepladder/stepladderlaw06.MmrJoins", spec := "mmrJoins", inPlace := ["math/bits.Add64"], unfollowed := true, recurses := true, apart := false, narrowed := true }
def MmrJoinsUptoSaid : Prop := mmrJoinsUptoRow.holds Try.pinned (OpenSpec.upto mmrJoinsSpec)

/-- 'stepladderlaw06.MmrWhole', WHERE WHAT IT READS IS OF BULK AT MOST 1048576: true; the input reads as it did. -/
def mmrWholeUptoRow : OpenClaim := { program := "ytnhcamklammcdaa", sum := "c7576267ae90c332da22eecf5e0713236db445cb086df6672acc0a00910079eb", func := "stepladder/stepladderlaw06.MmrWhole", spec := "mmrWhole", inPlace := ["math/bits.Add64"], unfollowed := true, recurses := true, apart := false, narrowed := true }
def MmrWholeUptoSaid : Prop := mmrWholeUptoRow.holds Try.pinned (OpenSpec.upto mmrWholeSpec)

/-- 'stepladderlaw06.MmrPaths', WHERE WHAT IT READS IS OF BULK AT MOST 1048576: true; the input reads as it did. -/
def mmrPathsUptoRow : OpenClaim := { program := "ytnhcamklammcdaa", sum := "c7576267ae90c332da22eecf5e0713236db445cb086df6672acc0a00910079eb", func := "stepladder/stepladderlaw06.MmrPaths", spec := "mmrPaths", inPlace := ["math/bits.Add64"], unfollowed := true, recurses := true, apart := false, narrowed := true }
def MmrPathsUptoSaid : Prop := mmrPathsUptoRow.holds Try.pinned (OpenSpec.upto mmrPathsSpec)

/-- 'stepladderlaw06.MmrOne', WHERE WHAT IT READS IS OF BULK AT MOST 1048576: true; the input reads as it did. -/
def mmrOneUptoRow : OpenClaim := { program := "ytnhcamklammcdaa", sum := "c7576267ae90c332da22eecf5e0713236db445cb086df6672acc0a00910079eb", func := "stepladder/stepladderlaw06.MmrOne", spec := "mmrOne", inPlace := ["math/bits.Add64"], unfollowed := true, recurses := true, apart := false, narrowed := true }
def MmrOneUptoSaid : Prop := mmrOneUptoRow.holds Try.pinned (OpenSpec.upto mmrOneSpec)

/-- 'stepladderlaw06.MmrWork', WHERE WHAT IT READS IS OF BULK AT MOST 1048576: true; the input reads as it did. -/
def mmrWorkUptoRow : OpenClaim := { program := "ytnhcamklammcdaa", sum := "c7576267ae90c332da22eecf5e0713236db445cb086df6672acc0a00910079eb", func := "stepladder/stepladderlaw06.MmrWork", spec := "mmrWork", inPlace := ["math/bits.Add64"], unfollowed := true, recurses := true, apart := false, narrowed := true }
def MmrWorkUptoSaid : Prop := mmrWorkUptoRow.holds Try.pinned (OpenSpec.upto mmrWorkSpec)

end Rows
end Go.Proofs.Ytnhcamklammcdaa
