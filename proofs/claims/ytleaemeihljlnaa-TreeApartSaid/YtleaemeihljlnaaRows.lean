/-
  No cell of these rows narrows 'for every input' (looked for: loops, veiled, ifaces, maps, wideKeys, modest, calm, conditions, laid).
  DERIVED. THE GIVEN ROWS OF THIS SEAT. 6 by the template 'for every input the law returns true; each argument reads behind the call as it read before'; 0 by the template 'total and deterministic' (their statements: YtleaemeihljlnaaTotals.lean).
  GIVEN WITH THE SEED: the statements are not yours to turn. If you find one false, say at which input.
  Laid BY PROGRAM, IN A SANDBOX (cutbox-rows.mjs): the forced cells as the released guide's own fill.sh prints them over the translation 354110df28b76df6… (all of the seat's roots in one cut). By AI agents, Wed Nov 11 2026. No macro, syntax, notation, axiom, sorry.
-/
import Derived.Test.YtleaemeihljlnaaChecked
import GoSem.Claim
import GoSem.ClaimJoined
import GoSem.ClaimMapViews
import Derived.JoinedTies
import Derived.KernelRfl
namespace Go.Proofs.Ytleaemeihljlnaa
/- THE CELL 'sum', in the pinned program and in every row, IS THE sha256 OF THE DUMP (.gsa) THAT YtleaemeihljlnaaProg.lean LOADS. Nothing in Lean hashes anything: it is a label: what it is worth is what the hold of that sum in a sandbox is worth. -/
noncomputable def Try.pinned : Pinned := { name := "ytleaemeihljlnaa", sum := "354110df28b76df6e4384021c9235c1b35b5fe73bf2e8194e58631bfe24d2341", checked := Try.checked }
namespace Rows
def none {H : Type} : Left H := { results := [], args := [] }

/-- 'stepladderlaw05.TreeTells': WHATEVER THE INPUT: true; the input reads as it did. -/
def treeTellsSpec : ChangeSpec := { name := "treeTells", fn := fun _ => fun
  | [d1, d2, d3, d4, d5] => { results := [.lit (.bool true)], args := [d1, d2, d3, d4, d5] }
  | _ => none }
def treeTellsRow : OpenClaim := { program := "ytleaemeihljlnaa", sum := "354110df28b76df6e4384021c9235c1b35b5fe73bf2e8194e58631bfe24d2341", func := "stepladder/stepladderlaw05.TreeTells", spec := "treeTells", unfollowed := true, recurses := true, apart := false }
def TreeTellsSaid : Prop := treeTellsRow.holds Try.pinned (OpenSpec.ofChange treeTellsSpec)

/-- ITS FALSE NEIGHBOUR: 'it returns false'. Refute it at one input. -/
def treeTellsWrong : ChangeSpec := { name := "treeTells", fn := fun _ => fun
  | [d1, d2, d3, d4, d5] => { results := [.lit (.bool false)], args := [d1, d2, d3, d4, d5] }
  | _ => none }
def TreeTellsWrongFalsely : Prop := treeTellsRow.holds Try.pinned (OpenSpec.ofChange treeTellsWrong)

/-- 'stepladderlaw05.TreePaths': WHATEVER THE INPUT: true; the input reads as it did. -/
def treePathsSpec : ChangeSpec := { name := "treePaths", fn := fun _ => fun
  | [d1, d2, d3] => { results := [.lit (.bool true)], args := [d1, d2, d3] }
  | _ => none }
def treePathsRow : OpenClaim := { program := "ytleaemeihljlnaa", sum := "354110df28b76df6e4384021c9235c1b35b5fe73bf2e8194e58631bfe24d2341", func := "stepladder/stepladderlaw05.TreePaths", spec := "treePaths", unfollowed := true, recurses := true, apart := false }
def TreePathsSaid : Prop := treePathsRow.holds Try.pinned (OpenSpec.ofChange treePathsSpec)

/-- ITS FALSE NEIGHBOUR: 'it returns false'. Refute it at one input. -/
def treePathsWrong : ChangeSpec := { name := "treePaths", fn := fun _ => fun
  | [d1, d2, d3] => { results := [.lit (.bool false)], args := [d1, d2, d3] }
  | _ => none }
def TreePathsWrongFalsely : Prop := treePathsRow.holds Try.pinned (OpenSpec.ofChange treePathsWrong)

/-- 'stepladderlaw05.TreeHalves': WHATEVER THE INPUT: true; the input reads as it did. -/
def treeHalvesSpec : ChangeSpec := { name := "treeHalves", fn := fun _ => fun
  | [d1, d2, d3, d4, d5] => { results := [.lit (.bool true)], args := [d1, d2, d3, d4, d5] }
  | _ => none }
def treeHalvesRow : OpenClaim := { program := "ytleaemeihljlnaa", sum := "354110df28b76df6e4384021c9235c1b35b5fe73bf2e8194e58631bfe24d2341", func := "stepladder/stepladderlaw05.TreeHalves", spec := "treeHalves", unfollowed := true, recurses := true, apart := false }
def TreeHalvesSaid : Prop := treeHalvesRow.holds Try.pinned (OpenSpec.ofChange treeHalvesSpec)

/-- ITS FALSE NEIGHBOUR: 'it returns false'. Refute it at one input. -/
def treeHalvesWrong : ChangeSpec := { name := "treeHalves", fn := fun _ => fun
  | [d1, d2, d3, d4, d5] => { results := [.lit (.bool false)], args := [d1, d2, d3, d4, d5] }
  | _ => none }
def TreeHalvesWrongFalsely : Prop := treeHalvesRow.holds Try.pinned (OpenSpec.ofChange treeHalvesWrong)

/-- 'stepladderlaw05.TreeNodes': WHATEVER THE INPUT: true; the input reads as it did. -/
def treeNodesSpec : ChangeSpec := { name := "treeNodes", fn := fun _ => fun
  | [d1, d2, d3] => { results := [.lit (.bool true)], args := [d1, d2, d3] }
  | _ => none }
def treeNodesRow : OpenClaim := { program := "ytleaemeihljlnaa", sum := "354110df28b76df6e4384021c9235c1b35b5fe73bf2e8194e58631bfe24d2341", func := "stepladder/stepladderlaw05.TreeNodes", spec := "treeNodes", unfollowed := true, recurses := true, apart := false }
def TreeNodesSaid : Prop := treeNodesRow.holds Try.pinned (OpenSpec.ofChange treeNodesSpec)

/-- ITS FALSE NEIGHBOUR: 'it returns false'. Refute it at one input. -/
def treeNodesWrong : ChangeSpec := { name := "treeNodes", fn := fun _ => fun
  | [d1, d2, d3] => { results := [.lit (.bool false)], args := [d1, d2, d3] }
  | _ => none }
def TreeNodesWrongFalsely : Prop := treeNodesRow.holds Try.pinned (OpenSpec.ofChange treeNodesWrong)

/-- 'stepladderlaw05.TreeClash': WHATEVER THE INPUT: true; the input reads as it did. -/
def treeClashSpec : ChangeSpec := { name := "treeClash", fn := fun _ => fun
  | [d1, d2, d3, d4] => { results := [.lit (.bool true)], args := [d1, d2, d3, d4] }
  | _ => none }
def treeClashRow : OpenClaim := { program := "ytleaemeihljlnaa", sum := "354110df28b76df6e4384021c9235c1b35b5fe73bf2e8194e58631bfe24d2341", func := "stepladder/stepladderlaw05.TreeClash", spec := "treeClash", unfollowed := true, recurses := true, apart := false }
def TreeClashSaid : Prop := treeClashRow.holds Try.pinned (OpenSpec.ofChange treeClashSpec)

/-- ITS FALSE NEIGHBOUR: 'it returns false'. Refute it at one input. -/
def treeClashWrong : ChangeSpec := { name := "treeClash", fn := fun _ => fun
  | [d1, d2, d3, d4] => { results := [.lit (.bool false)], args := [d1, d2, d3, d4] }
  | _ => none }
def TreeClashWrongFalsely : Prop := treeClashRow.holds Try.pinned (OpenSpec.ofChange treeClashWrong)

/-- 'stepladderlaw05.TreeApart': WHATEVER THE INPUT: true; the input reads as it did. -/
def treeApartSpec : ChangeSpec := { name := "treeApart", fn := fun _ => fun
  | [d1, d2, d3] => { results := [.lit (.bool true)], args := [d1, d2, d3] }
  | _ => none }
def treeApartRow : OpenClaim := { program := "ytleaemeihljlnaa", sum := "354110df28b76df6e4384021c9235c1b35b5fe73bf2e8194e58631bfe24d2341", func := "stepladder/stepladderlaw05.TreeApart", spec := "treeApart", unfollowed := true, recurses := true, apart := false }
def TreeApartSaid : Prop := treeApartRow.holds Try.pinned (OpenSpec.ofChange treeApartSpec)

/-- ITS FALSE NEIGHBOUR: 'it returns false'. Refute it at one input. -/
def treeApartWrong : ChangeSpec := { name := "treeApart", fn := fun _ => fun
  | [d1, d2, d3] => { results := [.lit (.bool false)], args := [d1, d2, d3] }
  | _ => none }
def TreeApartWrongFalsely : Prop := treeApartRow.holds Try.pinned (OpenSpec.ofChange treeApartWrong)

/- THE SECOND FORM. 'bulk': how many values and letters a reading holds, each counted each time it is reached (what is shared counts as often as it is met; a slice's spare places count too). A statement '..UptoSaid' is the law's where the arguments, and the package variables that the reading takes, are together of bulk at most 1048576: NARROWER than '..Said'. Prove '..Said' where nothing that the law and all that it calls make is longer than what came in: it says more and counts as full. Else prove '..UptoSaid'. A law counts once. -/
mutual
def uptoBulk {H : Type} : DataW H → Nat
  | .lit (.string bytes) => bytes.length + 1
  | .lit _ => 1
  | .nil => 1
  | .ptr d => uptoBulk d + 1
  | .slice elems spare => uptoBulkAll elems + uptoBulkAll spare + 1
  | .agg parts => uptoBulkAll parts + 1
  | .iface _ d => uptoBulk d + 1
  | .map entries => uptoBulkEntries entries + 1
  | .held _ => 1
def uptoBulkAll {H : Type} : List (DataW H) → Nat
  | [] => 0
  | d :: r => uptoBulk d + uptoBulkAll r
def uptoBulkEntries {H : Type} : List (Lit × DataW H) → Nat
  | [] => 0
  | x :: r => uptoBulkEntry x + uptoBulkEntries r
def uptoBulkEntry {H : Type} : Lit × DataW H → Nat
  | (.string bytes, d) => bytes.length + uptoBulk d + 1
  | (_, d) => uptoBulk d + 1
 end
def uptoSmall : (H : Type) → List (DataW H) → Bool := fun _ ds => decide (uptoBulkAll ds ≤ 1048576)
def OpenSpec.upto (s : _root_.Go.ChangeSpec) : _root_.Go.OpenSpec := { _root_.Go.OpenSpec.ofChange s with cond := some uptoSmall }

/-- 'stepladderlaw05.TreeTells', WHERE WHAT IT READS IS OF BULK AT MOST 1048576: true; the input reads as it did. -/
def treeTellsUptoRow : OpenClaim := { program := "ytleaemeihljlnaa", sum := "354110df28b76df6e4384021c9235c1b35b5fe73bf2e8194e58631bfe24d2341", func := "stepladder/stepladderlaw05.TreeTells", spec := "treeTells", unfollowed := true, recurses := true, apart := false, narrowed := true }
def TreeTellsUptoSaid : Prop := treeTellsUptoRow.holds Try.pinned (OpenSpec.upto treeTellsSpec)

/-- 'stepladderlaw05.TreePaths', WHERE WHAT IT READS IS OF BULK AT MOST 1048576: true; the input reads as it did. -/
def treePathsUptoRow : OpenClaim := { program := "ytleaemeihljlnaa", sum := "354110df28b76df6e4384021c9235c1b35b5fe73bf2e8194e58631bfe24d2341", func := "stepladder/stepladderlaw05.TreePaths", spec := "treePaths", unfollowed := true, recurses := true, apart := false, narrowed := true }
def TreePathsUptoSaid : Prop := treePathsUptoRow.holds Try.pinned (OpenSpec.upto treePathsSpec)

/-- 'stepladderlaw05.TreeHalves', WHERE WHAT IT READS IS OF BULK AT MOST 1048576: true; the input reads as it did. -/
def treeHalvesUptoRow : OpenClaim := { program := "ytleaemeihljlnaa", sum := "354110df28b76df6e4384021c9235c1b35b5fe73bf2e8194e58631bfe24d2341", func := "stepladder/stepladderlaw05.TreeHalves", spec := "treeHalves", unfollowed := true, recurses := true, apart := false, narrowed := true }
def TreeHalvesUptoSaid : Prop := treeHalvesUptoRow.holds Try.pinned (OpenSpec.upto treeHalvesSpec)

/-- 'stepladderlaw05.TreeNodes', WHERE WHAT IT READS IS OF BULK AT MOST 1048576: true; the input reads as it did. -/
def treeNodesUptoRow : OpenClaim := { program := "ytleaemeihljlnaa", sum := "354110df28b76df6e4384021c9235c1b35b5fe73bf2e8194e58631bfe24d2341", func := "stepladder/stepladderlaw05.TreeNodes", spec := "treeNodes", unfollowed := true, recurses := true, apart := false, narrowed := true }
def TreeNodesUptoSaid : Prop := treeNodesUptoRow.holds Try.pinned (OpenSpec.upto treeNodesSpec)

/-- 'stepladderlaw05.TreeClash', WHERE WHAT IT READS IS OF BULK AT MOST 1048576: true; the input reads as it did. -/
def treeClashUptoRow : OpenClaim := { program := "ytleaemeihljlnaa", sum := "354110df28b76df6e4384021c9235c1b35b5fe73bf2e8194e58631bfe24d2341", func := "stepladder/stepladderlaw05.TreeClash", spec := "treeClash", unfollowed := true, recurses := true, apart := false, narrowed := true }
def TreeClashUptoSaid : Prop := treeClashUptoRow.holds Try.pinned (OpenSpec.upto treeClashSpec)

/-- 'stepladderlaw05.TreeApart', WHERE WHAT IT READS IS OF BULK AT MOST 1048576: true; the input reads as it did. -/
def treeApartUptoRow : OpenClaim := { program := "ytleaemeihljlnaa", sum := "354110df28b76df6e4384021c9235c1b35b5fe73bf2e8194e58631bfe24d2341", func := "stepladder/stepladderlaw05.TreeApart", spec := "treeApart", unfollowed := true, recurses := true, apart := false, narrowed := true }
def TreeApartUptoSaid : Prop := treeApartUptoRow.holds Try.pinned (OpenSpec.upto treeApartSpec)

end Rows
end Go.Proofs.Ytleaemeihljlnaa
