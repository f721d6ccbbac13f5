/-
  No cell of these rows narrows 'for every input' (looked for: loops, veiled, ifaces, maps, wideKeys, modest, calm, conditions, laid).
  DERIVED. THE GIVEN ROWS OF THIS SEAT. 6 by the template 'for every input the law returns true; each argument reads behind the call as it read before'; 0 by the template 'total and deterministic' (their statements: YtinkdkcmmjfhoaaTotals.lean).
  GIVEN WITH THE SEED: the statements are not yours to turn. If you find one false, say at which input.
  Laid BY PROGRAM, IN A SANDBOX (cutbox-rows.mjs): the forced cells as the released guide's own fill.sh prints them over the translation 2ad8246194bbf196… (all of the seat's roots in one cut). By AI agents, Wed Nov 11 2026. No macro, syntax, notation, axiom, sorry.
-/
import Derived.Test.YtinkdkcmmjfhoaaChecked
import GoSem.Claim
import GoSem.ClaimJoined
import GoSem.ClaimMapViews
import Derived.JoinedTies
import Derived.KernelRfl
namespace Go.Proofs.Ytinkdkcmmjfhoaa
/- THE CELL 'sum', in the pinned program and in every row, IS THE sha256 OF THE DUMP (.gsa) THAT YtinkdkcmmjfhoaaProg.lean LOADS. Nothing in Lean hashes anything: it is a label: what it is worth is what the hold of that sum in a sandbox is worth. -/
noncomputable def Try.pinned : Pinned := { name := "ytinkdkcmmjfhoaa", sum := "2ad8246194bbf19639ce291ac11dc065eae8c0e7cfdee0b0581196432baa4051", checked := Try.checked }
namespace Rows
def none {H : Type} : Left H := { results := [], args := [] }

/-- 'stepladderlaw07.LinkGrows': WHATEVER THE INPUT: true; the input reads as it did. -/
def linkGrowsSpec : ChangeSpec := { name := "linkGrows", fn := fun _ => fun
  | [d1, d2, d3, d4] => { results := [.lit (.bool true)], args := [d1, d2, d3, d4] }
  | _ => none }
def linkGrowsRow : OpenClaim := { program := "ytinkdkcmmjfhoaa", sum := "2ad8246194bbf19639ce291ac11dc065eae8c0e7cfdee0b0581196432baa4051", func := "stepladder/stepladderlaw07.LinkGrows", spec := "linkGrows", unfollowed := true, recurses := true, apart := false }
def LinkGrowsSaid : Prop := linkGrowsRow.holds Try.pinned (OpenSpec.ofChange linkGrowsSpec)

/-- ITS FALSE NEIGHBOUR: 'it returns false'. Refute it at one input. -/
def linkGrowsWrong : ChangeSpec := { name := "linkGrows", fn := fun _ => fun
  | [d1, d2, d3, d4] => { results := [.lit (.bool false)], args := [d1, d2, d3, d4] }
  | _ => none }
def LinkGrowsWrongFalsely : Prop := linkGrowsRow.holds Try.pinned (OpenSpec.ofChange linkGrowsWrong)

/-- 'stepladderlaw07.LinkTwice': WHATEVER THE INPUT: true; the input reads as it did. -/
def linkTwiceSpec : ChangeSpec := { name := "linkTwice", fn := fun _ => fun
  | [d1, d2, d3, d4, d5, d6] => { results := [.lit (.bool true)], args := [d1, d2, d3, d4, d5, d6] }
  | _ => none }
def linkTwiceRow : OpenClaim := { program := "ytinkdkcmmjfhoaa", sum := "2ad8246194bbf19639ce291ac11dc065eae8c0e7cfdee0b0581196432baa4051", func := "stepladder/stepladderlaw07.LinkTwice", spec := "linkTwice", unfollowed := true, recurses := true, apart := false }
def LinkTwiceSaid : Prop := linkTwiceRow.holds Try.pinned (OpenSpec.ofChange linkTwiceSpec)

/-- ITS FALSE NEIGHBOUR: 'it returns false'. Refute it at one input. -/
def linkTwiceWrong : ChangeSpec := { name := "linkTwice", fn := fun _ => fun
  | [d1, d2, d3, d4, d5, d6] => { results := [.lit (.bool false)], args := [d1, d2, d3, d4, d5, d6] }
  | _ => none }
def LinkTwiceWrongFalsely : Prop := linkTwiceRow.holds Try.pinned (OpenSpec.ofChange linkTwiceWrong)

/-- 'stepladderlaw07.LinkLow': WHATEVER THE INPUT: true; the input reads as it did. -/
def linkLowSpec : ChangeSpec := { name := "linkLow", fn := fun _ => fun
  | [d1, d2, d3, d4] => { results := [.lit (.bool true)], args := [d1, d2, d3, d4] }
  | _ => none }
def linkLowRow : OpenClaim := { program := "ytinkdkcmmjfhoaa", sum := "2ad8246194bbf19639ce291ac11dc065eae8c0e7cfdee0b0581196432baa4051", func := "stepladder/stepladderlaw07.LinkLow", spec := "linkLow", unfollowed := true, recurses := true, apart := false }
def LinkLowSaid : Prop := linkLowRow.holds Try.pinned (OpenSpec.ofChange linkLowSpec)

/-- ITS FALSE NEIGHBOUR: 'it returns false'. Refute it at one input. -/
def linkLowWrong : ChangeSpec := { name := "linkLow", fn := fun _ => fun
  | [d1, d2, d3, d4] => { results := [.lit (.bool false)], args := [d1, d2, d3, d4] }
  | _ => none }
def LinkLowWrongFalsely : Prop := linkLowRow.holds Try.pinned (OpenSpec.ofChange linkLowWrong)

/-- 'stepladderlaw07.LinkTells': WHATEVER THE INPUT: true; the input reads as it did. -/
def linkTellsSpec : ChangeSpec := { name := "linkTells", fn := fun _ => fun
  | [d1, d2, d3, d4, d5, d6] => { results := [.lit (.bool true)], args := [d1, d2, d3, d4, d5, d6] }
  | _ => none }
def linkTellsRow : OpenClaim := { program := "ytinkdkcmmjfhoaa", sum := "2ad8246194bbf19639ce291ac11dc065eae8c0e7cfdee0b0581196432baa4051", func := "stepladder/stepladderlaw07.LinkTells", spec := "linkTells", unfollowed := true, recurses := true, apart := false }
def LinkTellsSaid : Prop := linkTellsRow.holds Try.pinned (OpenSpec.ofChange linkTellsSpec)

/-- ITS FALSE NEIGHBOUR: 'it returns false'. Refute it at one input. -/
def linkTellsWrong : ChangeSpec := { name := "linkTells", fn := fun _ => fun
  | [d1, d2, d3, d4, d5, d6] => { results := [.lit (.bool false)], args := [d1, d2, d3, d4, d5, d6] }
  | _ => none }
def LinkTellsWrongFalsely : Prop := linkTellsRow.holds Try.pinned (OpenSpec.ofChange linkTellsWrong)

/-- 'stepladderlaw07.LinkPaths': WHATEVER THE INPUT: true; the input reads as it did. -/
def linkPathsSpec : ChangeSpec := { name := "linkPaths", fn := fun _ => fun
  | [d1, d2, d3] => { results := [.lit (.bool true)], args := [d1, d2, d3] }
  | _ => none }
def linkPathsRow : OpenClaim := { program := "ytinkdkcmmjfhoaa", sum := "2ad8246194bbf19639ce291ac11dc065eae8c0e7cfdee0b0581196432baa4051", func := "stepladder/stepladderlaw07.LinkPaths", spec := "linkPaths", unfollowed := true, recurses := true, apart := false }
def LinkPathsSaid : Prop := linkPathsRow.holds Try.pinned (OpenSpec.ofChange linkPathsSpec)

/-- ITS FALSE NEIGHBOUR: 'it returns false'. Refute it at one input. -/
def linkPathsWrong : ChangeSpec := { name := "linkPaths", fn := fun _ => fun
  | [d1, d2, d3] => { results := [.lit (.bool false)], args := [d1, d2, d3] }
  | _ => none }
def LinkPathsWrongFalsely : Prop := linkPathsRow.holds Try.pinned (OpenSpec.ofChange linkPathsWrong)

/-- 'stepladderlaw07.LinkSums': WHATEVER THE INPUT: true; the input reads as it did. -/
def linkSumsSpec : ChangeSpec := { name := "linkSums", fn := fun _ => fun
  | [d1, d2, d3, d4] => { results := [.lit (.bool true)], args := [d1, d2, d3, d4] }
  | _ => none }
def linkSumsRow : OpenClaim := { program := "ytinkdkcmmjfhoaa", sum := "2ad8246194bbf19639ce291ac11dc065eae8c0e7cfdee0b0581196432baa4051", func := "stepladder/stepladderlaw07.LinkSums", spec := "linkSums", unfollowed := true, recurses := true, apart := false }
def LinkSumsSaid : Prop := linkSumsRow.holds Try.pinned (OpenSpec.ofChange linkSumsSpec)

/-- ITS FALSE NEIGHBOUR: 'it returns false'. Refute it at one input. -/
def linkSumsWrong : ChangeSpec := { name := "linkSums", fn := fun _ => fun
  | [d1, d2, d3, d4] => { results := [.lit (.bool false)], args := [d1, d2, d3, d4] }
  | _ => none }
def LinkSumsWrongFalsely : Prop := linkSumsRow.holds Try.pinned (OpenSpec.ofChange linkSumsWrong)

/- THE SECOND FORM. 'bulk': how many values and letters a reading holds, each counted each time it is reached (what is shared counts as often as it is met; a slice's spare places count too). A statement '..UptoSaid' is the law's where the arguments, and the package variables that the reading takes, are together of bulk at most 1048576: NARROWER than '..Said'. Prove '..Said' where nothing that the law and all that it calls make is longer than what came in: it says more and counts as full. Else prove '..UptoSaid'. A law counts once. -/
mutual
def uptoBulk {H : Type} : DataW H → Nat
  | .lit (.string bytes) => bytes.length + 1
  | .lit _ => 1
  | .nil => 1
  | .ptr d => uptoBulk d + 1
  | .slice elems spare => uptoBulkAll elems + uptoBulkAll spare + 1
  | .agg parts => uptoBulkAll parts + 1
  | .iface _ d => uptoBulk d + 1
  | .map entries => uptoBulkEntries entries + 1
  | .held _ => 1
def uptoBulkAll {H : Type} : List (DataW H) → Nat
  | [] => 0
  | d :: r => uptoBulk d + uptoBulkAll r
def uptoBulkEntries {H : Type} : List (Lit × DataW H) → Nat
  | [] => 0
  | x :: r => uptoBulkEntry x + uptoBulkEntries r
def uptoBulkEntry {H : Type} : Lit × DataW H → Nat
  | (.string bytes, d) => bytes.length + uptoBulk d + 1
  | (_, d) => uptoBulk d + 1
 end
def uptoSmall : (H : Type) → List (DataW H) → Bool := fun _ ds => decide (uptoBulkAll ds ≤ 1048576)
def OpenSpec.upto (s : _root_.Go.ChangeSpec) : _root_.Go.OpenSpec := { _root_.Go.OpenSpec.ofChange s with cond := some uptoSmall }

/-- 'stepladderlaw07.LinkGrows', WHERE WHAT IT READS IS OF BULK AT MOST 1048576: true; the input reads as it did. -/
def linkGrowsUptoRow : OpenClaim := { program := "ytinkdkcmmjfhoaa", sum := "2ad8246194bbf19639ce291ac11dc065eae8c0e7cfdee0b0581196432baa4051", func := "stepladder/stepladderlaw07.LinkGrows", spec := "linkGrows", unfollowed := true, recurses := true, apart := false, narrowed := true }
def LinkGrowsUptoSaid : Prop := linkGrowsUptoRow.holds Try.pinned (OpenSpec.upto linkGrowsSpec)

/-- 'stepladderlaw07.LinkTwice', WHERE WHAT IT READS IS OF BULK AT MOST 1048576: true; the input reads as it did. -/
def linkTwiceUptoRow : OpenClaim := { program := "ytinkdkcmmjfhoaa", sum := "2ad8246194bbf19639ce291ac11dc065eae8c0e7cfdee0b0581196432baa4051", func := "stepladder/stepladderlaw07.LinkTwice", spec := "linkTwice", unfollowed := true, recurses := true, apart := false, narrowed := true }
def LinkTwiceUptoSaid : Prop := linkTwiceUptoRow.holds Try.pinned (OpenSpec.upto linkTwiceSpec)

/-- 'stepladderlaw07.LinkLow', WHERE WHAT IT READS IS OF BULK AT MOST 1048576: true; the input reads as it did. -/
def linkLowUptoRow : OpenClaim := { program := "ytinkdkcmmjfhoaa", sum := "2ad8246194bbf19639ce291ac11dc065eae8c0e7cfdee0b0581196432baa4051", func := "stepladder/stepladderlaw07.LinkLow", spec := "linkLow", unfollowed := true, recurses := true, apart := false, narrowed := true }
def LinkLowUptoSaid : Prop := linkLowUptoRow.holds Try.pinned (OpenSpec.upto linkLowSpec)

/-- 'stepladderlaw07.LinkTells', WHERE WHAT IT READS IS OF BULK AT MOST 1048576: true; the input reads as it did. -/
def linkTellsUptoRow : OpenClaim := { program := "ytinkdkcmmjfhoaa", sum := "2ad8246194bbf19639ce291ac11dc065eae8c0e7cfdee0b0581196432baa4051", func := "stepladder/stepladderlaw07.LinkTells", spec := "linkTells", unfollowed := true, recurses := true, apart := false, narrowed := true }
def LinkTellsUptoSaid : Prop := linkTellsUptoRow.holds Try.pinned (OpenSpec.upto linkTellsSpec)

/-- 'stepladderlaw07.LinkPaths', WHERE WHAT IT READS IS OF BULK AT MOST 1048576: true; the input reads as it did. -/
def linkPathsUptoRow : OpenClaim := { program := "ytinkdkcmmjfhoaa", sum := "2ad8246194bbf19639ce291ac11dc065eae8c0e7cfdee0b0581196432baa4051", func := "stepladder/stepladderlaw07.LinkPaths", spec := "linkPaths", unfollowed := true, recurses := true, apart := false, narrowed := true }
def LinkPathsUptoSaid : Prop := linkPathsUptoRow.holds Try.pinned (OpenSpec.upto linkPathsSpec)

/-- 'stepladderlaw07.LinkSums', WHERE WHAT IT READS IS OF BULK AT MOST 1048576: true; the input reads as it did. -/
def linkSumsUptoRow : OpenClaim := { program := "ytinkdkcmmjfhoaa", sum := "2ad8246194bbf19639ce291ac11dc065eae8c0e7cfdee0b0581196432baa4051", func := "stepladder/stepladderlaw07.LinkSums", spec := "linkSums", unfollowed := true, recurses := true, apart := false, narrowed := true }
def LinkSumsUptoSaid : Prop := linkSumsUptoRow.holds Try.pinned (OpenSpec.upto linkSumsSpec)

end Rows
end Go.Proofs.Ytinkdkcmmjfhoaa
