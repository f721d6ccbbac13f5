/-
  No cell of these rows narrows 'for every input' (looked for: loops, veiled, ifaces, maps, wideKeys, modest, calm, conditions, laid).
  DERIVED. THE GIVEN ROWS OF THIS SEAT. 6 by the template 'for every input the law returns true; each argument reads behind the call as it read before'; 0 by the template 'total and deterministic' (their statements: YtommbfgagalckaaTotals.lean).
  GIVEN WITH THE SEED: the statements are not yours to turn. If you find one false, say at which input.
  Laid BY PROGRAM, IN A SANDBOX (cutbox-rows.mjs): the forced cells as the released guide's own fill.sh prints them over the translation ad7941b14cb661b0… (all of the seat's roots in one cut). By AI agents, Wed Nov 11 2026. No macro, syntax, notation, axiom, sorry.
-/
import Derived.Test.YtommbfgagalckaaChecked
import GoSem.Claim
import GoSem.ClaimJoined
import GoSem.ClaimMapViews
import Derived.JoinedTies
import Derived.KernelRfl
namespace Go.Proofs.Ytommbfgagalckaa
/- THE CELL 'sum', in the pinned program and in every row, IS THE sha256 OF THE DUMP (.gsa) THAT YtommbfgagalckaaProg.lean LOADS. Nothing in Lean hashes anything: it is a label: what it is worth is what the hold of that sum in a sandbox is worth. -/
noncomputable def Try.pinned : Pinned := { name := "ytommbfgagalckaa", sum := "ad7941b14cb661b0a434b451122eeb145f10322cff5c704a426d6bf2cafc5cd9", checked := Try.checked }
namespace Rows
def none {H : Type} : Left H := { results := [], args := [] }

/-- 'stepladderlaw08.HeadBack': WHATEVER THE INPUT: true; the input reads as it did. -/
def headBackSpec : ChangeSpec := { name := "headBack", fn := fun _ => fun
  | [d1, d2, d3] => { results := [.lit (.bool true)], args := [d1, d2, d3] }
  | _ => none }
def headBackRow : OpenClaim := { program := "ytommbfgagalckaa", sum := "ad7941b14cb661b0a434b451122eeb145f10322cff5c704a426d6bf2cafc5cd9", func := "stepladder/stepladderlaw08.HeadBack", spec := "headBack", inPlace := ["math/bits.Add64", "math/bits.Sub64"], unfollowed := true, recurses := true, apart := false }
def HeadBackSaid : Prop := headBackRow.holds Try.pinned (OpenSpec.ofChange headBackSpec)

/-- ITS FALSE NEIGHBOUR: 'it returns false'. Refute it at one input. -/
def headBackWrong : ChangeSpec := { name := "headBack", fn := fun _ => fun
  | [d1, d2, d3] => { results := [.lit (.bool false)], args := [d1, d2, d3] }
  | _ => none }
def HeadBackWrongFalsely : Prop := headBackRow.holds Try.pinned (OpenSpec.ofChange headBackWrong)

/-- 'stepladderlaw08.HeadSums': WHATEVER THE INPUT: true; the input reads as it did. -/
def headSumsSpec : ChangeSpec := { name := "headSums", fn := fun _ => fun
  | [d1, d2] => { results := [.lit (.bool true)], args := [d1, d2] }
  | _ => none }
def headSumsRow : OpenClaim := { program := "ytommbfgagalckaa", sum := "ad7941b14cb661b0a434b451122eeb145f10322cff5c704a426d6bf2cafc5cd9", func := "stepladder/stepladderlaw08.HeadSums", spec := "headSums", inPlace := ["math/bits.Add64", "math/bits.Sub64"], unfollowed := true, recurses := true, apart := false }
def HeadSumsSaid : Prop := headSumsRow.holds Try.pinned (OpenSpec.ofChange headSumsSpec)

/-- ITS FALSE NEIGHBOUR: 'it returns false'. Refute it at one input. -/
def headSumsWrong : ChangeSpec := { name := "headSums", fn := fun _ => fun
  | [d1, d2] => { results := [.lit (.bool false)], args := [d1, d2] }
  | _ => none }
def HeadSumsWrongFalsely : Prop := headSumsRow.holds Try.pinned (OpenSpec.ofChange headSumsWrong)

/-- 'stepladderlaw08.HeadLevels': WHATEVER THE INPUT: true; the input reads as it did. -/
def headLevelsSpec : ChangeSpec := { name := "headLevels", fn := fun _ => fun
  | [d] => { results := [.lit (.bool true)], args := [d] }
  | _ => none }
def headLevelsRow : OpenClaim := { program := "ytommbfgagalckaa", sum := "ad7941b14cb661b0a434b451122eeb145f10322cff5c704a426d6bf2cafc5cd9", func := "stepladder/stepladderlaw08.HeadLevels", spec := "headLevels", inPlace := ["math/bits.Add64", "math/bits.Sub64"], unfollowed := true, recurses := true, apart := false }
def HeadLevelsSaid : Prop := headLevelsRow.holds Try.pinned (OpenSpec.ofChange headLevelsSpec)

/-- ITS FALSE NEIGHBOUR: 'it returns false'. Refute it at one input. -/
def headLevelsWrong : ChangeSpec := { name := "headLevels", fn := fun _ => fun
  | [d] => { results := [.lit (.bool false)], args := [d] }
  | _ => none }
def HeadLevelsWrongFalsely : Prop := headLevelsRow.holds Try.pinned (OpenSpec.ofChange headLevelsWrong)

/-- 'stepladderlaw08.HeadCut': WHATEVER THE INPUT: true; the input reads as it did. -/
def headCutSpec : ChangeSpec := { name := "headCut", fn := fun _ => fun
  | [d1, d2, d3] => { results := [.lit (.bool true)], args := [d1, d2, d3] }
  | _ => none }
def headCutRow : OpenClaim := { program := "ytommbfgagalckaa", sum := "ad7941b14cb661b0a434b451122eeb145f10322cff5c704a426d6bf2cafc5cd9", func := "stepladder/stepladderlaw08.HeadCut", spec := "headCut", inPlace := ["math/bits.Add64", "math/bits.Sub64"], unfollowed := true, recurses := true, apart := false }
def HeadCutSaid : Prop := headCutRow.holds Try.pinned (OpenSpec.ofChange headCutSpec)

/-- ITS FALSE NEIGHBOUR: 'it returns false'. Refute it at one input. -/
def headCutWrong : ChangeSpec := { name := "headCut", fn := fun _ => fun
  | [d1, d2, d3] => { results := [.lit (.bool false)], args := [d1, d2, d3] }
  | _ => none }
def HeadCutWrongFalsely : Prop := headCutRow.holds Try.pinned (OpenSpec.ofChange headCutWrong)

/-- 'stepladderlaw08.HeadTells': WHATEVER THE INPUT: true; the input reads as it did. -/
def headTellsSpec : ChangeSpec := { name := "headTells", fn := fun _ => fun
  | [d1, d2, d3] => { results := [.lit (.bool true)], args := [d1, d2, d3] }
  | _ => none }
def headTellsRow : OpenClaim := { program := "ytommbfgagalckaa", sum := "ad7941b14cb661b0a434b451122eeb145f10322cff5c704a426d6bf2cafc5cd9", func := "stepladder/stepladderlaw08.HeadTells", spec := "headTells", inPlace := ["math/bits.Add64", "math/bits.Sub64"], unfollowed := true, recurses := true, apart := false }
def HeadTellsSaid : Prop := headTellsRow.holds Try.pinned (OpenSpec.ofChange headTellsSpec)

/-- ITS FALSE NEIGHBOUR: 'it returns false'. Refute it at one input. -/
def headTellsWrong : ChangeSpec := { name := "headTells", fn := fun _ => fun
  | [d1, d2, d3] => { results := [.lit (.bool false)], args := [d1, d2, d3] }
  | _ => none }
def HeadTellsWrongFalsely : Prop := headTellsRow.holds Try.pinned (OpenSpec.ofChange headTellsWrong)

/-- 'stepladderlaw08.HeadMines': WHATEVER THE INPUT: true; the input reads as it did. -/
def headMinesSpec : ChangeSpec := { name := "headMines", fn := fun _ => fun
  | [d1, d2, d3] => { results := [.lit (.bool true)], args := [d1, d2, d3] }
  | _ => none }
def headMinesRow : OpenClaim := { program := "ytommbfgagalckaa", sum := "ad7941b14cb661b0a434b451122eeb145f10322cff5c704a426d6bf2cafc5cd9", func := "stepladder/stepladderlaw08.HeadMines", spec := "headMines", inPlace := ["math/bits.Add64", "math/bits.Sub64"], unfollowed := true, recurses := true, apart := false }
def HeadMinesSaid : Prop := headMinesRow.holds Try.pinned (OpenSpec.ofChange headMinesSpec)

/-- ITS FALSE NEIGHBOUR: 'it returns false'. Refute it at one input. -/
def headMinesWrong : ChangeSpec := { name := "headMines", fn := fun _ => fun
  | [d1, d2, d3] => { results := [.lit (.bool false)], args := [d1, d2, d3] }
  | _ => none }
def HeadMinesWrongFalsely : Prop := headMinesRow.holds Try.pinned (OpenSpec.ofChange headMinesWrong)

/- THE SECOND FORM. 'bulk': how many values and letters a reading holds, each counted each time it is reached (what is shared counts as often as it is met; a slice's spare places count too). A statement '..UptoSaid' is the law's where the arguments, and the package variables that the reading takes, are together of bulk at most 1048576: NARROWER than '..Said'. Prove '..Said' where nothing that the law and all that it calls make is longer than what came in: it says more and counts as full. Else prove '..UptoSaid'. A law counts once. -/
mutual
def uptoBulk {H : Type} : DataW H → Nat
  | .lit (.string bytes) => bytes.length + 1
  | .lit _ => 1
  | .nil => 1
  | .ptr d => uptoBulk d + 1
  | .slice elems spare => uptoBulkAll elems + uptoBulkAll spare + 1
  | .agg parts => uptoBulkAll parts + 1
  | .iface _ d => uptoBulk d + 1
  | .map entries => uptoBulkEntries entries + 1
  | .held _ => 1
def uptoBulkAll {H : Type} : List (DataW H) → Nat
  | [] => 0
  | d :: r => uptoBulk d + uptoBulkAll r
def uptoBulkEntries {H : Type} : List (Lit × DataW H) → Nat
  | [] => 0
  | x :: r => uptoBulkEntry x + uptoBulkEntries r
def uptoBulkEntry {H : Type} : Lit × DataW H → Nat
  | (.string bytes, d) => bytes.length + uptoBulk d + 1
  | (_, d) => uptoBulk d + 1
 end
def uptoSmall : (H : Type) → List (DataW H) → Bool := fun _ ds => decide (uptoBulkAll ds ≤ 1048576)
def OpenSpec.upto (s : _root_.Go.ChangeSpec) : _root_.Go.OpenSpec := { _root_.Go.OpenSpec.ofChange s with cond := some uptoSmall }

/-- 'stepladderlaw08.HeadBack', WHERE WHAT IT READS IS OF BULK AT MOST 1048576: true; the input reads as it did. -/
def headBackUptoRow : OpenClaim := { program := "ytommbfgagalckaa", sum := "ad7941b14cb661b0a434b451122eeb145f10322cff5c704a426d6bf2cafc5cd9", func := "stepladder/stepladderlaw08.HeadBack", spec := "headBack", inPlace := ["math/bits.Add64", "math/bits.Sub64"], unfollowed := true, recurses := true, apart := false, narrowed := true }
def HeadBackUptoSaid : Prop := headBackUptoRow.holds Try.pinned (OpenSpec.upto headBackSpec)

/-- 'stepladderlaw08.HeadSums', WHERE WHAT IT READS IS OF BULK AT MOST 1048576: true; the input reads as it did. -/
def headSumsUptoRow : OpenClaim := { program := "ytommbfgagalckaa", sum := "ad7941b14cb661b0a434b451122eeb145f10322cff5c704a426d6bf2cafc5cd9", func := "stepladder/stepladderlaw08.HeadSums", spec := "headSums", inPlace := ["math/bits.Add64", "math/bits.Sub64"], unfollowed := true, recurses := true, apart := false, narrowed := true }
def HeadSumsUptoSaid : Prop := headSumsUptoRow.holds Try.pinned (OpenSpec.upto headSumsSpec)

/-- 'stepladderlaw08.HeadLevels', WHERE WHAT IT READS IS OF BULK AT MOST 1048576: true; the input reads as it did. -/
def headLevelsUptoRow : OpenClaim := { program := "ytommbfgagalckaa", sum := "ad7941b14cb661b0a434b451122eeb145f10322cff5c704a426d6bf2cafc5cd9", func := "stepladder/stepladderlaw08.HeadLevels", spec := "headLevels", inPlace := ["math/bits.Add64", "math/bits.Sub64"], unfollowed := true, recurses := true, apart := false, narrowed := true }
def HeadLevelsUptoSaid : Prop := headLevelsUptoRow.holds Try.pinned (OpenSpec.upto headLevelsSpec)

/-- 'stepladderlaw08.HeadCut', WHERE WHAT IT READS IS OF BULK AT MOST 1048576: true; the input reads as it did. -/
def headCutUptoRow : OpenClaim := { program := "ytommbfgagalckaa", sum := "ad7941b14cb661b0a434b451122eeb145f10322cff5c704a426d6bf2cafc5cd9", func := "stepladder/stepladderlaw08.HeadCut", spec := "headCut", inPlace := ["math/bits.Add64", "math/bits.Sub64"], unfollowed := true, recurses := true, apart := false, narrowed := true }
def HeadCutUptoSaid : Prop := headCutUptoRow.holds Try.pinned (OpenSpec.upto headCutSpec)

/-- 'stepladderlaw08.HeadTells', WHERE WHAT IT READS IS OF BULK AT MOST 1048576: true; the input reads as it did. -/
def headTellsUptoRow : OpenClaim := { program := "ytommbfgagalckaa", sum := "ad7941b14cb661b0a434b451122eeb145f10322cff5c704a426d6bf2cafc5cd9", func := "stepladder/stepladderlaw08.HeadTells", spec := "headTells", inPlace := ["math/bits.Add64", "math/bits.Sub64"], unfollowed := true, recurses := true, apart := false, narrowed := true }
def HeadTellsUptoSaid : Prop := headTellsUptoRow.holds Try.pinned (OpenSpec.upto headTellsSpec)

/-- 'stepladderlaw08.HeadMines', WHERE WHAT IT READS IS OF BULK AT MOST 1048576: true; the input reads as it did. -/
def headMinesUptoRow : OpenClaim := { program := "ytommbfgagalckaa", sum := "ad7941b14cb661b0a434b451122eeb145f10322cff5c704a426d6bf2cafc5cd9", func := "stepladder/stepladderlaw08.HeadMines", spec := "headMines", inPlace := ["math/bits.Add64", "math/bits.Sub64"], unfollowed := true, recurses := true, apart := false, narrowed := true }
def HeadMinesUptoSaid : Prop := headMinesUptoRow.holds Try.pinned (OpenSpec.upto headMinesSpec)

end Rows
end Go.Proofs.Ytommbfgagalckaa
