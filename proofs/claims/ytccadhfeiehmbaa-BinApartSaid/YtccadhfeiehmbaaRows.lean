/-
  No cell of these rows narrows 'for every input' (looked for: loops, veiled, ifaces, maps, wideKeys, modest, calm, conditions, laid).
  DERIVED. THE GIVEN ROWS OF THIS SEAT. 2 by the template 'for every input the law returns true; each argument reads behind the call as it read before'; 0 by the template 'total and deterministic' (their statements: YtccadhfeiehmbaaTotals.lean).
  GIVEN WITH THE SEED: the statements are not yours to turn. If you find one false, say at which input.
  Laid BY PROGRAM, IN A SANDBOX (cutbox-rows.mjs): the forced cells as the released guide's own fill.sh prints them over the translation 0a0013cf17f1f8fd… (all of the seat's roots in one cut). By AI agents, Wed Nov 11 2026. No macro, syntax, notation, axiom, sorry.
-/
import Derived.Test.YtccadhfeiehmbaaChecked
import GoSem.Claim
import GoSem.ClaimJoined
import GoSem.ClaimMapViews
import Derived.JoinedTies
import Derived.KernelRfl
namespace Go.Proofs.Ytccadhfeiehmbaa
/- THE CELL 'sum', in the pinned program and in every row, IS THE sha256 OF THE DUMP (.gsa) THAT YtccadhfeiehmbaaProg.lean LOADS. Nothing in Lean hashes anything: it is a label: what it is worth is what the hold of that sum in a sandbox is worth. -/
noncomputable def Try.pinned : Pinned := { name := "ytccadhfeiehmbaa", sum := "0a0013cf17f1f8fdb9db0b43bcbd88dd17297dc20cc68d0c7ec93c9613eb7226", checked := Try.checked }
namespace Rows
def none {H : Type} : Left H := { results := [], args := [] }

/-- 'stepladderlaw04.BinNumbers': WHATEVER THE INPUT: true; the input reads as it did. -/
def binNumbersSpec : ChangeSpec := { name := "binNumbers", fn := fun _ => fun
  | [d1, d2, d3, d4] => { results := [.lit (.bool true)], args := [d1, d2, d3, d4] }
  | _ => none }
def binNumbersRow : OpenClaim := { program := "ytccadhfeiehmbaa", sum := "0a0013cf17f1f8fdb9db0b43bcbd88dd17297dc20cc68d0c7ec93c9613eb7226", func := "stepladder/stepladderlaw04.BinNumbers", spec := "binNumbers", unfollowed := true, recurses := true, apart := false }
def BinNumbersSaid : Prop := binNumbersRow.holds Try.pinned (OpenSpec.ofChange binNumbersSpec)

/-- ITS FALSE NEIGHBOUR: 'it returns false'. Refute it at one input. -/
def binNumbersWrong : ChangeSpec := { name := "binNumbers", fn := fun _ => fun
  | [d1, d2, d3, d4] => { results := [.lit (.bool false)], args := [d1, d2, d3, d4] }
  | _ => none }
def BinNumbersWrongFalsely : Prop := binNumbersRow.holds Try.pinned (OpenSpec.ofChange binNumbersWrong)

/-- 'stepladderlaw04.BinApart': WHATEVER THE INPUT: true; the input reads as it did. -/
def binApartSpec : ChangeSpec := { name := "binApart", fn := fun _ => fun
  | [d1, d2, d3, d4, d5] => { results := [.lit (.bool true)], args := [d1, d2, d3, d4, d5] }
  | _ => none }
def binApartRow : OpenClaim := { program := "ytccadhfeiehmbaa", sum := "0a0013cf17f1f8fdb9db0b43bcbd88dd17297dc20cc68d0c7ec93c9613eb7226", func := "stepladder/stepladderlaw04.BinApart", spec := "binApart", unfollowed := true, recurses := true, apart := false }
def BinApartSaid : Prop := binApartRow.holds Try.pinned (OpenSpec.ofChange binApartSpec)

/-- ITS FALSE NEIGHBOUR: 'it returns false'. Refute it at one input. -/
def binApartWrong : ChangeSpec := { name := "binApart", fn := fun _ => fun
  | [d1, d2, d3, d4, d5] => { results := [.lit (.bool false)], args := [d1, d2, d3, d4, d5] }
  | _ => none }
def BinApartWrongFalsely : Prop := binApartRow.holds Try.pinned (OpenSpec.ofChange binApartWrong)

/- THE SECOND FORM. 'bulk': how many values and letters a reading holds, each counted each time it is reached (what is shared counts as often as it is met; a slice's spare places count too). A statement '..UptoSaid' is the law's where the arguments, and the package variables that the reading takes, are together of bulk at most 1048576: NARROWER than '..Said'. Prove '..Said' where nothing that the law and all that it calls make is longer than what came in: it says more and counts as full. Else prove '..UptoSaid'. A law counts once. -/
mutual
def uptoBulk {H : Type} : DataW H → Nat
  | .lit (.string bytes) => bytes.length + 1
  | .lit _ => 1
  | .nil => 1
  | .ptr d => uptoBulk d + 1
  | .slice elems spare => uptoBulkAll elems + uptoBulkAll spare + 1
  | .agg parts => uptoBulkAll parts + 1
  | .iface _ d => uptoBulk d + 1
  | .map entries => uptoBulkEntries entries + 1
  | .held _ => 1
def uptoBulkAll {H : Type} : List (DataW H) → Nat
  | [] => 0
  | d :: r => uptoBulk d + uptoBulkAll r
def uptoBulkEntries {H : Type} : List (Lit × DataW H) → Nat
  | [] => 0
  | x :: r => uptoBulkEntry x + uptoBulkEntries r
def uptoBulkEntry {H : Type} : Lit × DataW H → Nat
  | (.string bytes, d) => bytes.length + uptoBulk d + 1
  | (_, d) => uptoBulk d + 1
 end
def uptoSmall : (H : Type) → List (DataW H) → Bool := fun _ ds => decide (uptoBulkAll ds ≤ 1048576)
def OpenSpec.upto (s : _root_.Go.ChangeSpec) : _root_.Go.OpenSpec := { _root_.Go.OpenSpec.ofChange s with cond := some uptoSmall }

/-- 'stepladderlaw04.BinNumbers', WHERE WHAT IT READS IS OF BULK AT MOST 1048576: true; the input reads as it did. -/
def binNumbersUptoRow : OpenClaim := { program := "ytccadhfeiehmbaa", sum := "0a0013cf17f1f8fdb9db0b43bcbd88dd17297dc20cc68d0c7ec93c9613eb7226", func := "stepladder/stepladderlaw04.BinNumbers", spec := "binNumbers", unfollowed := true, recurses := true, apart := false, narrowed := true }
def BinNumbersUptoSaid : Prop := binNumbersUptoRow.holds Try.pinned (OpenSpec.upto binNumbersSpec)

/-- 'stepladderlaw04.BinApart', WHERE WHAT IT READS IS OF BULK AT MOST 1048576: true; the input reads as it did. -/
def binApartUptoRow : OpenClaim := { program := "ytccadhfeiehmbaa", sum := "0a0013cf17f1f8fdb9db0b43bcbd88dd17297dc20cc68d0c7ec93c9613eb7226", func := "stepladder/stepladderlaw04.BinApart", spec := "binApart", unfollowed := true, recurses := true, apart := false, narrowed := true }
def BinApartUptoSaid : Prop := binApartUptoRow.holds Try.pinned (OpenSpec.upto binApartSpec)

end Rows
end Go.Proofs.Ytccadhfeiehmbaa
