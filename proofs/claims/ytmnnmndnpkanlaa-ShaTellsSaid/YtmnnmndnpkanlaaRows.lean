/-
  No cell of these rows narrows 'for every input' (looked for: loops, veiled, ifaces, maps, wideKeys, modest, calm, conditions, laid).
  DERIVED. THE GIVEN ROWS OF THIS SEAT. 6 by the template 'for every input the law returns true; each argument reads behind the call as it read before'; 0 by the template 'total and deterministic' (their statements: YtmnnmndnpkanlaaTotals.lean).
  GIVEN WITH THE SEED: the statements are not yours to turn. If you find one false, say at which input.
  Laid BY PROGRAM, IN A SANDBOX (cutbox-rows.mjs): the forced cells as the released guide's own fill.sh prints them over the translation 2517f4c6745019c6… (all of the seat's roots in one cut). By AI agents, Wed Nov 11 2026. No macro, syntax, notation, axiom, sorry.
-/
import Derived.Test.YtmnnmndnpkanlaaChecked
import GoSem.Claim
import GoSem.ClaimJoined
import GoSem.ClaimMapViews
import Derived.JoinedTies
import Derived.KernelRfl
namespace Go.Proofs.Ytmnnmndnpkanlaa
/- THE CELL 'sum', in the pinned program and in every row, IS THE sha256 OF THE DUMP (.gsa) THAT YtmnnmndnpkanlaaProg.lean LOADS. Nothing in Lean hashes anything: it is a label: what it is worth is what the hold of that sum in a sandbox is worth. -/
noncomputable def Try.pinned : Pinned := { name := "ytmnnmndnpkanlaa", sum := "2517f4c6745019c6d5ff305a6ab17d597d4dfed8f85f11b31bbf66ca62ec974f", checked := Try.checked }
namespace Rows
def none {H : Type} : Left H := { results := [], args := [] }

/-- 'stepladderlaw01.ShaTells': WHATEVER THE INPUT: true; the input reads as it did. -/
def shaTellsSpec : ChangeSpec := { name := "shaTells", fn := fun _ => fun
  | [d] => { results := [.lit (.bool true)], args := [d] }
  | _ => none }
def shaTellsRow : OpenClaim := { program := "ytmnnmndnpkanlaa", sum := "2517f4c6745019c6d5ff305a6ab17d597d4dfed8f85f11b31bbf66ca62ec974f", func := "stepladder/stepladderlaw01.ShaTells", spec := "shaTells", unfollowed := true, recurses := true, apart := false }
def ShaTellsSaid : Prop := shaTellsRow.holds Try.pinned (OpenSpec.ofChange shaTellsSpec)

/-- ITS FALSE NEIGHBOUR: 'it returns false'. Refute it at one input. -/
def shaTellsWrong : ChangeSpec := { name := "shaTells", fn := fun _ => fun
  | [d] => { results := [.lit (.bool false)], args := [d] }
  | _ => none }
def ShaTellsWrongFalsely : Prop := shaTellsRow.holds Try.pinned (OpenSpec.ofChange shaTellsWrong)

/-- 'stepladderlaw01.ShaPads': WHATEVER THE INPUT: true; the input reads as it did. -/
def shaPadsSpec : ChangeSpec := { name := "shaPads", fn := fun _ => fun
  | [d] => { results := [.lit (.bool true)], args := [d] }
  | _ => none }
def shaPadsRow : OpenClaim := { program := "ytmnnmndnpkanlaa", sum := "2517f4c6745019c6d5ff305a6ab17d597d4dfed8f85f11b31bbf66ca62ec974f", func := "stepladder/stepladderlaw01.ShaPads", spec := "shaPads", unfollowed := true, recurses := true, apart := false }
def ShaPadsSaid : Prop := shaPadsRow.holds Try.pinned (OpenSpec.ofChange shaPadsSpec)

/-- ITS FALSE NEIGHBOUR: 'it returns false'. Refute it at one input. -/
def shaPadsWrong : ChangeSpec := { name := "shaPads", fn := fun _ => fun
  | [d] => { results := [.lit (.bool false)], args := [d] }
  | _ => none }
def ShaPadsWrongFalsely : Prop := shaPadsRow.holds Try.pinned (OpenSpec.ofChange shaPadsWrong)

/-- 'stepladderlaw01.ShaZero': WHATEVER THE INPUT: true; the input reads as it did. -/
def shaZeroSpec : ChangeSpec := { name := "shaZero", fn := fun _ => fun
  | [d1, d2] => { results := [.lit (.bool true)], args := [d1, d2] }
  | _ => none }
def shaZeroRow : OpenClaim := { program := "ytmnnmndnpkanlaa", sum := "2517f4c6745019c6d5ff305a6ab17d597d4dfed8f85f11b31bbf66ca62ec974f", func := "stepladder/stepladderlaw01.ShaZero", spec := "shaZero", unfollowed := true, recurses := true, apart := false }
def ShaZeroSaid : Prop := shaZeroRow.holds Try.pinned (OpenSpec.ofChange shaZeroSpec)

/-- ITS FALSE NEIGHBOUR: 'it returns false'. Refute it at one input. -/
def shaZeroWrong : ChangeSpec := { name := "shaZero", fn := fun _ => fun
  | [d1, d2] => { results := [.lit (.bool false)], args := [d1, d2] }
  | _ => none }
def ShaZeroWrongFalsely : Prop := shaZeroRow.holds Try.pinned (OpenSpec.ofChange shaZeroWrong)

/-- 'stepladderlaw01.ShaParts': WHATEVER THE INPUT: true; the input reads as it did. -/
def shaPartsSpec : ChangeSpec := { name := "shaParts", fn := fun _ => fun
  | [d1, d2] => { results := [.lit (.bool true)], args := [d1, d2] }
  | _ => none }
def shaPartsRow : OpenClaim := { program := "ytmnnmndnpkanlaa", sum := "2517f4c6745019c6d5ff305a6ab17d597d4dfed8f85f11b31bbf66ca62ec974f", func := "stepladder/stepladderlaw01.ShaParts", spec := "shaParts", unfollowed := true, recurses := true, apart := false }
def ShaPartsSaid : Prop := shaPartsRow.holds Try.pinned (OpenSpec.ofChange shaPartsSpec)

/-- ITS FALSE NEIGHBOUR: 'it returns false'. Refute it at one input. -/
def shaPartsWrong : ChangeSpec := { name := "shaParts", fn := fun _ => fun
  | [d1, d2] => { results := [.lit (.bool false)], args := [d1, d2] }
  | _ => none }
def ShaPartsWrongFalsely : Prop := shaPartsRow.holds Try.pinned (OpenSpec.ofChange shaPartsWrong)

/-- 'stepladderlaw01.ShaLess': WHATEVER THE INPUT: true; the input reads as it did. -/
def shaLessSpec : ChangeSpec := { name := "shaLess", fn := fun _ => fun
  | [d1, d2, d3] => { results := [.lit (.bool true)], args := [d1, d2, d3] }
  | _ => none }
def shaLessRow : OpenClaim := { program := "ytmnnmndnpkanlaa", sum := "2517f4c6745019c6d5ff305a6ab17d597d4dfed8f85f11b31bbf66ca62ec974f", func := "stepladder/stepladderlaw01.ShaLess", spec := "shaLess", inPlace := ["internal/bytealg.Compare"], unfollowed := true, recurses := true, apart := false }
def ShaLessSaid : Prop := shaLessRow.holds Try.pinned (OpenSpec.ofChange shaLessSpec)

/-- ITS FALSE NEIGHBOUR: 'it returns false'. Refute it at one input. -/
def shaLessWrong : ChangeSpec := { name := "shaLess", fn := fun _ => fun
  | [d1, d2, d3] => { results := [.lit (.bool false)], args := [d1, d2, d3] }
  | _ => none }
def ShaLessWrongFalsely : Prop := shaLessRow.holds Try.pinned (OpenSpec.ofChange shaLessWrong)

/-- 'stepladderlaw01.ShaEnds': WHATEVER THE INPUT: true; the input reads as it did. -/
def shaEndsSpec : ChangeSpec := { name := "shaEnds", fn := fun _ => fun
  | [d1, d2, d3] => { results := [.lit (.bool true)], args := [d1, d2, d3] }
  | _ => none }
def shaEndsRow : OpenClaim := { program := "ytmnnmndnpkanlaa", sum := "2517f4c6745019c6d5ff305a6ab17d597d4dfed8f85f11b31bbf66ca62ec974f", func := "stepladder/stepladderlaw01.ShaEnds", spec := "shaEnds", inPlace := ["internal/bytealg.Compare"], unfollowed := true, recurses := true, apart := false }
def ShaEndsSaid : Prop := shaEndsRow.holds Try.pinned (OpenSpec.ofChange shaEndsSpec)

/-- ITS FALSE NEIGHBOUR: 'it returns false'. Refute it at one input. -/
def shaEndsWrong : ChangeSpec := { name := "shaEnds", fn := fun _ => fun
  | [d1, d2, d3] => { results := [.lit (.bool false)], args := [d1, d2, d3] }
  | _ => none }
def ShaEndsWrongFalsely : Prop := shaEndsRow.holds Try.pinned (OpenSpec.ofChange shaEndsWrong)

/- THE SECOND FORM. 'bulk': how many values and letters a reading holds, each counted each time it is reached (what is shared counts as often as it is met; a slice's spare places count too). A statement '..UptoSaid' is the law's where the arguments, and the package variables that the reading takes, are together of bulk at most 1048576: NARROWER than '..Said'. Prove '..Said' where nothing that the law and all that it calls make is longer than what came in: it says more and counts as full. Else prove '..UptoSaid'. A law counts once. -/
mutual
def uptoBulk {H : Type} : DataW H → Nat
  | .lit (.string bytes) => bytes.length + 1
  | .lit _ => 1
  | .nil => 1
  | .ptr d => uptoBulk d + 1
  | .slice elems spare => uptoBulkAll elems + uptoBulkAll spare + 1
  | .agg parts => uptoBulkAll parts + 1
  | .iface _ d => uptoBulk d + 1
  | .map entries => uptoBulkEntries entries + 1
  | .held _ => 1
def uptoBulkAll {H : Type} : List (DataW H) → Nat
  | [] => 0
  | d :: r => uptoBulk d + uptoBulkAll r
def uptoBulkEntries {H : Type} : List (Lit × DataW H) → Nat
  | [] => 0
  | x :: r => uptoBulkEntry x + uptoBulkEntries r
def uptoBulkEntry {H : Type} : Lit × DataW H → Nat
  | (.string bytes, d) => bytes.length + uptoBulk d + 1
  | (_, d) => uptoBulk d + 1
 end
def uptoSmall : (H : Type) → List (DataW H) → Bool := fun _ ds => decide (uptoBulkAll ds ≤ 1048576)
def OpenSpec.upto (s : _root_.Go.ChangeSpec) : _root_.Go.OpenSpec := { _root_.Go.OpenSpec.ofChange s with cond := some uptoSmall }

/-- 'stepladderlaw01.ShaTells', WHERE WHAT IT READS IS OF BULK AT MOST 1048576: true; the input reads as it did. -/
def shaTellsUptoRow : OpenClaim := { program := "ytmnnmndnpkanlaa", sum := "2517f4c6745019c6d5ff305a6ab17d597d4dfed8f85f11b31bbf66ca62ec974f", func := "stepladder/stepladderlaw01.ShaTells", spec := "shaTells", unfollowed := true, recurses := true, apart := false, narrowed := true }
def ShaTellsUptoSaid : Prop := shaTellsUptoRow.holds Try.pinned (OpenSpec.upto shaTellsSpec)

/-- 'stepladderlaw01.ShaPads', WHERE WHAT IT READS IS OF BULK AT MOST 1048576: true; the input reads as it did. -/
def shaPadsUptoRow : OpenClaim := { program := "ytmnnmndnpkanlaa", sum := "2517f4c6745019c6d5ff305a6ab17d597d4dfed8f85f11b31bbf66ca62ec974f", func := "stepladder/stepladderlaw01.ShaPads", spec := "shaPads", unfollowed := true, recurses := true, apart := false, narrowed := true }
def ShaPadsUptoSaid : Prop := shaPadsUptoRow.holds Try.pinned (OpenSpec.upto shaPadsSpec)

/-- 'stepladderlaw01.ShaZero', WHERE WHAT IT READS IS OF BULK AT MOST 1048576: true; the input reads as it did. -/
def shaZeroUptoRow : OpenClaim := { program := "ytmnnmndnpkanlaa", sum := "2517f4c6745019c6d5ff305a6ab17d597d4dfed8f85f11b31bbf66ca62ec974f", func := "stepladder/stepladderlaw01.ShaZero", spec := "shaZero", unfollowed := true, recurses := true, apart := false, narrowed := true }
def ShaZeroUptoSaid : Prop := shaZeroUptoRow.holds Try.pinned (OpenSpec.upto shaZeroSpec)

/-- 'stepladderlaw01.ShaParts', WHERE WHAT IT READS IS OF BULK AT MOST 1048576: true; the input reads as it did. -/
def shaPartsUptoRow : OpenClaim := { program := "ytmnnmndnpkanlaa", sum := "2517f4c6745019c6d5ff305a6ab17d597d4dfed8f85f11b31bbf66ca62ec974f", func := "stepladder/stepladderlaw01.ShaParts", spec := "shaParts", unfollowed := true, recurses := true, apart := false, narrowed := true }
def ShaPartsUptoSaid : Prop := shaPartsUptoRow.holds Try.pinned (OpenSpec.upto shaPartsSpec)

/-- 'stepladderlaw01.ShaLess', WHERE WHAT IT READS IS OF BULK AT MOST 1048576: true; the input reads as it did. -/
def shaLessUptoRow : OpenClaim := { program := "ytmnnmndnpkanlaa", sum := "2517f4c6745019c6d5ff305a6ab17d597d4dfed8f85f11b31bbf66ca62ec974f", func := "stepladder/stepladderlaw01.ShaLess", spec := "shaLess", inPlace := ["internal/bytealg.Compare"], unfollowed := true, recurses := true, apart := false, narrowed := true }
def ShaLessUptoSaid : Prop := shaLessUptoRow.holds Try.pinned (OpenSpec.upto shaLessSpec)

/-- 'stepladderlaw01.ShaEnds', WHERE WHAT IT READS IS OF BULK AT MOST 1048576: true; the input reads as it did. -/
def shaEndsUptoRow : OpenClaim := { program := "ytmnnmndnpkanlaa", sum := "2517f4c6745019c6d5ff305a6ab17d597d4dfed8f85f11b31bbf66ca62ec974f", func := "stepladder/stepladderlaw01.ShaEnds", spec := "shaEnds", inPlace := ["internal/bytealg.Compare"], unfollowed := true, recurses := true, apart := false, narrowed := true }
def ShaEndsUptoSaid : Prop := shaEndsUptoRow.holds Try.pinned (OpenSpec.upto shaEndsSpec)

end Rows
end Go.Proofs.Ytmnnmndnpkanlaa
