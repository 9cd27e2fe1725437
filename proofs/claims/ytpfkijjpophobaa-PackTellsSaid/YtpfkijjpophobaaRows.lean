/-
  No cell of these rows narrows 'for every input' (looked for: loops, veiled, ifaces, maps, wideKeys, modest, calm, conditions, laid).
  DERIVED. THE GIVEN ROWS OF THIS SEAT. 9 by the template 'for every input the law returns true; each argument reads behind the call as it read before'; 0 by the template 'total and deterministic' (their statements: YtpfkijjpophobaaTotals.lean).
  GIVEN WITH THE SEED: the statements are not yours to turn. If you find one false, say at which input.
  Laid BY PROGRAM, IN A SANDBOX (cutbox-rows.mjs): the forced cells as the released guide's own fill.sh prints them over the translation 0d0faf83d8010f94… (all of the seat's roots in one cut). By AI agents, Wed Nov 11 2026. No macro, syntax, notation, axiom, sorry.
-/
import Derived.Test.YtpfkijjpophobaaChecked
import GoSem.Claim
import GoSem.ClaimJoined
import GoSem.ClaimMapViews
import Derived.JoinedTies
import Derived.KernelRfl
namespace Go.Proofs.Ytpfkijjpophobaa
/- THE CELL 'sum', in the pinned program and in every row, IS THE sha256 OF THE DUMP (.gsa) THAT YtpfkijjpophobaaProg.lean LOADS. Nothing in Lean hashes anything: it is a label: what it is worth is what the hold of that sum in a sandbox is worth. -/
noncomputable def Try.pinned : Pinned := { name := "ytpfkijjpophobaa", sum := "0d0faf83d8010f94d6341614d4adbed82b353f6466b1b847adc224d87830f230", checked := Try.checked }
namespace Rows
def none {H : Type} : Left H := { results := [], args := [] }

/-- 'tympanlaw6.NumtextBack': WHATEVER THE INPUT: true; the input reads as it did. -/
def numtextBackSpec : ChangeSpec := { name := "numtextBack", fn := fun _ => fun
  | [d] => { results := [.lit (.bool true)], args := [d] }
  | _ => none }
def numtextBackRow : OpenClaim := { program := "ytpfkijjpophobaa", sum := "0d0faf83d8010f94d6341614d4adbed82b353f6466b1b847adc224d87830f230", func := "tympan/tympanlaw6.NumtextBack", spec := "numtextBack", unfollowed := true, recurses := true, apart := false }
def NumtextBackSaid : Prop := numtextBackRow.holds Try.pinned (OpenSpec.ofChange numtextBackSpec)

/-- ITS FALSE NEIGHBOUR: 'it returns false'. Refute it at one input. -/
def numtextBackWrong : ChangeSpec := { name := "numtextBack", fn := fun _ => fun
  | [d] => { results := [.lit (.bool false)], args := [d] }
  | _ => none }
def NumtextBackWrongFalsely : Prop := numtextBackRow.holds Try.pinned (OpenSpec.ofChange numtextBackWrong)

/-- 'tympanlaw6.NumtextShort': WHATEVER THE INPUT: true; the input reads as it did. -/
def numtextShortSpec : ChangeSpec := { name := "numtextShort", fn := fun _ => fun
  | [d] => { results := [.lit (.bool true)], args := [d] }
  | _ => none }
def numtextShortRow : OpenClaim := { program := "ytpfkijjpophobaa", sum := "0d0faf83d8010f94d6341614d4adbed82b353f6466b1b847adc224d87830f230", func := "tympan/tympanlaw6.NumtextShort", spec := "numtextShort", unfollowed := true, recurses := true, apart := false }
def NumtextShortSaid : Prop := numtextShortRow.holds Try.pinned (OpenSpec.ofChange numtextShortSpec)

/-- ITS FALSE NEIGHBOUR: 'it returns false'. Refute it at one input. -/
def numtextShortWrong : ChangeSpec := { name := "numtextShort", fn := fun _ => fun
  | [d] => { results := [.lit (.bool false)], args := [d] }
  | _ => none }
def NumtextShortWrongFalsely : Prop := numtextShortRow.holds Try.pinned (OpenSpec.ofChange numtextShortWrong)

/-- 'tympanlaw6.NumtextBases': WHATEVER THE INPUT: true; the input reads as it did. -/
def numtextBasesSpec : ChangeSpec := { name := "numtextBases", fn := fun _ => fun
  | [d1, d2, d3, d4] => { results := [.lit (.bool true)], args := [d1, d2, d3, d4] }
  | _ => none }
def numtextBasesRow : OpenClaim := { program := "ytpfkijjpophobaa", sum := "0d0faf83d8010f94d6341614d4adbed82b353f6466b1b847adc224d87830f230", func := "tympan/tympanlaw6.NumtextBases", spec := "numtextBases", unfollowed := true, recurses := true, apart := false }
def NumtextBasesSaid : Prop := numtextBasesRow.holds Try.pinned (OpenSpec.ofChange numtextBasesSpec)

/-- ITS FALSE NEIGHBOUR: 'it returns false'. Refute it at one input. -/
def numtextBasesWrong : ChangeSpec := { name := "numtextBases", fn := fun _ => fun
  | [d1, d2, d3, d4] => { results := [.lit (.bool false)], args := [d1, d2, d3, d4] }
  | _ => none }
def NumtextBasesWrongFalsely : Prop := numtextBasesRow.holds Try.pinned (OpenSpec.ofChange numtextBasesWrong)

/-- 'tympanlaw6.NumtextParts': WHATEVER THE INPUT: true; the input reads as it did. -/
def numtextPartsSpec : ChangeSpec := { name := "numtextParts", fn := fun _ => fun
  | [d1, d2, d3, d4] => { results := [.lit (.bool true)], args := [d1, d2, d3, d4] }
  | _ => none }
def numtextPartsRow : OpenClaim := { program := "ytpfkijjpophobaa", sum := "0d0faf83d8010f94d6341614d4adbed82b353f6466b1b847adc224d87830f230", func := "tympan/tympanlaw6.NumtextParts", spec := "numtextParts", unfollowed := true, recurses := true, apart := false }
def NumtextPartsSaid : Prop := numtextPartsRow.holds Try.pinned (OpenSpec.ofChange numtextPartsSpec)

/-- ITS FALSE NEIGHBOUR: 'it returns false'. Refute it at one input. -/
def numtextPartsWrong : ChangeSpec := { name := "numtextParts", fn := fun _ => fun
  | [d1, d2, d3, d4] => { results := [.lit (.bool false)], args := [d1, d2, d3, d4] }
  | _ => none }
def NumtextPartsWrongFalsely : Prop := numtextPartsRow.holds Try.pinned (OpenSpec.ofChange numtextPartsWrong)

/-- 'tympanlaw6.NumtextTells': WHATEVER THE INPUT: true; the input reads as it did. -/
def numtextTellsSpec : ChangeSpec := { name := "numtextTells", fn := fun _ => fun
  | [d1, d2] => { results := [.lit (.bool true)], args := [d1, d2] }
  | _ => none }
def numtextTellsRow : OpenClaim := { program := "ytpfkijjpophobaa", sum := "0d0faf83d8010f94d6341614d4adbed82b353f6466b1b847adc224d87830f230", func := "tympan/tympanlaw6.NumtextTells", spec := "numtextTells", unfollowed := true, recurses := true, named := ["math/bits.divideError", "math/bits.overflowError"], apart := false }
def NumtextTellsSaid : Prop := numtextTellsRow.holds Try.pinned (OpenSpec.ofChange numtextTellsSpec)

/-- ITS FALSE NEIGHBOUR: 'it returns false'. Refute it at one input. -/
def numtextTellsWrong : ChangeSpec := { name := "numtextTells", fn := fun _ => fun
  | [d1, d2] => { results := [.lit (.bool false)], args := [d1, d2] }
  | _ => none }
def NumtextTellsWrongFalsely : Prop := numtextTellsRow.holds Try.pinned (OpenSpec.ofChange numtextTellsWrong)

/-- 'tympanlaw9.PackBack': WHATEVER THE INPUT: true; the input reads as it did. -/
def packBackSpec : ChangeSpec := { name := "packBack", fn := fun _ => fun
  | [d1, d2] => { results := [.lit (.bool true)], args := [d1, d2] }
  | _ => none }
def packBackRow : OpenClaim := { program := "ytpfkijjpophobaa", sum := "0d0faf83d8010f94d6341614d4adbed82b353f6466b1b847adc224d87830f230", func := "tympan/tympanlaw9.PackBack", spec := "packBack", unfollowed := true, recurses := true, apart := false }
def PackBackSaid : Prop := packBackRow.holds Try.pinned (OpenSpec.ofChange packBackSpec)

/-- ITS FALSE NEIGHBOUR: 'it returns false'. Refute it at one input. -/
def packBackWrong : ChangeSpec := { name := "packBack", fn := fun _ => fun
  | [d1, d2] => { results := [.lit (.bool false)], args := [d1, d2] }
  | _ => none }
def PackBackWrongFalsely : Prop := packBackRow.holds Try.pinned (OpenSpec.ofChange packBackWrong)

/-- 'tympanlaw9.PackCut': WHATEVER THE INPUT: true; the input reads as it did. -/
def packCutSpec : ChangeSpec := { name := "packCut", fn := fun _ => fun
  | [d1, d2] => { results := [.lit (.bool true)], args := [d1, d2] }
  | _ => none }
def packCutRow : OpenClaim := { program := "ytpfkijjpophobaa", sum := "0d0faf83d8010f94d6341614d4adbed82b353f6466b1b847adc224d87830f230", func := "tympan/tympanlaw9.PackCut", spec := "packCut", unfollowed := true, recurses := true, apart := false }
def PackCutSaid : Prop := packCutRow.holds Try.pinned (OpenSpec.ofChange packCutSpec)

/-- ITS FALSE NEIGHBOUR: 'it returns false'. Refute it at one input. -/
def packCutWrong : ChangeSpec := { name := "packCut", fn := fun _ => fun
  | [d1, d2] => { results := [.lit (.bool false)], args := [d1, d2] }
  | _ => none }
def PackCutWrongFalsely : Prop := packCutRow.holds Try.pinned (OpenSpec.ofChange packCutWrong)

/-- 'tympanlaw9.PackShort': WHATEVER THE INPUT: true; the input reads as it did. -/
def packShortSpec : ChangeSpec := { name := "packShort", fn := fun _ => fun
  | [d1, d2] => { results := [.lit (.bool true)], args := [d1, d2] }
  | _ => none }
def packShortRow : OpenClaim := { program := "ytpfkijjpophobaa", sum := "0d0faf83d8010f94d6341614d4adbed82b353f6466b1b847adc224d87830f230", func := "tympan/tympanlaw9.PackShort", spec := "packShort", unfollowed := true, recurses := true, apart := false }
def PackShortSaid : Prop := packShortRow.holds Try.pinned (OpenSpec.ofChange packShortSpec)

/-- ITS FALSE NEIGHBOUR: 'it returns false'. Refute it at one input. -/
def packShortWrong : ChangeSpec := { name := "packShort", fn := fun _ => fun
  | [d1, d2] => { results := [.lit (.bool false)], args := [d1, d2] }
  | _ => none }
def PackShortWrongFalsely : Prop := packShortRow.holds Try.pinned (OpenSpec.ofChange packShortWrong)

/-- 'tympanlaw9.PackTells': WHATEVER THE INPUT: true; the input reads as it did. -/
def packTellsSpec : ChangeSpec := { name := "packTells", fn := fun _ => fun
  | [d1, d2] => { results := [.lit (.bool true)], args := [d1, d2] }
  | _ => none }
def packTellsRow : OpenClaim := { program := "ytpfkijjpophobaa", sum := "0d0faf83d8010f94d6341614d4adbed82b353f6466b1b847adc224d87830f230", func := "tympan/tympanlaw9.PackTells", spec := "packTells", unfollowed := true, recurses := true, named := ["math/bits.divideError", "math/bits.overflowError"], apart := false }
def PackTellsSaid : Prop := packTellsRow.holds Try.pinned (OpenSpec.ofChange packTellsSpec)

/-- ITS FALSE NEIGHBOUR: 'it returns false'. Refute it at one input. -/
def packTellsWrong : ChangeSpec := { name := "packTells", fn := fun _ => fun
  | [d1, d2] => { results := [.lit (.bool false)], args := [d1, d2] }
  | _ => none }
def PackTellsWrongFalsely : Prop := packTellsRow.holds Try.pinned (OpenSpec.ofChange packTellsWrong)

/- THE SECOND FORM. 'bulk': how many values and letters a reading holds, each counted each time it is reached (what is shared counts as often as it is met; a slice's spare places count too). A statement '..UptoSaid' is the law's where the arguments, and the package variables that the reading takes, are together of bulk at most 1048576: NARROWER than '..Said'. Prove '..Said' where nothing that the law and all that it calls make is longer than what came in: it says more and counts as full. Else prove '..UptoSaid'. A law counts once. -/
mutual
def uptoBulk {H : Type} : DataW H → Nat
  | .lit (.string bytes) => bytes.length + 1
  | .lit _ => 1
  | .nil => 1
  | .ptr d => uptoBulk d + 1
  | .slice elems spare => uptoBulkAll elems + uptoBulkAll spare + 1
  | .agg parts => uptoBulkAll parts + 1
  | .iface _ d => uptoBulk d + 1
  | .map entries => uptoBulkEntries entries + 1
  | .held _ => 1
def uptoBulkAll {H : Type} : List (DataW H) → Nat
  | [] => 0
  | d :: r => uptoBulk d + uptoBulkAll r
def uptoBulkEntries {H : Type} : List (Lit × DataW H) → Nat
  | [] => 0
  | x :: r => uptoBulkEntry x + uptoBulkEntries r
def uptoBulkEntry {H : Type} : Lit × DataW H → Nat
  | (.string bytes, d) => bytes.length + uptoBulk d + 1
  | (_, d) => uptoBulk d + 1
 end
def uptoSmall : (H : Type) → List (DataW H) → Bool := fun _ ds => decide (uptoBulkAll ds ≤ 1048576)
def OpenSpec.upto (s : _root_.Go.ChangeSpec) : _root_.Go.OpenSpec := { _root_.Go.OpenSpec.ofChange s with cond := some uptoSmall }

/-- 'tympanlaw6.NumtextBack', WHERE WHAT IT READS IS OF BULK AT MOST 1048576: true; the input reads as it did. -/
def numtextBackUptoRow : OpenClaim := { program := "ytpfkijjpophobaa", sum := "0d0faf83d8010f94d6341614d4adbed82b353f6466b1b847adc224d87830f230", func := "tympan/tympanlaw6.NumtextBack", spec := "numtextBack", unfollowed := true, recurses := true, apart := false, narrowed := true }
def NumtextBackUptoSaid : Prop := numtextBackUptoRow.holds Try.pinned (OpenSpec.upto numtextBackSpec)

/-- 'tympanlaw6.NumtextShort', WHERE WHAT IT READS IS OF BULK AT MOST 1048576: true; the input reads as it did. -/
def numtextShortUptoRow : OpenClaim := { program := "ytpfkijjpophobaa", sum := "0d0faf83d8010f94d6341614d4adbed82b353f6466b1b847adc224d87830f230", func := "tympan/tympanlaw6.NumtextShort", spec := "numtextShort", unfollowed := true, recurses := true, apart := false, narrowed := true }
def NumtextShortUptoSaid : Prop := numtextShortUptoRow.holds Try.pinned (OpenSpec.upto numtextShortSpec)

/-- 'tympanlaw6.NumtextBases', WHERE WHAT IT READS IS OF BULK AT MOST 1048576: true; the input reads as it did. -/
def numtextBasesUptoRow : OpenClaim := { program := "ytpfkijjpophobaa", sum := "0d0faf83d8010f94d6341614d4adbed82b353f6466b1b847adc224d87830f230", func := "tympan/tympanlaw6.NumtextBases", spec := "numtextBases", unfollowed := true, recurses := true, apart := false, narrowed := true }
def NumtextBasesUptoSaid : Prop := numtextBasesUptoRow.holds Try.pinned (OpenSpec.upto numtextBasesSpec)

/-- 'tympanlaw6.NumtextParts', WHERE WHAT IT READS IS OF BULK AT MOST 1048576: true; the input reads as it did. -/
def numtextPartsUptoRow : OpenClaim := { program := "ytpfkijjpophobaa", sum := "0d0faf83d8010f94d6341614d4adbed82b353f6466b1b847adc224d87830f230", func := "tympan/tympanlaw6.NumtextParts", spec := "numtextParts", unfollowed := true, recurses := true, apart := false, narrowed := true }
def NumtextPartsUptoSaid : Prop := numtextPartsUptoRow.holds Try.pinned (OpenSpec.upto numtextPartsSpec)

/-- 'tympanlaw6.NumtextTells', WHERE WHAT IT READS IS OF BULK AT MOST 1048576: true; the input reads as it did. -/
def numtextTellsUptoRow : OpenClaim := { program := "ytpfkijjpophobaa", sum := "0d0faf83d8010f94d6341614d4adbed82b353f6466b1b847adc224d87830f230", func := "tympan/tympanlaw6.NumtextTells", spec := "numtextTells", unfollowed := true, recurses := true, named := ["math/bits.divideError", "math/bits.overflowError"], apart := false, narrowed := true }
def NumtextTellsUptoSaid : Prop := numtextTellsUptoRow.holds Try.pinned (OpenSpec.upto numtextTellsSpec)

/-- 'tympanlaw9.PackBack', WHERE WHAT IT READS IS OF BULK AT MOST 1048576: true; the input reads as it did. -/
def packBackUptoRow : OpenClaim := { program := "ytpfkijjpophobaa", sum := "0d0faf83d8010f94d6341614d4adbed82b353f6466b1b847adc224d87830f230", func := "tympan/tympanlaw9.PackBack", spec := "packBack", unfollowed := true, recurses := true, apart := false, narrowed := true }
def PackBackUptoSaid : Prop := packBackUptoRow.holds Try.pinned (OpenSpec.upto packBackSpec)

/-- 'tympanlaw9.PackCut', WHERE WHAT IT READS IS OF BULK AT MOST 1048576: true; the input reads as it did. -/
def packCutUptoRow : OpenClaim := { program := "ytpfkijjpophobaa", sum := "0d0faf83d8010f94d6341614d4adbed82b353f6466b1b847adc224d87830f230", func := "tympan/tympanlaw9.PackCut", spec := "packCut", unfollowed := true, recurses := true, apart := false, narrowed := true }
def PackCutUptoSaid : Prop := packCutUptoRow.holds Try.pinned (OpenSpec.upto packCutSpec)

/-- 'tympanlaw9.PackShort', WHERE WHAT IT READS IS OF BULK AT MOST 1048576: true; the input reads as it did. -/
def packShortUptoRow : OpenClaim := { program := "ytpfkijjpophobaa", sum := "0d0faf83d8010f94d6341614d4adbed82b353f6466b1b847adc224d87830f230", func := "tympan/tympanlaw9.PackShort", spec := "packShort", unfollowed := true, recurses := true, apart := false, narrowed := true }
def PackShortUptoSaid : Prop := packShortUptoRow.holds Try.pinned (OpenSpec.upto packShortSpec)

/-- 'tympanlaw9.PackTells', WHERE WHAT IT READS IS OF BULK AT MOST 1048576: true; the input reads as it did. -/
def packTellsUptoRow : OpenClaim := { program := "ytpfkijjpophobaa", sum := "0d0faf83d8010f94d6341614d4adbed82b353f6466b1b847adc224d87830f230", func := "tympan/tympanlaw9.PackTells", spec := "packTells", unfollowed := true, recurses := true, named := ["math/bits.divideError", "math/bits.overflowError"], apart := false, narrowed := true }
def PackTellsUptoSaid : Prop := packTellsUptoRow.holds Try.pinned (OpenSpec.upto packTellsSpec)

end Rows
end Go.Proofs.Ytpfkijjpophobaa
