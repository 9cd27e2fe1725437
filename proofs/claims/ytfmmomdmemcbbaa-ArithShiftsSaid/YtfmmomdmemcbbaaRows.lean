/-
  No cell of these rows narrows 'for every input' (looked for: loops, veiled, ifaces, maps, wideKeys, modest, calm, conditions, laid).
  DERIVED. THE GIVEN ROWS OF THIS SEAT. 6 by the template 'for every input the law returns true; each argument reads behind the call as it read before'; 0 by the template 'total and deterministic' (their statements: YtfmmomdmemcbbaaTotals.lean).
  GIVEN WITH THE SEED: the statements are not yours to turn. If you find one false, say at which input.
  Laid BY PROGRAM, IN A SANDBOX (cutbox-rows.mjs): the forced cells as the released guide's own fill.sh prints them over the translation ebab3950755b2eff… (all of the seat's roots in one cut). By AI agents, Wed Nov 11 2026. No macro, syntax, notation, axiom, sorry.
-/
import Derived.Test.YtfmmomdmemcbbaaChecked
import GoSem.Claim
import GoSem.ClaimJoined
import GoSem.ClaimMapViews
import Derived.JoinedTies
import Derived.KernelRfl
namespace Go.Proofs.Ytfmmomdmemcbbaa
/- THE CELL 'sum', in the pinned program and in every row, IS THE sha256 OF THE DUMP (.gsa) THAT YtfmmomdmemcbbaaProg.lean LOADS. Nothing in Lean hashes anything: it is a label: what it is worth is what the hold of that sum in a sandbox is worth. -/
noncomputable def Try.pinned : Pinned := { name := "ytfmmomdmemcbbaa", sum := "ebab3950755b2eff0f0678e83e24d3f68f81b1e98bd1e9df03c52def332c5621", checked := Try.checked }
namespace Rows
def none {H : Type} : Left H := { results := [], args := [] }

/-- 'tympanlaw18.ArithWhole': WHATEVER THE INPUT: true; the input reads as it did. -/
def arithWholeSpec : ChangeSpec := { name := "arithWhole", fn := fun _ => fun
  | [d1, d2] => { results := [.lit (.bool true)], args := [d1, d2] }
  | _ => none }
def arithWholeRow : OpenClaim := { program := "ytfmmomdmemcbbaa", sum := "ebab3950755b2eff0f0678e83e24d3f68f81b1e98bd1e9df03c52def332c5621", func := "tympan/tympanlaw18.ArithWhole", spec := "arithWhole", unfollowed := true, recurses := true, apart := false }
def ArithWholeSaid : Prop := arithWholeRow.holds Try.pinned (OpenSpec.ofChange arithWholeSpec)

/-- ITS FALSE NEIGHBOUR: 'it returns false'. Refute it at one input. -/
def arithWholeWrong : ChangeSpec := { name := "arithWhole", fn := fun _ => fun
  | [d1, d2] => { results := [.lit (.bool false)], args := [d1, d2] }
  | _ => none }
def ArithWholeWrongFalsely : Prop := arithWholeRow.holds Try.pinned (OpenSpec.ofChange arithWholeWrong)

/-- 'tympanlaw18.ArithBits': WHATEVER THE INPUT: true; the input reads as it did. -/
def arithBitsSpec : ChangeSpec := { name := "arithBits", fn := fun _ => fun
  | [d1, d2, d3, d4] => { results := [.lit (.bool true)], args := [d1, d2, d3, d4] }
  | _ => none }
def arithBitsRow : OpenClaim := { program := "ytfmmomdmemcbbaa", sum := "ebab3950755b2eff0f0678e83e24d3f68f81b1e98bd1e9df03c52def332c5621", func := "tympan/tympanlaw18.ArithBits", spec := "arithBits", unfollowed := true, recurses := true, apart := false }
def ArithBitsSaid : Prop := arithBitsRow.holds Try.pinned (OpenSpec.ofChange arithBitsSpec)

/-- ITS FALSE NEIGHBOUR: 'it returns false'. Refute it at one input. -/
def arithBitsWrong : ChangeSpec := { name := "arithBits", fn := fun _ => fun
  | [d1, d2, d3, d4] => { results := [.lit (.bool false)], args := [d1, d2, d3, d4] }
  | _ => none }
def ArithBitsWrongFalsely : Prop := arithBitsRow.holds Try.pinned (OpenSpec.ofChange arithBitsWrong)

/-- 'tympanlaw18.ArithShifts': WHATEVER THE INPUT: true; the input reads as it did. -/
def arithShiftsSpec : ChangeSpec := { name := "arithShifts", fn := fun _ => fun
  | [d1, d2] => { results := [.lit (.bool true)], args := [d1, d2] }
  | _ => none }
def arithShiftsRow : OpenClaim := { program := "ytfmmomdmemcbbaa", sum := "ebab3950755b2eff0f0678e83e24d3f68f81b1e98bd1e9df03c52def332c5621", func := "tympan/tympanlaw18.ArithShifts", spec := "arithShifts", unfollowed := true, recurses := true, apart := false }
def ArithShiftsSaid : Prop := arithShiftsRow.holds Try.pinned (OpenSpec.ofChange arithShiftsSpec)

/-- ITS FALSE NEIGHBOUR: 'it returns false'. Refute it at one input. -/
def arithShiftsWrong : ChangeSpec := { name := "arithShifts", fn := fun _ => fun
  | [d1, d2] => { results := [.lit (.bool false)], args := [d1, d2] }
  | _ => none }
def ArithShiftsWrongFalsely : Prop := arithShiftsRow.holds Try.pinned (OpenSpec.ofChange arithShiftsWrong)

/-- 'tympanlaw18.ArithMixed': WHATEVER THE INPUT: true; the input reads as it did. -/
def arithMixedSpec : ChangeSpec := { name := "arithMixed", fn := fun _ => fun
  | [d1, d2] => { results := [.lit (.bool true)], args := [d1, d2] }
  | _ => none }
def arithMixedRow : OpenClaim := { program := "ytfmmomdmemcbbaa", sum := "ebab3950755b2eff0f0678e83e24d3f68f81b1e98bd1e9df03c52def332c5621", func := "tympan/tympanlaw18.ArithMixed", spec := "arithMixed", unfollowed := true, recurses := true, apart := false }
def ArithMixedSaid : Prop := arithMixedRow.holds Try.pinned (OpenSpec.ofChange arithMixedSpec)

/-- ITS FALSE NEIGHBOUR: 'it returns false'. Refute it at one input. -/
def arithMixedWrong : ChangeSpec := { name := "arithMixed", fn := fun _ => fun
  | [d1, d2] => { results := [.lit (.bool false)], args := [d1, d2] }
  | _ => none }
def ArithMixedWrongFalsely : Prop := arithMixedRow.holds Try.pinned (OpenSpec.ofChange arithMixedWrong)

/-- 'tympanlaw18.ArithTurns': WHATEVER THE INPUT: true; the input reads as it did. -/
def arithTurnsSpec : ChangeSpec := { name := "arithTurns", fn := fun _ => fun
  | [d1, d2] => { results := [.lit (.bool true)], args := [d1, d2] }
  | _ => none }
def arithTurnsRow : OpenClaim := { program := "ytfmmomdmemcbbaa", sum := "ebab3950755b2eff0f0678e83e24d3f68f81b1e98bd1e9df03c52def332c5621", func := "tympan/tympanlaw18.ArithTurns", spec := "arithTurns", unfollowed := true, recurses := true, apart := false }
def ArithTurnsSaid : Prop := arithTurnsRow.holds Try.pinned (OpenSpec.ofChange arithTurnsSpec)

/-- ITS FALSE NEIGHBOUR: 'it returns false'. Refute it at one input. -/
def arithTurnsWrong : ChangeSpec := { name := "arithTurns", fn := fun _ => fun
  | [d1, d2] => { results := [.lit (.bool false)], args := [d1, d2] }
  | _ => none }
def ArithTurnsWrongFalsely : Prop := arithTurnsRow.holds Try.pinned (OpenSpec.ofChange arithTurnsWrong)

/-- 'tympanlaw18.ArithBelow': WHATEVER THE INPUT: true; the input reads as it did. -/
def arithBelowSpec : ChangeSpec := { name := "arithBelow", fn := fun _ => fun
  | [d1, d2, d3] => { results := [.lit (.bool true)], args := [d1, d2, d3] }
  | _ => none }
def arithBelowRow : OpenClaim := { program := "ytfmmomdmemcbbaa", sum := "ebab3950755b2eff0f0678e83e24d3f68f81b1e98bd1e9df03c52def332c5621", func := "tympan/tympanlaw18.ArithBelow", spec := "arithBelow", unfollowed := true, recurses := true, apart := false }
def ArithBelowSaid : Prop := arithBelowRow.holds Try.pinned (OpenSpec.ofChange arithBelowSpec)

/-- ITS FALSE NEIGHBOUR: 'it returns false'. Refute it at one input. -/
def arithBelowWrong : ChangeSpec := { name := "arithBelow", fn := fun _ => fun
  | [d1, d2, d3] => { results := [.lit (.bool false)], args := [d1, d2, d3] }
  | _ => none }
def ArithBelowWrongFalsely : Prop := arithBelowRow.holds Try.pinned (OpenSpec.ofChange arithBelowWrong)

/- THE SECOND FORM. 'bulk': how many values and letters a reading holds, each counted each time it is reached (what is shared counts as often as it is met; a slice's spare places count too). A statement '..UptoSaid' is the law's where the arguments, and the package variables that the reading takes, are together of bulk at most 1048576: NARROWER than '..Said'. Prove '..Said' where nothing that the law and all that it calls make is longer than what came in: it says more and counts as full. Else prove '..UptoSaid'. A law counts once. -/
mutual
def uptoBulk {H : Type} : DataW H → Nat
  | .lit (.string bytes) => bytes.length + 1
  | .lit _ => 1
  | .nil => 1
  | .ptr d => uptoBulk d + 1
  | .slice elems spare => uptoBulkAll elems + uptoBulkAll spare + 1
  | .agg parts => uptoBulkAll parts + 1
  | .iface _ d => uptoBulk d + 1
  | .map entries => uptoBulkEntries entries + 1
  | .held _ => 1
def uptoBulkAll {H : Type} : List (DataW H) → Nat
  | [] => 0
  | d :: r => uptoBulk d + uptoBulkAll r
def uptoBulkEntries {H : Type} : List (Lit × DataW H) → Nat
  | [] => 0
  | x :: r => uptoBulkEntry x + uptoBulkEntries r
def uptoBulkEntry {H : Type} : Lit × DataW H → Nat
  | (.string bytes, d) => bytes.length + uptoBulk d + 1
  | (_, d) => uptoBulk d + 1
 end
def uptoSmall : (H : Type) → List (DataW H) → Bool := fun _ ds => decide (uptoBulkAll ds ≤ 1048576)
def OpenSpec.upto (s : _root_.Go.ChangeSpec) : _root_.Go.OpenSpec := { _root_.Go.OpenSpec.ofChange s with cond := some uptoSmall }

/-- 'tympanlaw18.ArithWhole', WHERE WHAT IT READS IS OF BULK AT MOST 1048576: true; the input reads as it did. -/
def arithWholeUptoRow : OpenClaim := { program := "ytfmmomdmemcbbaa", sum := "ebab3950755b2eff0f0678e83e24d3f68f81b1e98bd1e9df03c52def332c5621", func := "tympan/tympanlaw18.ArithWhole", spec := "arithWhole", unfollowed := true, recurses := true, apart := false, narrowed := true }
def ArithWholeUptoSaid : Prop := arithWholeUptoRow.holds Try.pinned (OpenSpec.upto arithWholeSpec)

/-- 'tympanlaw18.ArithBits', WHERE WHAT IT READS IS OF BULK AT MOST 1048576: true; the input reads as it did. -/
def arithBitsUptoRow : OpenClaim := { program := "ytfmmomdmemcbbaa", sum := "ebab3950755b2eff0f0678e83e24d3f68f81b1e98bd1e9df03c52def332c5621", func := "tympan/tympanlaw18.ArithBits", spec := "arithBits", unfollowed := true, recurses := true, apart := false, narrowed := true }
def ArithBitsUptoSaid : Prop := arithBitsUptoRow.holds Try.pinned (OpenSpec.upto arithBitsSpec)

/-- 'tympanlaw18.ArithShifts', WHERE WHAT IT READS IS OF BULK AT MOST 1048576: true; the input reads as it did. -/
def arithShiftsUptoRow : OpenClaim := { program := "ytfmmomdmemcbbaa", sum := "ebab3950755b2eff0f0678e83e24d3f68f81b1e98bd1e9df03c52def332c5621", func := "tympan/tympanlaw18.ArithShifts", spec := "arithShifts", unfollowed := true, recurses := true, apart := false, narrowed := true }
def ArithShiftsUptoSaid : Prop := arithShiftsUptoRow.holds Try.pinned (OpenSpec.upto arithShiftsSpec)

/-- 'tympanlaw18.ArithMixed', WHERE WHAT IT READS IS OF BULK AT MOST 1048576: true; the input reads as it did. -/
def arithMixedUptoRow : OpenClaim := { program := "ytfmmomdmemcbbaa", sum := "ebab3950755b2eff0f0678e83e24d3f68f81b1e98bd1e9df03c52def332c5621", func := "tympan/tympanlaw18.ArithMixed", spec := "arithMixed", unfollowed := true, recurses := true, apart := false, narrowed := true }
def ArithMixedUptoSaid : Prop := arithMixedUptoRow.holds Try.pinned (OpenSpec.upto arithMixedSpec)

/-- 'tympanlaw18.ArithTurns', WHERE WHAT IT READS IS OF BULK AT MOST 1048576: true; the input reads as it did. -/
def arithTurnsUptoRow : OpenClaim := { program := "ytfmmomdmemcbbaa", sum := "ebab3950755b2eff0f0678e83e24d3f68f81b1e98bd1e9df03c52def332c5621", func := "tympan/tympanlaw18.ArithTurns", spec := "arithTurns", unfollowed := true, recurses := true, apart := false, narrowed := true }
def ArithTurnsUptoSaid : Prop := arithTurnsUptoRow.holds Try.pinned (OpenSpec.upto arithTurnsSpec)

/-- 'tympanlaw18.ArithBelow', WHERE WHAT IT READS IS OF BULK AT MOST 1048576: true; the input reads as it did. -/
def arithBelowUptoRow : OpenClaim := { program := "ytfmmomdmemcbbaa", sum := "ebab3950755b2eff0f0678e83e24d3f68f81b1e98bd1e9df03c52def332c5621", func := "tympan/tympanlaw18.ArithBelow", spec := "arithBelow", unfollowed := true, recurses := true, apart := false, narrowed := true }
def ArithBelowUptoSaid : Prop := arithBelowUptoRow.holds Try.pinned (OpenSpec.upto arithBelowSpec)

end Rows
end Go.Proofs.Ytfmmomdmemcbbaa
