/-
  No cell of these rows narrows 'for every input' (looked for: loops, veiled, ifaces, maps, wideKeys, modest, calm, conditions, laid).
  DERIVED. THE GIVEN ROWS OF THIS SEAT. 10 by the template 'for every input the law returns true; each argument reads behind the call as it read before'; 0 by the template 'total and deterministic' (their statements: YtnienpalbfgflaaTotals.lean).
  GIVEN WITH THE SEED: the statements are not yours to turn. If you find one false, say at which input.
  Laid BY PROGRAM, IN A SANDBOX (cutbox-rows.mjs): the forced cells as the released guide's own fill.sh prints them over the translation 6d3896d6d0756448… (all of the seat's roots in one cut). By AI agents, Wed Nov 11 2026. No macro, syntax, notation, axiom, sorry.
-/
import Derived.Test.YtnienpalbfgflaaChecked
import GoSem.Claim
import GoSem.ClaimJoined
import GoSem.ClaimMapViews
import Derived.JoinedTies
import Derived.KernelRfl
namespace Go.Proofs.Ytnienpalbfgflaa
/- THE CELL 'sum', in the pinned program and in every row, IS THE sha256 OF THE DUMP (.gsa) THAT YtnienpalbfgflaaProg.lean LOADS. Nothing in Lean hashes anything: it is a label: what it is worth is what the hold of that sum in a sandbox is worth. -/
noncomputable def Try.pinned : Pinned := { name := "ytnienpalbfgflaa", sum := "6d3896d6d075644808fe405b29e9305c612319c9f9dca84e640aca8f0e830ace", checked := Try.checked }
namespace Rows
def none {H : Type} : Left H := { results := [], args := [] }

/-- 'tympanlaw26.BowCounts': WHATEVER THE INPUT: true; the input reads as it did. -/
def bowCountsSpec : ChangeSpec := { name := "bowCounts", fn := fun _ => fun
  | [d1, d2] => { results := [.lit (.bool true)], args := [d1, d2] }
  | _ => none }
def bowCountsRow : OpenClaim := { program := "ytnienpalbfgflaa", sum := "6d3896d6d075644808fe405b29e9305c612319c9f9dca84e640aca8f0e830ace", func := "tympan/tympanlaw26.BowCounts", spec := "bowCounts", apart := false }
def BowCountsSaid : Prop := bowCountsRow.holds Try.pinned (OpenSpec.ofChange bowCountsSpec)

/-- ITS FALSE NEIGHBOUR: 'it returns false'. Refute it at one input. -/
def bowCountsWrong : ChangeSpec := { name := "bowCounts", fn := fun _ => fun
  | [d1, d2] => { results := [.lit (.bool false)], args := [d1, d2] }
  | _ => none }
def BowCountsWrongFalsely : Prop := bowCountsRow.holds Try.pinned (OpenSpec.ofChange bowCountsWrong)

/-- 'tympanlaw26.BowRounds': WHATEVER THE INPUT: true; the input reads as it did. -/
def bowRoundsSpec : ChangeSpec := { name := "bowRounds", fn := fun _ => fun
  | [d1, d2] => { results := [.lit (.bool true)], args := [d1, d2] }
  | _ => none }
def bowRoundsRow : OpenClaim := { program := "ytnienpalbfgflaa", sum := "6d3896d6d075644808fe405b29e9305c612319c9f9dca84e640aca8f0e830ace", func := "tympan/tympanlaw26.BowRounds", spec := "bowRounds", apart := false }
def BowRoundsSaid : Prop := bowRoundsRow.holds Try.pinned (OpenSpec.ofChange bowRoundsSpec)

/-- ITS FALSE NEIGHBOUR: 'it returns false'. Refute it at one input. -/
def bowRoundsWrong : ChangeSpec := { name := "bowRounds", fn := fun _ => fun
  | [d1, d2] => { results := [.lit (.bool false)], args := [d1, d2] }
  | _ => none }
def BowRoundsWrongFalsely : Prop := bowRoundsRow.holds Try.pinned (OpenSpec.ofChange bowRoundsWrong)

/-- 'tympanlaw26.BowChord': WHATEVER THE INPUT: true; the input reads as it did. -/
def bowChordSpec : ChangeSpec := { name := "bowChord", fn := fun _ => fun
  | [d1, d2] => { results := [.lit (.bool true)], args := [d1, d2] }
  | _ => none }
def bowChordRow : OpenClaim := { program := "ytnienpalbfgflaa", sum := "6d3896d6d075644808fe405b29e9305c612319c9f9dca84e640aca8f0e830ace", func := "tympan/tympanlaw26.BowChord", spec := "bowChord", apart := false }
def BowChordSaid : Prop := bowChordRow.holds Try.pinned (OpenSpec.ofChange bowChordSpec)

/-- ITS FALSE NEIGHBOUR: 'it returns false'. Refute it at one input. -/
def bowChordWrong : ChangeSpec := { name := "bowChord", fn := fun _ => fun
  | [d1, d2] => { results := [.lit (.bool false)], args := [d1, d2] }
  | _ => none }
def BowChordWrongFalsely : Prop := bowChordRow.holds Try.pinned (OpenSpec.ofChange bowChordWrong)

/-- 'tympanlaw26.BowStraight': WHATEVER THE INPUT: true; the input reads as it did. -/
def bowStraightSpec : ChangeSpec := { name := "bowStraight", fn := fun _ => fun
  | [d1, d2, d3, d4] => { results := [.lit (.bool true)], args := [d1, d2, d3, d4] }
  | _ => none }
def bowStraightRow : OpenClaim := { program := "ytnienpalbfgflaa", sum := "6d3896d6d075644808fe405b29e9305c612319c9f9dca84e640aca8f0e830ace", func := "tympan/tympanlaw26.BowStraight", spec := "bowStraight", apart := false }
def BowStraightSaid : Prop := bowStraightRow.holds Try.pinned (OpenSpec.ofChange bowStraightSpec)

/-- ITS FALSE NEIGHBOUR: 'it returns false'. Refute it at one input. -/
def bowStraightWrong : ChangeSpec := { name := "bowStraight", fn := fun _ => fun
  | [d1, d2, d3, d4] => { results := [.lit (.bool false)], args := [d1, d2, d3, d4] }
  | _ => none }
def BowStraightWrongFalsely : Prop := bowStraightRow.holds Try.pinned (OpenSpec.ofChange bowStraightWrong)

/-- 'tympanlaw26.BowCuts': WHATEVER THE INPUT: true; the input reads as it did. -/
def bowCutsSpec : ChangeSpec := { name := "bowCuts", fn := fun _ => fun
  | [d1, d2, d3] => { results := [.lit (.bool true)], args := [d1, d2, d3] }
  | _ => none }
def bowCutsRow : OpenClaim := { program := "ytnienpalbfgflaa", sum := "6d3896d6d075644808fe405b29e9305c612319c9f9dca84e640aca8f0e830ace", func := "tympan/tympanlaw26.BowCuts", spec := "bowCuts", apart := false }
def BowCutsSaid : Prop := bowCutsRow.holds Try.pinned (OpenSpec.ofChange bowCutsSpec)

/-- ITS FALSE NEIGHBOUR: 'it returns false'. Refute it at one input. -/
def bowCutsWrong : ChangeSpec := { name := "bowCuts", fn := fun _ => fun
  | [d1, d2, d3] => { results := [.lit (.bool false)], args := [d1, d2, d3] }
  | _ => none }
def BowCutsWrongFalsely : Prop := bowCutsRow.holds Try.pinned (OpenSpec.ofChange bowCutsWrong)

/-- 'tympanlaw26.BowFlips': WHATEVER THE INPUT: true; the input reads as it did. -/
def bowFlipsSpec : ChangeSpec := { name := "bowFlips", fn := fun _ => fun
  | [d1, d2, d3, d4] => { results := [.lit (.bool true)], args := [d1, d2, d3, d4] }
  | _ => none }
def bowFlipsRow : OpenClaim := { program := "ytnienpalbfgflaa", sum := "6d3896d6d075644808fe405b29e9305c612319c9f9dca84e640aca8f0e830ace", func := "tympan/tympanlaw26.BowFlips", spec := "bowFlips", apart := false }
def BowFlipsSaid : Prop := bowFlipsRow.holds Try.pinned (OpenSpec.ofChange bowFlipsSpec)

/-- ITS FALSE NEIGHBOUR: 'it returns false'. Refute it at one input. -/
def bowFlipsWrong : ChangeSpec := { name := "bowFlips", fn := fun _ => fun
  | [d1, d2, d3, d4] => { results := [.lit (.bool false)], args := [d1, d2, d3, d4] }
  | _ => none }
def BowFlipsWrongFalsely : Prop := bowFlipsRow.holds Try.pinned (OpenSpec.ofChange bowFlipsWrong)

/-- 'tympanlaw26.BowMoves': WHATEVER THE INPUT: true; the input reads as it did. -/
def bowMovesSpec : ChangeSpec := { name := "bowMoves", fn := fun _ => fun
  | [d1, d2, d3, d4, d5] => { results := [.lit (.bool true)], args := [d1, d2, d3, d4, d5] }
  | _ => none }
def bowMovesRow : OpenClaim := { program := "ytnienpalbfgflaa", sum := "6d3896d6d075644808fe405b29e9305c612319c9f9dca84e640aca8f0e830ace", func := "tympan/tympanlaw26.BowMoves", spec := "bowMoves", apart := false }
def BowMovesSaid : Prop := bowMovesRow.holds Try.pinned (OpenSpec.ofChange bowMovesSpec)

/-- ITS FALSE NEIGHBOUR: 'it returns false'. Refute it at one input. -/
def bowMovesWrong : ChangeSpec := { name := "bowMoves", fn := fun _ => fun
  | [d1, d2, d3, d4, d5] => { results := [.lit (.bool false)], args := [d1, d2, d3, d4, d5] }
  | _ => none }
def BowMovesWrongFalsely : Prop := bowMovesRow.holds Try.pinned (OpenSpec.ofChange bowMovesWrong)

/-- 'tympanlaw26.BowHalves': WHATEVER THE INPUT: true; the input reads as it did. -/
def bowHalvesSpec : ChangeSpec := { name := "bowHalves", fn := fun _ => fun
  | [d1, d2, d3] => { results := [.lit (.bool true)], args := [d1, d2, d3] }
  | _ => none }
def bowHalvesRow : OpenClaim := { program := "ytnienpalbfgflaa", sum := "6d3896d6d075644808fe405b29e9305c612319c9f9dca84e640aca8f0e830ace", func := "tympan/tympanlaw26.BowHalves", spec := "bowHalves", apart := false }
def BowHalvesSaid : Prop := bowHalvesRow.holds Try.pinned (OpenSpec.ofChange bowHalvesSpec)

/-- ITS FALSE NEIGHBOUR: 'it returns false'. Refute it at one input. -/
def bowHalvesWrong : ChangeSpec := { name := "bowHalves", fn := fun _ => fun
  | [d1, d2, d3] => { results := [.lit (.bool false)], args := [d1, d2, d3] }
  | _ => none }
def BowHalvesWrongFalsely : Prop := bowHalvesRow.holds Try.pinned (OpenSpec.ofChange bowHalvesWrong)

/-- 'tympanlaw26.BowQuarters': WHATEVER THE INPUT: true; the input reads as it did. -/
def bowQuartersSpec : ChangeSpec := { name := "bowQuarters", fn := fun _ => fun
  | [d1, d2, d3] => { results := [.lit (.bool true)], args := [d1, d2, d3] }
  | _ => none }
def bowQuartersRow : OpenClaim := { program := "ytnienpalbfgflaa", sum := "6d3896d6d075644808fe405b29e9305c612319c9f9dca84e640aca8f0e830ace", func := "tympan/tympanlaw26.BowQuarters", spec := "bowQuarters", apart := false }
def BowQuartersSaid : Prop := bowQuartersRow.holds Try.pinned (OpenSpec.ofChange bowQuartersSpec)

/-- ITS FALSE NEIGHBOUR: 'it returns false'. Refute it at one input. -/
def bowQuartersWrong : ChangeSpec := { name := "bowQuarters", fn := fun _ => fun
  | [d1, d2, d3] => { results := [.lit (.bool false)], args := [d1, d2, d3] }
  | _ => none }
def BowQuartersWrongFalsely : Prop := bowQuartersRow.holds Try.pinned (OpenSpec.ofChange bowQuartersWrong)

/-- 'tympanlaw26.BowSays': WHATEVER THE INPUT: true; the input reads as it did. -/
def bowSaysSpec : ChangeSpec := { name := "bowSays", fn := fun _ => fun
  | [d1, d2, d3, d4] => { results := [.lit (.bool true)], args := [d1, d2, d3, d4] }
  | _ => none }
def bowSaysRow : OpenClaim := { program := "ytnienpalbfgflaa", sum := "6d3896d6d075644808fe405b29e9305c612319c9f9dca84e640aca8f0e830ace", func := "tympan/tympanlaw26.BowSays", spec := "bowSays", apart := false }
def BowSaysSaid : Prop := bowSaysRow.holds Try.pinned (OpenSpec.ofChange bowSaysSpec)

/-- ITS FALSE NEIGHBOUR: 'it returns false'. Refute it at one input. -/
def bowSaysWrong : ChangeSpec := { name := "bowSays", fn := fun _ => fun
  | [d1, d2, d3, d4] => { results := [.lit (.bool false)], args := [d1, d2, d3, d4] }
  | _ => none }
def BowSaysWrongFalsely : Prop := bowSaysRow.holds Try.pinned (OpenSpec.ofChange bowSaysWrong)

/- THE SECOND FORM. 'bulk': how many values and letters a reading holds, each counted each time it is reached (what is shared counts as often as it is met; a slice's spare places count too). A statement '..UptoSaid' is the law's where the arguments, and the package variables that the reading takes, are together of bulk at most 1048576: NARROWER than '..Said'. Prove '..Said' where nothing that the law and all that it calls make is longer than what came in: it says more and counts as full. Else prove '..UptoSaid'. A law counts once. -/
mutual
def uptoBulk {H : Type} : DataW H → Nat
  | .lit (.string bytes) => bytes.length + 1
  | .lit _ => 1
  | .nil => 1
  | .ptr d => uptoBulk d + 1
  | .slice elems spare => uptoBulkAll elems + uptoBulkAll spare + 1
  | .agg parts => uptoBulkAll parts + 1
  | .iface _ d => uptoBulk d + 1
  | .map entries => uptoBulkEntries entries + 1
  | .held _ => 1
def uptoBulkAll {H : Type} : List (DataW H) → Nat
  | [] => 0
  | d :: r => uptoBulk d + uptoBulkAll r
def uptoBulkEntries {H : Type} : List (Lit × DataW H) → Nat
  | [] => 0
  | x :: r => uptoBulkEntry x + uptoBulkEntries r
def uptoBulkEntry {H : Type} : Lit × DataW H → Nat
  | (.string bytes, d) => bytes.length + uptoBulk d + 1
  | (_, d) => uptoBulk d + 1
 end
def uptoSmall : (H : Type) → List (DataW H) → Bool := fun _ ds => decide (uptoBulkAll ds ≤ 1048576)
def OpenSpec.upto (s : _root_.Go.ChangeSpec) : _root_.Go.OpenSpec := { _root_.Go.OpenSpec.ofChange s with cond := some uptoSmall }

/-- 'tympanlaw26.BowCounts', WHERE WHAT IT READS IS OF BULK AT MOST 1048576: true; the input reads as it did. -/
def bowCountsUptoRow : OpenClaim := { program := "ytnienpalbfgflaa", sum := "6d3896d6d075644808fe405b29e9305c612319c9f9dca84e640aca8f0e830ace", func := "tympan/tympanlaw26.BowCounts", spec := "bowCounts", apart := false, narrowed := true }
def BowCountsUptoSaid : Prop := bowCountsUptoRow.holds Try.pinned (OpenSpec.upto bowCountsSpec)

/-- 'tympanlaw26.BowRounds', WHERE WHAT IT READS IS OF BULK AT MOST 1048576: true; the input reads as it did. -/
def bowRoundsUptoRow : OpenClaim := { program := "ytnienpalbfgflaa", sum := "6d3896d6d075644808fe405b29e9305c612319c9f9dca84e640aca8f0e830ace", func := "tympan/tympanlaw26.BowRounds", spec := "bowRounds", apart := false, narrowed := true }
def BowRoundsUptoSaid : Prop := bowRoundsUptoRow.holds Try.pinned (OpenSpec.upto bowRoundsSpec)

/-- 'tympanlaw26.BowChord', WHERE WHAT IT READS IS OF BULK AT MOST 1048576: true; the input reads as it did. -/
def bowChordUptoRow : OpenClaim := { program := "ytnienpalbfgflaa", sum := "6d3896d6d075644808fe405b29e9305c612319c9f9dca84e640aca8f0e830ace", func := "tympan/tympanlaw26.BowChord", spec := "bowChord", apart := false, narrowed := true }
def BowChordUptoSaid : Prop := bowChordUptoRow.holds Try.pinned (OpenSpec.upto bowChordSpec)

/-- 'tympanlaw26.BowStraight', WHERE WHAT IT READS IS OF BULK AT MOST 1048576: true; the input reads as it did. -/
def bowStraightUptoRow : OpenClaim := { program := "ytnienpalbfgflaa", sum := "6d3896d6d075644808fe405b29e9305c612319c9f9dca84e640aca8f0e830ace", func := "tympan/tympanlaw26.BowStraight", spec := "bowStraight", apart := false, narrowed := true }
def BowStraightUptoSaid : Prop := bowStraightUptoRow.holds Try.pinned (OpenSpec.upto bowStraightSpec)

/-- 'tympanlaw26.BowCuts', WHERE WHAT IT READS IS OF BULK AT MOST 1048576: true; the input reads as it did. -/
def bowCutsUptoRow : OpenClaim := { program := "ytnienpalbfgflaa", sum := "6d3896d6d075644808fe405b29e9305c612319c9f9dca84e640aca8f0e830ace", func := "tympan/tympanlaw26.BowCuts", spec := "bowCuts", apart := false, narrowed := true }
def BowCutsUptoSaid : Prop := bowCutsUptoRow.holds Try.pinned (OpenSpec.upto bowCutsSpec)

/-- 'tympanlaw26.BowFlips', WHERE WHAT IT READS IS OF BULK AT MOST 1048576: true; the input reads as it did. -/
def bowFlipsUptoRow : OpenClaim := { program := "ytnienpalbfgflaa", sum := "6d3896d6d075644808fe405b29e9305c612319c9f9dca84e640aca8f0e830ace", func := "tympan/tympanlaw26.BowFlips", spec := "bowFlips", apart := false, narrowed := true }
def BowFlipsUptoSaid : Prop := bowFlipsUptoRow.holds Try.pinned (OpenSpec.upto bowFlipsSpec)

/-- 'tympanlaw26.BowMoves', WHERE WHAT IT READS IS OF BULK AT MOST 1048576: true; the input reads as it did. -/
def bowMovesUptoRow : OpenClaim := { program := "ytnienpalbfgflaa", sum := "6d3896d6d075644808fe405b29e9305c612319c9f9dca84e640aca8f0e830ace", func := "tympan/tympanlaw26.BowMoves", spec := "bowMoves", apart := false, narrowed := true }
def BowMovesUptoSaid : Prop := bowMovesUptoRow.holds Try.pinned (OpenSpec.upto bowMovesSpec)

/-- 'tympanlaw26.BowHalves', WHERE WHAT IT READS IS OF BULK AT MOST 1048576: true; the input reads as it did. -/
def bowHalvesUptoRow : OpenClaim := { program := "ytnienpalbfgflaa", sum := "6d3896d6d075644808fe405b29e9305c612319c9f9dca84e640aca8f0e830ace", func := "tympan/tympanlaw26.BowHalves", spec := "bowHalves", apart := false, narrowed := true }
def BowHalvesUptoSaid : Prop := bowHalvesUptoRow.holds Try.pinned (OpenSpec.upto bowHalvesSpec)

/-- 'tympanlaw26.BowQuarters', WHERE WHAT IT READS IS OF BULK AT MOST 1048576: true; the input reads as it did. -/
def bowQuartersUptoRow : OpenClaim := { program := "ytnienpalbfgflaa", sum := "6d3896d6d075644808fe405b29e9305c612319c9f9dca84e640aca8f0e830ace", func := "tympan/tympanlaw26.BowQuarters", spec := "bowQuarters", apart := false, narrowed := true }
def BowQuartersUptoSaid : Prop := bowQuartersUptoRow.holds Try.pinned (OpenSpec.upto bowQuartersSpec)

/-- 'tympanlaw26.BowSays', WHERE WHAT IT READS IS OF BULK AT MOST 1048576: true; the input reads as it did. -/
def bowSaysUptoRow : OpenClaim := { program := "ytnienpalbfgflaa", sum := "6d3896d6d075644808fe405b29e9305c612319c9f9dca84e640aca8f0e830ace", func := "tympan/tympanlaw26.BowSays", spec := "bowSays", apart := false, narrowed := true }
def BowSaysUptoSaid : Prop := bowSaysUptoRow.holds Try.pinned (OpenSpec.upto bowSaysSpec)

end Rows
end Go.Proofs.Ytnienpalbfgflaa
