/-
  No cell of these rows narrows 'for every input' (looked for: loops, veiled, ifaces, maps, wideKeys, modest, calm, conditions, laid).
  DERIVED. THE GIVEN ROWS OF THIS SEAT. 20 by the template 'for every input the law returns true; each argument reads behind the call as it read before'; 0 by the template 'total and deterministic' (their statements: YtedidjdifobclaaTotals.lean).
  GIVEN WITH THE SEED: the statements are not yours to turn. If you find one false, say at which input.
  Laid BY PROGRAM, IN A SANDBOX (cutbox-rows.mjs): the forced cells as the released guide's own fill.sh prints them over the translation f97b9608e4ce17bc… (all of the seat's roots in one cut). By AI agents, Wed Nov 11 2026. No macro, syntax, notation, axiom, sorry.
-/
import Derived.Test.YtedidjdifobclaaChecked
import GoSem.Claim
import GoSem.ClaimJoined
import GoSem.ClaimMapViews
import Derived.JoinedTies
import Derived.KernelRfl
namespace Go.Proofs.Ytedidjdifobclaa
/- THE CELL 'sum', in the pinned program and in every row, IS THE sha256 OF THE DUMP (.gsa) THAT YtedidjdifobclaaProg.lean LOADS. Nothing in Lean hashes anything: it is a label: what it is worth is what the hold of that sum in a sandbox is worth. -/
noncomputable def Try.pinned : Pinned := { name := "ytedidjdifobclaa", sum := "f97b9608e4ce17bc91b3a2baee0f21f6ac366e799637902aa6170e73be5a0f88", checked := Try.checked }
namespace Rows
def none {H : Type} : Left H := { results := [], args := [] }

/-- 'tympanlaw1.WideTurns': WHATEVER THE INPUT: true; the input reads as it did. -/
def wideTurnsSpec : ChangeSpec := { name := "wideTurns", fn := fun _ => fun
  | [d1, d2, d3, d4] => { results := [.lit (.bool true)], args := [d1, d2, d3, d4] }
  | _ => none }
def wideTurnsRow : OpenClaim := { program := "ytedidjdifobclaa", sum := "f97b9608e4ce17bc91b3a2baee0f21f6ac366e799637902aa6170e73be5a0f88", func := "tympan/tympanlaw1.WideTurns", spec := "wideTurns", apart := false }
def WideTurnsSaid : Prop := wideTurnsRow.holds Try.pinned (OpenSpec.ofChange wideTurnsSpec)

/-- ITS FALSE NEIGHBOUR: 'it returns false'. Refute it at one input. -/
def wideTurnsWrong : ChangeSpec := { name := "wideTurns", fn := fun _ => fun
  | [d1, d2, d3, d4] => { results := [.lit (.bool false)], args := [d1, d2, d3, d4] }
  | _ => none }
def WideTurnsWrongFalsely : Prop := wideTurnsRow.holds Try.pinned (OpenSpec.ofChange wideTurnsWrong)

/-- 'tympanlaw1.WideSmall': WHATEVER THE INPUT: true; the input reads as it did. -/
def wideSmallSpec : ChangeSpec := { name := "wideSmall", fn := fun _ => fun
  | [d1, d2] => { results := [.lit (.bool true)], args := [d1, d2] }
  | _ => none }
def wideSmallRow : OpenClaim := { program := "ytedidjdifobclaa", sum := "f97b9608e4ce17bc91b3a2baee0f21f6ac366e799637902aa6170e73be5a0f88", func := "tympan/tympanlaw1.WideSmall", spec := "wideSmall", apart := false }
def WideSmallSaid : Prop := wideSmallRow.holds Try.pinned (OpenSpec.ofChange wideSmallSpec)

/-- ITS FALSE NEIGHBOUR: 'it returns false'. Refute it at one input. -/
def wideSmallWrong : ChangeSpec := { name := "wideSmall", fn := fun _ => fun
  | [d1, d2] => { results := [.lit (.bool false)], args := [d1, d2] }
  | _ => none }
def WideSmallWrongFalsely : Prop := wideSmallRow.holds Try.pinned (OpenSpec.ofChange wideSmallWrong)

/-- 'tympanlaw1.WideNear': WHATEVER THE INPUT: true; the input reads as it did. -/
def wideNearSpec : ChangeSpec := { name := "wideNear", fn := fun _ => fun
  | [d1, d2, d3] => { results := [.lit (.bool true)], args := [d1, d2, d3] }
  | _ => none }
def wideNearRow : OpenClaim := { program := "ytedidjdifobclaa", sum := "f97b9608e4ce17bc91b3a2baee0f21f6ac366e799637902aa6170e73be5a0f88", func := "tympan/tympanlaw1.WideNear", spec := "wideNear", apart := false }
def WideNearSaid : Prop := wideNearRow.holds Try.pinned (OpenSpec.ofChange wideNearSpec)

/-- ITS FALSE NEIGHBOUR: 'it returns false'. Refute it at one input. -/
def wideNearWrong : ChangeSpec := { name := "wideNear", fn := fun _ => fun
  | [d1, d2, d3] => { results := [.lit (.bool false)], args := [d1, d2, d3] }
  | _ => none }
def WideNearWrongFalsely : Prop := wideNearRow.holds Try.pinned (OpenSpec.ofChange wideNearWrong)

/-- 'tympanlaw1.WideBack': WHATEVER THE INPUT: true; the input reads as it did. -/
def wideBackSpec : ChangeSpec := { name := "wideBack", fn := fun _ => fun
  | [d1, d2] => { results := [.lit (.bool true)], args := [d1, d2] }
  | _ => none }
def wideBackRow : OpenClaim := { program := "ytedidjdifobclaa", sum := "f97b9608e4ce17bc91b3a2baee0f21f6ac366e799637902aa6170e73be5a0f88", func := "tympan/tympanlaw1.WideBack", spec := "wideBack", apart := false }
def WideBackSaid : Prop := wideBackRow.holds Try.pinned (OpenSpec.ofChange wideBackSpec)

/-- ITS FALSE NEIGHBOUR: 'it returns false'. Refute it at one input. -/
def wideBackWrong : ChangeSpec := { name := "wideBack", fn := fun _ => fun
  | [d1, d2] => { results := [.lit (.bool false)], args := [d1, d2] }
  | _ => none }
def WideBackWrongFalsely : Prop := wideBackRow.holds Try.pinned (OpenSpec.ofChange wideBackWrong)

/-- 'tympanlaw3.FixShares': WHATEVER THE INPUT: true; the input reads as it did. -/
def fixSharesSpec : ChangeSpec := { name := "fixShares", fn := fun _ => fun
  | [d1, d2] => { results := [.lit (.bool true)], args := [d1, d2] }
  | _ => none }
def fixSharesRow : OpenClaim := { program := "ytedidjdifobclaa", sum := "f97b9608e4ce17bc91b3a2baee0f21f6ac366e799637902aa6170e73be5a0f88", func := "tympan/tympanlaw3.FixShares", spec := "fixShares", unfollowed := true, recurses := true, apart := false }
def FixSharesSaid : Prop := fixSharesRow.holds Try.pinned (OpenSpec.ofChange fixSharesSpec)

/-- ITS FALSE NEIGHBOUR: 'it returns false'. Refute it at one input. -/
def fixSharesWrong : ChangeSpec := { name := "fixShares", fn := fun _ => fun
  | [d1, d2] => { results := [.lit (.bool false)], args := [d1, d2] }
  | _ => none }
def FixSharesWrongFalsely : Prop := fixSharesRow.holds Try.pinned (OpenSpec.ofChange fixSharesWrong)

/-- 'tympanlaw3.FixRounds': WHATEVER THE INPUT: true; the input reads as it did. -/
def fixRoundsSpec : ChangeSpec := { name := "fixRounds", fn := fun _ => fun
  | [d] => { results := [.lit (.bool true)], args := [d] }
  | _ => none }
def fixRoundsRow : OpenClaim := { program := "ytedidjdifobclaa", sum := "f97b9608e4ce17bc91b3a2baee0f21f6ac366e799637902aa6170e73be5a0f88", func := "tympan/tympanlaw3.FixRounds", spec := "fixRounds", unfollowed := true, recurses := true, apart := false }
def FixRoundsSaid : Prop := fixRoundsRow.holds Try.pinned (OpenSpec.ofChange fixRoundsSpec)

/-- ITS FALSE NEIGHBOUR: 'it returns false'. Refute it at one input. -/
def fixRoundsWrong : ChangeSpec := { name := "fixRounds", fn := fun _ => fun
  | [d] => { results := [.lit (.bool false)], args := [d] }
  | _ => none }
def FixRoundsWrongFalsely : Prop := fixRoundsRow.holds Try.pinned (OpenSpec.ofChange fixRoundsWrong)

/-- 'tympanlaw2.RootSquares': WHATEVER THE INPUT: true; the input reads as it did. -/
def rootSquaresSpec : ChangeSpec := { name := "rootSquares", fn := fun _ => fun
  | [d] => { results := [.lit (.bool true)], args := [d] }
  | _ => none }
def rootSquaresRow : OpenClaim := { program := "ytedidjdifobclaa", sum := "f97b9608e4ce17bc91b3a2baee0f21f6ac366e799637902aa6170e73be5a0f88", func := "tympan/tympanlaw2.RootSquares", spec := "rootSquares", apart := false }
def RootSquaresSaid : Prop := rootSquaresRow.holds Try.pinned (OpenSpec.ofChange rootSquaresSpec)

/-- ITS FALSE NEIGHBOUR: 'it returns false'. Refute it at one input. -/
def rootSquaresWrong : ChangeSpec := { name := "rootSquares", fn := fun _ => fun
  | [d] => { results := [.lit (.bool false)], args := [d] }
  | _ => none }
def RootSquaresWrongFalsely : Prop := rootSquaresRow.holds Try.pinned (OpenSpec.ofChange rootSquaresWrong)

/-- 'tympanlaw2.RootWhole': WHATEVER THE INPUT: true; the input reads as it did. -/
def rootWholeSpec : ChangeSpec := { name := "rootWhole", fn := fun _ => fun
  | [d1, d2, d3, d4] => { results := [.lit (.bool true)], args := [d1, d2, d3, d4] }
  | _ => none }
def rootWholeRow : OpenClaim := { program := "ytedidjdifobclaa", sum := "f97b9608e4ce17bc91b3a2baee0f21f6ac366e799637902aa6170e73be5a0f88", func := "tympan/tympanlaw2.RootWhole", spec := "rootWhole", apart := false }
def RootWholeSaid : Prop := rootWholeRow.holds Try.pinned (OpenSpec.ofChange rootWholeSpec)

/-- ITS FALSE NEIGHBOUR: 'it returns false'. Refute it at one input. -/
def rootWholeWrong : ChangeSpec := { name := "rootWhole", fn := fun _ => fun
  | [d1, d2, d3, d4] => { results := [.lit (.bool false)], args := [d1, d2, d3, d4] }
  | _ => none }
def RootWholeWrongFalsely : Prop := rootWholeRow.holds Try.pinned (OpenSpec.ofChange rootWholeWrong)

/-- 'tympanlaw2.RootFlips': WHATEVER THE INPUT: true; the input reads as it did. -/
def rootFlipsSpec : ChangeSpec := { name := "rootFlips", fn := fun _ => fun
  | [d1, d2, d3, d4] => { results := [.lit (.bool true)], args := [d1, d2, d3, d4] }
  | _ => none }
def rootFlipsRow : OpenClaim := { program := "ytedidjdifobclaa", sum := "f97b9608e4ce17bc91b3a2baee0f21f6ac366e799637902aa6170e73be5a0f88", func := "tympan/tympanlaw2.RootFlips", spec := "rootFlips", apart := false }
def RootFlipsSaid : Prop := rootFlipsRow.holds Try.pinned (OpenSpec.ofChange rootFlipsSpec)

/-- ITS FALSE NEIGHBOUR: 'it returns false'. Refute it at one input. -/
def rootFlipsWrong : ChangeSpec := { name := "rootFlips", fn := fun _ => fun
  | [d1, d2, d3, d4] => { results := [.lit (.bool false)], args := [d1, d2, d3, d4] }
  | _ => none }
def RootFlipsWrongFalsely : Prop := rootFlipsRow.holds Try.pinned (OpenSpec.ofChange rootFlipsWrong)

/-- 'tympanlaw2.RootCuts': WHATEVER THE INPUT: true; the input reads as it did. -/
def rootCutsSpec : ChangeSpec := { name := "rootCuts", fn := fun _ => fun
  | [d1, d2, d3, d4, d5] => { results := [.lit (.bool true)], args := [d1, d2, d3, d4, d5] }
  | _ => none }
def rootCutsRow : OpenClaim := { program := "ytedidjdifobclaa", sum := "f97b9608e4ce17bc91b3a2baee0f21f6ac366e799637902aa6170e73be5a0f88", func := "tympan/tympanlaw2.RootCuts", spec := "rootCuts", apart := false }
def RootCutsSaid : Prop := rootCutsRow.holds Try.pinned (OpenSpec.ofChange rootCutsSpec)

/-- ITS FALSE NEIGHBOUR: 'it returns false'. Refute it at one input. -/
def rootCutsWrong : ChangeSpec := { name := "rootCuts", fn := fun _ => fun
  | [d1, d2, d3, d4, d5] => { results := [.lit (.bool false)], args := [d1, d2, d3, d4, d5] }
  | _ => none }
def RootCutsWrongFalsely : Prop := rootCutsRow.holds Try.pinned (OpenSpec.ofChange rootCutsWrong)

/-- 'tympanlaw3.FixBack': WHATEVER THE INPUT: true; the input reads as it did. -/
def fixBackSpec : ChangeSpec := { name := "fixBack", fn := fun _ => fun
  | [d1, d2] => { results := [.lit (.bool true)], args := [d1, d2] }
  | _ => none }
def fixBackRow : OpenClaim := { program := "ytedidjdifobclaa", sum := "f97b9608e4ce17bc91b3a2baee0f21f6ac366e799637902aa6170e73be5a0f88", func := "tympan/tympanlaw3.FixBack", spec := "fixBack", unfollowed := true, recurses := true, apart := false }
def FixBackSaid : Prop := fixBackRow.holds Try.pinned (OpenSpec.ofChange fixBackSpec)

/-- ITS FALSE NEIGHBOUR: 'it returns false'. Refute it at one input. -/
def fixBackWrong : ChangeSpec := { name := "fixBack", fn := fun _ => fun
  | [d1, d2] => { results := [.lit (.bool false)], args := [d1, d2] }
  | _ => none }
def FixBackWrongFalsely : Prop := fixBackRow.holds Try.pinned (OpenSpec.ofChange fixBackWrong)

/-- 'tympanlaw3.FixRoot': WHATEVER THE INPUT: true; the input reads as it did. -/
def fixRootSpec : ChangeSpec := { name := "fixRoot", fn := fun _ => fun
  | [d] => { results := [.lit (.bool true)], args := [d] }
  | _ => none }
def fixRootRow : OpenClaim := { program := "ytedidjdifobclaa", sum := "f97b9608e4ce17bc91b3a2baee0f21f6ac366e799637902aa6170e73be5a0f88", func := "tympan/tympanlaw3.FixRoot", spec := "fixRoot", unfollowed := true, recurses := true, apart := false }
def FixRootSaid : Prop := fixRootRow.holds Try.pinned (OpenSpec.ofChange fixRootSpec)

/-- ITS FALSE NEIGHBOUR: 'it returns false'. Refute it at one input. -/
def fixRootWrong : ChangeSpec := { name := "fixRoot", fn := fun _ => fun
  | [d] => { results := [.lit (.bool false)], args := [d] }
  | _ => none }
def FixRootWrongFalsely : Prop := fixRootRow.holds Try.pinned (OpenSpec.ofChange fixRootWrong)

/-- 'tympanlaw2.RootTells': WHATEVER THE INPUT: true; the input reads as it did. -/
def rootTellsSpec : ChangeSpec := { name := "rootTells", fn := fun _ => fun
  | [d1, d2, d3, d4, d5] => { results := [.lit (.bool true)], args := [d1, d2, d3, d4, d5] }
  | _ => none }
def rootTellsRow : OpenClaim := { program := "ytedidjdifobclaa", sum := "f97b9608e4ce17bc91b3a2baee0f21f6ac366e799637902aa6170e73be5a0f88", func := "tympan/tympanlaw2.RootTells", spec := "rootTells", apart := false }
def RootTellsSaid : Prop := rootTellsRow.holds Try.pinned (OpenSpec.ofChange rootTellsSpec)

/-- ITS FALSE NEIGHBOUR: 'it returns false'. Refute it at one input. -/
def rootTellsWrong : ChangeSpec := { name := "rootTells", fn := fun _ => fun
  | [d1, d2, d3, d4, d5] => { results := [.lit (.bool false)], args := [d1, d2, d3, d4, d5] }
  | _ => none }
def RootTellsWrongFalsely : Prop := rootTellsRow.holds Try.pinned (OpenSpec.ofChange rootTellsWrong)

/-- 'tympanlaw4.TurnRound': WHATEVER THE INPUT: true; the input reads as it did. -/
def turnRoundSpec : ChangeSpec := { name := "turnRound", fn := fun _ => fun
  | [d1, d2] => { results := [.lit (.bool true)], args := [d1, d2] }
  | _ => none }
def turnRoundRow : OpenClaim := { program := "ytedidjdifobclaa", sum := "f97b9608e4ce17bc91b3a2baee0f21f6ac366e799637902aa6170e73be5a0f88", func := "tympan/tympanlaw4.TurnRound", spec := "turnRound", unfollowed := true, recurses := true, apart := false }
def TurnRoundSaid : Prop := turnRoundRow.holds Try.pinned (OpenSpec.ofChange turnRoundSpec)

/-- ITS FALSE NEIGHBOUR: 'it returns false'. Refute it at one input. -/
def turnRoundWrong : ChangeSpec := { name := "turnRound", fn := fun _ => fun
  | [d1, d2] => { results := [.lit (.bool false)], args := [d1, d2] }
  | _ => none }
def TurnRoundWrongFalsely : Prop := turnRoundRow.holds Try.pinned (OpenSpec.ofChange turnRoundWrong)

/-- 'tympanlaw4.TurnRises': WHATEVER THE INPUT: true; the input reads as it did. -/
def turnRisesSpec : ChangeSpec := { name := "turnRises", fn := fun _ => fun
  | [d1, d2] => { results := [.lit (.bool true)], args := [d1, d2] }
  | _ => none }
def turnRisesRow : OpenClaim := { program := "ytedidjdifobclaa", sum := "f97b9608e4ce17bc91b3a2baee0f21f6ac366e799637902aa6170e73be5a0f88", func := "tympan/tympanlaw4.TurnRises", spec := "turnRises", unfollowed := true, recurses := true, apart := false }
def TurnRisesSaid : Prop := turnRisesRow.holds Try.pinned (OpenSpec.ofChange turnRisesSpec)

/-- ITS FALSE NEIGHBOUR: 'it returns false'. Refute it at one input. -/
def turnRisesWrong : ChangeSpec := { name := "turnRises", fn := fun _ => fun
  | [d1, d2] => { results := [.lit (.bool false)], args := [d1, d2] }
  | _ => none }
def TurnRisesWrongFalsely : Prop := turnRisesRow.holds Try.pinned (OpenSpec.ofChange turnRisesWrong)

/-- 'tympanlaw4.TurnCircle': WHATEVER THE INPUT: true; the input reads as it did. -/
def turnCircleSpec : ChangeSpec := { name := "turnCircle", fn := fun _ => fun
  | [d] => { results := [.lit (.bool true)], args := [d] }
  | _ => none }
def turnCircleRow : OpenClaim := { program := "ytedidjdifobclaa", sum := "f97b9608e4ce17bc91b3a2baee0f21f6ac366e799637902aa6170e73be5a0f88", func := "tympan/tympanlaw4.TurnCircle", spec := "turnCircle", unfollowed := true, recurses := true, apart := false }
def TurnCircleSaid : Prop := turnCircleRow.holds Try.pinned (OpenSpec.ofChange turnCircleSpec)

/-- ITS FALSE NEIGHBOUR: 'it returns false'. Refute it at one input. -/
def turnCircleWrong : ChangeSpec := { name := "turnCircle", fn := fun _ => fun
  | [d] => { results := [.lit (.bool false)], args := [d] }
  | _ => none }
def TurnCircleWrongFalsely : Prop := turnCircleRow.holds Try.pinned (OpenSpec.ofChange turnCircleWrong)

/-- 'tympanlaw4.TurnFound': WHATEVER THE INPUT: true; the input reads as it did. -/
def turnFoundSpec : ChangeSpec := { name := "turnFound", fn := fun _ => fun
  | [d1, d2, d3, d4] => { results := [.lit (.bool true)], args := [d1, d2, d3, d4] }
  | _ => none }
def turnFoundRow : OpenClaim := { program := "ytedidjdifobclaa", sum := "f97b9608e4ce17bc91b3a2baee0f21f6ac366e799637902aa6170e73be5a0f88", func := "tympan/tympanlaw4.TurnFound", spec := "turnFound", unfollowed := true, recurses := true, apart := false }
def TurnFoundSaid : Prop := turnFoundRow.holds Try.pinned (OpenSpec.ofChange turnFoundSpec)

/-- ITS FALSE NEIGHBOUR: 'it returns false'. Refute it at one input. -/
def turnFoundWrong : ChangeSpec := { name := "turnFound", fn := fun _ => fun
  | [d1, d2, d3, d4] => { results := [.lit (.bool false)], args := [d1, d2, d3, d4] }
  | _ => none }
def TurnFoundWrongFalsely : Prop := turnFoundRow.holds Try.pinned (OpenSpec.ofChange turnFoundWrong)

/-- 'tympanlaw1.WideTells': WHATEVER THE INPUT: true; the input reads as it did. -/
def wideTellsSpec : ChangeSpec := { name := "wideTells", fn := fun _ => fun
  | [d1, d2, d3, d4] => { results := [.lit (.bool true)], args := [d1, d2, d3, d4] }
  | _ => none }
def wideTellsRow : OpenClaim := { program := "ytedidjdifobclaa", sum := "f97b9608e4ce17bc91b3a2baee0f21f6ac366e799637902aa6170e73be5a0f88", func := "tympan/tympanlaw1.WideTells", spec := "wideTells", named := ["math/bits.divideError", "math/bits.overflowError"], apart := false }
def WideTellsSaid : Prop := wideTellsRow.holds Try.pinned (OpenSpec.ofChange wideTellsSpec)

/-- ITS FALSE NEIGHBOUR: 'it returns false'. Refute it at one input. -/
def wideTellsWrong : ChangeSpec := { name := "wideTells", fn := fun _ => fun
  | [d1, d2, d3, d4] => { results := [.lit (.bool false)], args := [d1, d2, d3, d4] }
  | _ => none }
def WideTellsWrongFalsely : Prop := wideTellsRow.holds Try.pinned (OpenSpec.ofChange wideTellsWrong)

/-- 'tympanlaw3.FixTells': WHATEVER THE INPUT: true; the input reads as it did. -/
def fixTellsSpec : ChangeSpec := { name := "fixTells", fn := fun _ => fun
  | [d1, d2, d3] => { results := [.lit (.bool true)], args := [d1, d2, d3] }
  | _ => none }
def fixTellsRow : OpenClaim := { program := "ytedidjdifobclaa", sum := "f97b9608e4ce17bc91b3a2baee0f21f6ac366e799637902aa6170e73be5a0f88", func := "tympan/tympanlaw3.FixTells", spec := "fixTells", unfollowed := true, recurses := true, named := ["math/bits.divideError", "math/bits.overflowError"], apart := false }
def FixTellsSaid : Prop := fixTellsRow.holds Try.pinned (OpenSpec.ofChange fixTellsSpec)

/-- ITS FALSE NEIGHBOUR: 'it returns false'. Refute it at one input. -/
def fixTellsWrong : ChangeSpec := { name := "fixTells", fn := fun _ => fun
  | [d1, d2, d3] => { results := [.lit (.bool false)], args := [d1, d2, d3] }
  | _ => none }
def FixTellsWrongFalsely : Prop := fixTellsRow.holds Try.pinned (OpenSpec.ofChange fixTellsWrong)

/-- 'tympanlaw4.TurnTells': WHATEVER THE INPUT: true; the input reads as it did. -/
def turnTellsSpec : ChangeSpec := { name := "turnTells", fn := fun _ => fun
  | [d1, d2, d3] => { results := [.lit (.bool true)], args := [d1, d2, d3] }
  | _ => none }
def turnTellsRow : OpenClaim := { program := "ytedidjdifobclaa", sum := "f97b9608e4ce17bc91b3a2baee0f21f6ac366e799637902aa6170e73be5a0f88", func := "tympan/tympanlaw4.TurnTells", spec := "turnTells", unfollowed := true, recurses := true, named := ["math/bits.divideError", "math/bits.overflowError"], apart := false }
def TurnTellsSaid : Prop := turnTellsRow.holds Try.pinned (OpenSpec.ofChange turnTellsSpec)

/-- ITS FALSE NEIGHBOUR: 'it returns false'. Refute it at one input. -/
def turnTellsWrong : ChangeSpec := { name := "turnTells", fn := fun _ => fun
  | [d1, d2, d3] => { results := [.lit (.bool false)], args := [d1, d2, d3] }
  | _ => none }
def TurnTellsWrongFalsely : Prop := turnTellsRow.holds Try.pinned (OpenSpec.ofChange turnTellsWrong)

/- THE SECOND FORM. 'bulk': how many values and letters a reading holds, each counted each time it is reached (what is shared counts as often as it is met; a slice's spare places count too). A statement '..UptoSaid' is the law's where the arguments, and the package variables that the reading takes, are together of bulk at most 1048576: NARROWER than '..Said'. Prove '..Said' where nothing that the law and all that it calls make is longer than what came in: it says more and counts as full. Else prove '..UptoSaid'. A law counts once. -/
mutual
def uptoBulk {H : Type} : DataW H → Nat
  | .lit (.string bytes) => bytes.length + 1
  | .lit _ => 1
  | .nil => 1
  | .ptr d => uptoBulk d + 1
  | .slice elems spare => uptoBulkAll elems + uptoBulkAll spare + 1
  | .agg parts => uptoBulkAll parts + 1
  | .iface _ d => uptoBulk d + 1
  | .map entries => uptoBulkEntries entries + 1
  | .held _ => 1
def uptoBulkAll {H : Type} : List (DataW H) → Nat
  | [] => 0
  | d :: r => uptoBulk d + uptoBulkAll r
def uptoBulkEntries {H : Type} : List (Lit × DataW H) → Nat
  | [] => 0
  | x :: r => uptoBulkEntry x + uptoBulkEntries r
def uptoBulkEntry {H : Type} : Lit × DataW H → Nat
  | (.string bytes, d) => bytes.length + uptoBulk d + 1
  | (_, d) => uptoBulk d + 1
 end
def uptoSmall : (H : Type) → List (DataW H) → Bool := fun _ ds => decide (uptoBulkAll ds ≤ 1048576)
def OpenSpec.upto (s : _root_.Go.ChangeSpec) : _root_.Go.OpenSpec := { _root_.Go.OpenSpec.ofChange s with cond := some uptoSmall }

/-- 'tympanlaw1.WideTurns', WHERE WHAT IT READS IS OF BULK AT MOST 1048576: true; the input reads as it did. -/
def wideTurnsUptoRow : OpenClaim := { program := "ytedidjdifobclaa", sum := "f97b9608e4ce17bc91b3a2baee0f21f6ac366e799637902aa6170e73be5a0f88", func := "tympan/tympanlaw1.WideTurns", spec := "wideTurns", apart := false, narrowed := true }
def WideTurnsUptoSaid : Prop := wideTurnsUptoRow.holds Try.pinned (OpenSpec.upto wideTurnsSpec)

/-- 'tympanlaw1.WideSmall', WHERE WHAT IT READS IS OF BULK AT MOST 1048576: true; the input reads as it did. -/
def wideSmallUptoRow : OpenClaim := { program := "ytedidjdifobclaa", sum := "f97b9608e4ce17bc91b3a2baee0f21f6ac366e799637902aa6170e73be5a0f88", func := "tympan/tympanlaw1.WideSmall", spec := "wideSmall", apart := false, narrowed := true }
def WideSmallUptoSaid : Prop := wideSmallUptoRow.holds Try.pinned (OpenSpec.upto wideSmallSpec)

/-- 'tympanlaw1.WideNear', WHERE WHAT IT READS IS OF BULK AT MOST 1048576: true; the input reads as it did. -/
def wideNearUptoRow : OpenClaim := { program := "ytedidjdifobclaa", sum := "f97b9608e4ce17bc91b3a2baee0f21f6ac366e799637902aa6170e73be5a0f88", func := "tympan/tympanlaw1.WideNear", spec := "wideNear", apart := false, narrowed := true }
def WideNearUptoSaid : Prop := wideNearUptoRow.holds Try.pinned (OpenSpec.upto wideNearSpec)

/-- 'tympanlaw1.WideBack', WHERE WHAT IT READS IS OF BULK AT MOST 1048576: true; the input reads as it did. -/
def wideBackUptoRow : OpenClaim := { program := "ytedidjdifobclaa", sum := "f97b9608e4ce17bc91b3a2baee0f21f6ac366e799637902aa6170e73be5a0f88", func := "tympan/tympanlaw1.WideBack", spec := "wideBack", apart := false, narrowed := true }
def WideBackUptoSaid : Prop := wideBackUptoRow.holds Try.pinned (OpenSpec.upto wideBackSpec)

/-- 'tympanlaw3.FixShares', WHERE WHAT IT READS IS OF BULK AT MOST 1048576: true; the input reads as it did. -/
def fixSharesUptoRow : OpenClaim := { program := "ytedidjdifobclaa", sum := "f97b9608e4ce17bc91b3a2baee0f21f6ac366e799637902aa6170e73be5a0f88", func := "tympan/tympanlaw3.FixShares", spec := "fixShares", unfollowed := true, recurses := true, apart := false, narrowed := true }
def FixSharesUptoSaid : Prop := fixSharesUptoRow.holds Try.pinned (OpenSpec.upto fixSharesSpec)

/-- 'tympanlaw3.FixRounds', WHERE WHAT IT READS IS OF BULK AT MOST 1048576: true; the input reads as it did. -/
def fixRoundsUptoRow : OpenClaim := { program := "ytedidjdifobclaa", sum := "f97b9608e4ce17bc91b3a2baee0f21f6ac366e799637902aa6170e73be5a0f88", func := "tympan/tympanlaw3.FixRounds", spec := "fixRounds", unfollowed := true, recurses := true, apart := false, narrowed := true }
def FixRoundsUptoSaid : Prop := fixRoundsUptoRow.holds Try.pinned (OpenSpec.upto fixRoundsSpec)

/-- 'tympanlaw2.RootSquares', WHERE WHAT IT READS IS OF BULK AT MOST 1048576: true; the input reads as it did. -/
def rootSquaresUptoRow : OpenClaim := { program := "ytedidjdifobclaa", sum := "f97b9608e4ce17bc91b3a2baee0f21f6ac366e799637902aa6170e73be5a0f88", func := "tympan/tympanlaw2.RootSquares", spec := "rootSquares", apart := false, narrowed := true }
def RootSquaresUptoSaid : Prop := rootSquaresUptoRow.holds Try.pinned (OpenSpec.upto rootSquaresSpec)

/-- 'tympanlaw2.RootWhole', WHERE WHAT IT READS IS OF BULK AT MOST 1048576: true; the input reads as it did. -/
def rootWholeUptoRow : OpenClaim := { program := "ytedidjdifobclaa", sum := "f97b9608e4ce17bc91b3a2baee0f21f6ac366e799637902aa6170e73be5a0f88", func := "tympan/tympanlaw2.RootWhole", spec := "rootWhole", apart := false, narrowed := true }
def RootWholeUptoSaid : Prop := rootWholeUptoRow.holds Try.pinned (OpenSpec.upto rootWholeSpec)

/-- 'tympanlaw2.RootFlips', WHERE WHAT IT READS IS OF BULK AT MOST 1048576: true; the input reads as it did. -/
def rootFlipsUptoRow : OpenClaim := { program := "ytedidjdifobclaa", sum := "f97b9608e4ce17bc91b3a2baee0f21f6ac366e799637902aa6170e73be5a0f88", func := "tympan/tympanlaw2.RootFlips", spec := "rootFlips", apart := false, narrowed := true }
def RootFlipsUptoSaid : Prop := rootFlipsUptoRow.holds Try.pinned (OpenSpec.upto rootFlipsSpec)

/-- 'tympanlaw2.RootCuts', WHERE WHAT IT READS IS OF BULK AT MOST 1048576: true; the input reads as it did. -/
def rootCutsUptoRow : OpenClaim := { program := "ytedidjdifobclaa", sum := "f97b9608e4ce17bc91b3a2baee0f21f6ac366e799637902aa6170e73be5a0f88", func := "tympan/tympanlaw2.RootCuts", spec := "rootCuts", apart := false, narrowed := true }
def RootCutsUptoSaid : Prop := rootCutsUptoRow.holds Try.pinned (OpenSpec.upto rootCutsSpec)

/-- 'tympanlaw3.FixBack', WHERE WHAT IT READS IS OF BULK AT MOST 1048576: true; the input reads as it did. -/
def fixBackUptoRow : OpenClaim := { program := "ytedidjdifobclaa", sum := "f97b9608e4ce17bc91b3a2baee0f21f6ac366e799637902aa6170e73be5a0f88", func := "tympan/tympanlaw3.FixBack", spec := "fixBack", unfollowed := true, recurses := true, apart := false, narrowed := true }
def FixBackUptoSaid : Prop := fixBackUptoRow.holds Try.pinned (OpenSpec.upto fixBackSpec)

/-- 'tympanlaw3.FixRoot', WHERE WHAT IT READS IS OF BULK AT MOST 1048576: true; the input reads as it did. -/
def fixRootUptoRow : OpenClaim := { program := "ytedidjdifobclaa", sum := "f97b9608e4ce17bc91b3a2baee0f21f6ac366e799637902aa6170e73be5a0f88", func := "tympan/tympanlaw3.FixRoot", spec := "fixRoot", unfollowed := true, recurses := true, apart := false, narrowed := true }
def FixRootUptoSaid : Prop := fixRootUptoRow.holds Try.pinned (OpenSpec.upto fixRootSpec)

/-- 'tympanlaw2.RootTells', WHERE WHAT IT READS IS OF BULK AT MOST 1048576: true; the input reads as it did. -/
def rootTellsUptoRow : OpenClaim := { program := "ytedidjdifobclaa", sum := "f97b9608e4ce17bc91b3a2baee0f21f6ac366e799637902aa6170e73be5a0f88", func := "tympan/tympanlaw2.RootTells", spec := "rootTells", apart := false, narrowed := true }
def RootTellsUptoSaid : Prop := rootTellsUptoRow.holds Try.pinned (OpenSpec.upto rootTellsSpec)

/-- 'tympanlaw4.TurnRound', WHERE WHAT IT READS IS OF BULK AT MOST 1048576: true; the input reads as it did. -/
def turnRoundUptoRow : OpenClaim := { program := "ytedidjdifobclaa", sum := "f97b9608e4ce17bc91b3a2baee0f21f6ac366e799637902aa6170e73be5a0f88", func := "tympan/tympanlaw4.TurnRound", spec := "turnRound", unfollowed := true, recurses := true, apart := false, narrowed := true }
def TurnRoundUptoSaid : Prop := turnRoundUptoRow.holds Try.pinned (OpenSpec.upto turnRoundSpec)

/-- 'tympanlaw4.TurnRises', WHERE WHAT IT READS IS OF BULK AT MOST 1048576: true; the input reads as it did. -/
def turnRisesUptoRow : OpenClaim := { program := "ytedidjdifobclaa", sum := "f97b9608e4ce17bc91b3a2baee0f21f6ac366e799637902aa6170e73be5a0f88", func := "tympan/tympanlaw4.TurnRises", spec := "turnRises", unfollowed := true, recurses := true, apart := false, narrowed := true }
def TurnRisesUptoSaid : Prop := turnRisesUptoRow.holds Try.pinned (OpenSpec.upto turnRisesSpec)

/-- 'tympanlaw4.TurnCircle', WHERE WHAT IT READS IS OF BULK AT MOST 1048576: true; the input reads as it did. -/
def turnCircleUptoRow : OpenClaim := { program := "ytedidjdifobclaa", sum := "f97b9608e4ce17bc91b3a2baee0f21f6ac366e799637902aa6170e73be5a0f88", func := "tympan/tympanlaw4.TurnCircle", spec := "turnCircle", unfollowed := true, recurses := true, apart := false, narrowed := true }
def TurnCircleUptoSaid : Prop := turnCircleUptoRow.holds Try.pinned (OpenSpec.upto turnCircleSpec)

/-- 'tympanlaw4.TurnFound', WHERE WHAT IT READS IS OF BULK AT MOST 1048576: true; the input reads as it did. -/
def turnFoundUptoRow : OpenClaim := { program := "ytedidjdifobclaa", sum := "f97b9608e4ce17bc91b3a2baee0f21f6ac366e799637902aa6170e73be5a0f88", func := "tympan/tympanlaw4.TurnFound", spec := "turnFound", unfollowed := true, recurses := true, apart := false, narrowed := true }
def TurnFoundUptoSaid : Prop := turnFoundUptoRow.holds Try.pinned (OpenSpec.upto turnFoundSpec)

/-- 'tympanlaw1.WideTells', WHERE WHAT IT READS IS OF BULK AT MOST 1048576: true; the input reads as it did. -/
def wideTellsUptoRow : OpenClaim := { program := "ytedidjdifobclaa", sum := "f97b9608e4ce17bc91b3a2baee0f21f6ac366e799637902aa6170e73be5a0f88", func := "tympan/tympanlaw1.WideTells", spec := "wideTells", named := ["math/bits.divideError", "math/bits.overflowError"], apart := false, narrowed := true }
def WideTellsUptoSaid : Prop := wideTellsUptoRow.holds Try.pinned (OpenSpec.upto wideTellsSpec)

/-- 'tympanlaw3.FixTells', WHERE WHAT IT READS IS OF BULK AT MOST 1048576: true; the input reads as it did. -/
def fixTellsUptoRow : OpenClaim := { program := "ytedidjdifobclaa", sum := "f97b9608e4ce17bc91b3a2baee0f21f6ac366e799637902aa6170e73be5a0f88", func := "tympan/tympanlaw3.FixTells", spec := "fixTells", unfollowed := true, recurses := true, named := ["math/bits.divideError", "math/bits.overflowError"], apart := false, narrowed := true }
def FixTellsUptoSaid : Prop := fixTellsUptoRow.holds Try.pinned (OpenSpec.upto fixTellsSpec)

/-- 'tympanlaw4.TurnTells', WHERE WHAT IT READS IS OF BULK AT MOST 1048576: true; the input reads as it did. -/
def turnTellsUptoRow : OpenClaim := { program := "ytedidjdifobclaa", sum := "f97b9608e4ce17bc91b3a2baee0f21f6ac366e799637902aa6170e73be5a0f88", func := "tympan/tympanlaw4.TurnTells", spec := "turnTells", unfollowed := true, recurses := true, named := ["math/bits.divideError", "math/bits.overflowError"], apart := false, narrowed := true }
def TurnTellsUptoSaid : Prop := turnTellsUptoRow.holds Try.pinned (OpenSpec.upto turnTellsSpec)

end Rows
end Go.Proofs.Ytedidjdifobclaa
