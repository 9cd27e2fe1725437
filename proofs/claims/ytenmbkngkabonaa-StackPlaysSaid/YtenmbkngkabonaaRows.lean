/-
  No cell of these rows narrows 'for every input' (looked for: loops, veiled, ifaces, maps, wideKeys, modest, calm, conditions, laid).
  DERIVED. THE GIVEN ROWS OF THIS SEAT. 12 by the template 'for every input the law returns true; each argument reads behind the call as it read before'; 0 by the template 'total and deterministic' (their statements: YtenmbkngkabonaaTotals.lean).
  GIVEN WITH THE SEED: the statements are not yours to turn. If you find one false, say at which input.
  Laid BY PROGRAM, IN A SANDBOX (cutbox-rows.mjs): the forced cells as the released guide's own fill.sh prints them over the translation 41bd95f8bb28d105… (all of the seat's roots in one cut). By AI agents, Wed Nov 11 2026. No macro, syntax, notation, axiom, sorry.
-/
import Derived.Test.YtenmbkngkabonaaChecked
import GoSem.Claim
import GoSem.ClaimJoined
import GoSem.ClaimMapViews
import Derived.JoinedTies
import Derived.KernelRfl
namespace Go.Proofs.Ytenmbkngkabonaa
/- THE CELL 'sum', in the pinned program and in every row, IS THE sha256 OF THE DUMP (.gsa) THAT YtenmbkngkabonaaProg.lean LOADS. Nothing in Lean hashes anything: it is a label: what it is worth is what the hold of that sum in a sandbox is worth. -/
noncomputable def Try.pinned : Pinned := { name := "ytenmbkngkabonaa", sum := "41bd95f8bb28d105c19dd069e89a19e5b1c1a3c15979a2df884e2c32cb546f2d", checked := Try.checked }
namespace Rows
def none {H : Type} : Left H := { results := [], args := [] }

/-- 'tympanlaw15.OpTells': WHATEVER THE INPUT: true; the input reads as it did. -/
def opTellsSpec : ChangeSpec := { name := "opTells", fn := fun _ => fun
  | [d1, d2] => { results := [.lit (.bool true)], args := [d1, d2] }
  | _ => none }
def opTellsRow : OpenClaim := { program := "ytenmbkngkabonaa", sum := "41bd95f8bb28d105c19dd069e89a19e5b1c1a3c15979a2df884e2c32cb546f2d", func := "tympan/tympanlaw15.OpTells", spec := "opTells", unfollowed := true, recurses := true, apart := false }
def OpTellsSaid : Prop := opTellsRow.holds Try.pinned (OpenSpec.ofChange opTellsSpec)

/-- ITS FALSE NEIGHBOUR: 'it returns false'. Refute it at one input. -/
def opTellsWrong : ChangeSpec := { name := "opTells", fn := fun _ => fun
  | [d1, d2] => { results := [.lit (.bool false)], args := [d1, d2] }
  | _ => none }
def OpTellsWrongFalsely : Prop := opTellsRow.holds Try.pinned (OpenSpec.ofChange opTellsWrong)

/-- 'tympanlaw15.OpNames': WHATEVER THE INPUT: true; the input reads as it did. -/
def opNamesSpec : ChangeSpec := { name := "opNames", fn := fun _ => fun
  | [d1, d2] => { results := [.lit (.bool true)], args := [d1, d2] }
  | _ => none }
def opNamesRow : OpenClaim := { program := "ytenmbkngkabonaa", sum := "41bd95f8bb28d105c19dd069e89a19e5b1c1a3c15979a2df884e2c32cb546f2d", func := "tympan/tympanlaw15.OpNames", spec := "opNames", unfollowed := true, recurses := true, apart := false }
def OpNamesSaid : Prop := opNamesRow.holds Try.pinned (OpenSpec.ofChange opNamesSpec)

/-- ITS FALSE NEIGHBOUR: 'it returns false'. Refute it at one input. -/
def opNamesWrong : ChangeSpec := { name := "opNames", fn := fun _ => fun
  | [d1, d2] => { results := [.lit (.bool false)], args := [d1, d2] }
  | _ => none }
def OpNamesWrongFalsely : Prop := opNamesRow.holds Try.pinned (OpenSpec.ofChange opNamesWrong)

/-- 'tympanlaw14.StackRolls': WHATEVER THE INPUT: true; the input reads as it did. -/
def stackRollsSpec : ChangeSpec := { name := "stackRolls", fn := fun _ => fun
  | [d1, d2, d3] => { results := [.lit (.bool true)], args := [d1, d2, d3] }
  | _ => none }
def stackRollsRow : OpenClaim := { program := "ytenmbkngkabonaa", sum := "41bd95f8bb28d105c19dd069e89a19e5b1c1a3c15979a2df884e2c32cb546f2d", func := "tympan/tympanlaw14.StackRolls", spec := "stackRolls", apart := false }
def StackRollsSaid : Prop := stackRollsRow.holds Try.pinned (OpenSpec.ofChange stackRollsSpec)

/-- ITS FALSE NEIGHBOUR: 'it returns false'. Refute it at one input. -/
def stackRollsWrong : ChangeSpec := { name := "stackRolls", fn := fun _ => fun
  | [d1, d2, d3] => { results := [.lit (.bool false)], args := [d1, d2, d3] }
  | _ => none }
def StackRollsWrongFalsely : Prop := stackRollsRow.holds Try.pinned (OpenSpec.ofChange stackRollsWrong)

/-- 'tympanlaw10.ObjOrder': WHATEVER THE INPUT: true; the input reads as it did. -/
def objOrderSpec : ChangeSpec := { name := "objOrder", fn := fun _ => fun
  | [d1, d2, d3, d4, d5, d6] => { results := [.lit (.bool true)], args := [d1, d2, d3, d4, d5, d6] }
  | _ => none }
def objOrderRow : OpenClaim := { program := "ytenmbkngkabonaa", sum := "41bd95f8bb28d105c19dd069e89a19e5b1c1a3c15979a2df884e2c32cb546f2d", func := "tympan/tympanlaw10.ObjOrder", spec := "objOrder", apart := false }
def ObjOrderSaid : Prop := objOrderRow.holds Try.pinned (OpenSpec.ofChange objOrderSpec)

/-- ITS FALSE NEIGHBOUR: 'it returns false'. Refute it at one input. -/
def objOrderWrong : ChangeSpec := { name := "objOrder", fn := fun _ => fun
  | [d1, d2, d3, d4, d5, d6] => { results := [.lit (.bool false)], args := [d1, d2, d3, d4, d5, d6] }
  | _ => none }
def ObjOrderWrongFalsely : Prop := objOrderRow.holds Try.pinned (OpenSpec.ofChange objOrderWrong)

/-- 'tympanlaw10.ObjFields': WHATEVER THE INPUT: true; the input reads as it did. -/
def objFieldsSpec : ChangeSpec := { name := "objFields", fn := fun _ => fun
  | [d1, d2] => { results := [.lit (.bool true)], args := [d1, d2] }
  | _ => none }
def objFieldsRow : OpenClaim := { program := "ytenmbkngkabonaa", sum := "41bd95f8bb28d105c19dd069e89a19e5b1c1a3c15979a2df884e2c32cb546f2d", func := "tympan/tympanlaw10.ObjFields", spec := "objFields", apart := false }
def ObjFieldsSaid : Prop := objFieldsRow.holds Try.pinned (OpenSpec.ofChange objFieldsSpec)

/-- ITS FALSE NEIGHBOUR: 'it returns false'. Refute it at one input. -/
def objFieldsWrong : ChangeSpec := { name := "objFields", fn := fun _ => fun
  | [d1, d2] => { results := [.lit (.bool false)], args := [d1, d2] }
  | _ => none }
def ObjFieldsWrongFalsely : Prop := objFieldsRow.holds Try.pinned (OpenSpec.ofChange objFieldsWrong)

/-- 'tympanlaw14.StackMarks': WHATEVER THE INPUT: true; the input reads as it did. -/
def stackMarksSpec : ChangeSpec := { name := "stackMarks", fn := fun _ => fun
  | [d] => { results := [.lit (.bool true)], args := [d] }
  | _ => none }
def stackMarksRow : OpenClaim := { program := "ytenmbkngkabonaa", sum := "41bd95f8bb28d105c19dd069e89a19e5b1c1a3c15979a2df884e2c32cb546f2d", func := "tympan/tympanlaw14.StackMarks", spec := "stackMarks", apart := false }
def StackMarksSaid : Prop := stackMarksRow.holds Try.pinned (OpenSpec.ofChange stackMarksSpec)

/-- ITS FALSE NEIGHBOUR: 'it returns false'. Refute it at one input. -/
def stackMarksWrong : ChangeSpec := { name := "stackMarks", fn := fun _ => fun
  | [d] => { results := [.lit (.bool false)], args := [d] }
  | _ => none }
def StackMarksWrongFalsely : Prop := stackMarksRow.holds Try.pinned (OpenSpec.ofChange stackMarksWrong)

/-- 'tympanlaw14.StackTop': WHATEVER THE INPUT: true; the input reads as it did. -/
def stackTopSpec : ChangeSpec := { name := "stackTop", fn := fun _ => fun
  | [d1, d2, d3] => { results := [.lit (.bool true)], args := [d1, d2, d3] }
  | _ => none }
def stackTopRow : OpenClaim := { program := "ytenmbkngkabonaa", sum := "41bd95f8bb28d105c19dd069e89a19e5b1c1a3c15979a2df884e2c32cb546f2d", func := "tympan/tympanlaw14.StackTop", spec := "stackTop", apart := false }
def StackTopSaid : Prop := stackTopRow.holds Try.pinned (OpenSpec.ofChange stackTopSpec)

/-- ITS FALSE NEIGHBOUR: 'it returns false'. Refute it at one input. -/
def stackTopWrong : ChangeSpec := { name := "stackTop", fn := fun _ => fun
  | [d1, d2, d3] => { results := [.lit (.bool false)], args := [d1, d2, d3] }
  | _ => none }
def StackTopWrongFalsely : Prop := stackTopRow.holds Try.pinned (OpenSpec.ofChange stackTopWrong)

/-- 'tympanlaw14.StackMost': WHATEVER THE INPUT: true; the input reads as it did. -/
def stackMostSpec : ChangeSpec := { name := "stackMost", fn := fun _ => fun
  | [d] => { results := [.lit (.bool true)], args := [d] }
  | _ => none }
def stackMostRow : OpenClaim := { program := "ytenmbkngkabonaa", sum := "41bd95f8bb28d105c19dd069e89a19e5b1c1a3c15979a2df884e2c32cb546f2d", func := "tympan/tympanlaw14.StackMost", spec := "stackMost", apart := false }
def StackMostSaid : Prop := stackMostRow.holds Try.pinned (OpenSpec.ofChange stackMostSpec)

/-- ITS FALSE NEIGHBOUR: 'it returns false'. Refute it at one input. -/
def stackMostWrong : ChangeSpec := { name := "stackMost", fn := fun _ => fun
  | [d] => { results := [.lit (.bool false)], args := [d] }
  | _ => none }
def StackMostWrongFalsely : Prop := stackMostRow.holds Try.pinned (OpenSpec.ofChange stackMostWrong)

/-- 'tympanlaw10.ObjTells': WHATEVER THE INPUT: true; the input reads as it did. -/
def objTellsSpec : ChangeSpec := { name := "objTells", fn := fun _ => fun
  | [d1, d2] => { results := [.lit (.bool true)], args := [d1, d2] }
  | _ => none }
def objTellsRow : OpenClaim := { program := "ytenmbkngkabonaa", sum := "41bd95f8bb28d105c19dd069e89a19e5b1c1a3c15979a2df884e2c32cb546f2d", func := "tympan/tympanlaw10.ObjTells", spec := "objTells", unfollowed := true, recurses := true, apart := false }
def ObjTellsSaid : Prop := objTellsRow.holds Try.pinned (OpenSpec.ofChange objTellsSpec)

/-- ITS FALSE NEIGHBOUR: 'it returns false'. Refute it at one input. -/
def objTellsWrong : ChangeSpec := { name := "objTells", fn := fun _ => fun
  | [d1, d2] => { results := [.lit (.bool false)], args := [d1, d2] }
  | _ => none }
def ObjTellsWrongFalsely : Prop := objTellsRow.holds Try.pinned (OpenSpec.ofChange objTellsWrong)

/-- 'tympanlaw10.ObjFixes': WHATEVER THE INPUT: true; the input reads as it did. -/
def objFixesSpec : ChangeSpec := { name := "objFixes", fn := fun _ => fun
  | [d1, d2] => { results := [.lit (.bool true)], args := [d1, d2] }
  | _ => none }
def objFixesRow : OpenClaim := { program := "ytenmbkngkabonaa", sum := "41bd95f8bb28d105c19dd069e89a19e5b1c1a3c15979a2df884e2c32cb546f2d", func := "tympan/tympanlaw10.ObjFixes", spec := "objFixes", unfollowed := true, recurses := true, apart := false }
def ObjFixesSaid : Prop := objFixesRow.holds Try.pinned (OpenSpec.ofChange objFixesSpec)

/-- ITS FALSE NEIGHBOUR: 'it returns false'. Refute it at one input. -/
def objFixesWrong : ChangeSpec := { name := "objFixes", fn := fun _ => fun
  | [d1, d2] => { results := [.lit (.bool false)], args := [d1, d2] }
  | _ => none }
def ObjFixesWrongFalsely : Prop := objFixesRow.holds Try.pinned (OpenSpec.ofChange objFixesWrong)

/-- 'tympanlaw10.ObjExec': WHATEVER THE INPUT: true; the input reads as it did. -/
def objExecSpec : ChangeSpec := { name := "objExec", fn := fun _ => fun
  | [d1, d2, d3, d4] => { results := [.lit (.bool true)], args := [d1, d2, d3, d4] }
  | _ => none }
def objExecRow : OpenClaim := { program := "ytenmbkngkabonaa", sum := "41bd95f8bb28d105c19dd069e89a19e5b1c1a3c15979a2df884e2c32cb546f2d", func := "tympan/tympanlaw10.ObjExec", spec := "objExec", unfollowed := true, recurses := true, apart := false }
def ObjExecSaid : Prop := objExecRow.holds Try.pinned (OpenSpec.ofChange objExecSpec)

/-- ITS FALSE NEIGHBOUR: 'it returns false'. Refute it at one input. -/
def objExecWrong : ChangeSpec := { name := "objExec", fn := fun _ => fun
  | [d1, d2, d3, d4] => { results := [.lit (.bool false)], args := [d1, d2, d3, d4] }
  | _ => none }
def ObjExecWrongFalsely : Prop := objExecRow.holds Try.pinned (OpenSpec.ofChange objExecWrong)

/-- 'tympanlaw14.StackPlays': WHATEVER THE INPUT: true; the input reads as it did. -/
def stackPlaysSpec : ChangeSpec := { name := "stackPlays", fn := fun _ => fun
  | [d1, d2] => { results := [.lit (.bool true)], args := [d1, d2] }
  | _ => none }
def stackPlaysRow : OpenClaim := { program := "ytenmbkngkabonaa", sum := "41bd95f8bb28d105c19dd069e89a19e5b1c1a3c15979a2df884e2c32cb546f2d", func := "tympan/tympanlaw14.StackPlays", spec := "stackPlays", apart := false }
def StackPlaysSaid : Prop := stackPlaysRow.holds Try.pinned (OpenSpec.ofChange stackPlaysSpec)

/-- ITS FALSE NEIGHBOUR: 'it returns false'. Refute it at one input. -/
def stackPlaysWrong : ChangeSpec := { name := "stackPlays", fn := fun _ => fun
  | [d1, d2] => { results := [.lit (.bool false)], args := [d1, d2] }
  | _ => none }
def StackPlaysWrongFalsely : Prop := stackPlaysRow.holds Try.pinned (OpenSpec.ofChange stackPlaysWrong)

/- THE SECOND FORM. 'bulk': how many values and letters a reading holds, each counted each time it is reached (what is shared counts as often as it is met; a slice's spare places count too). A statement '..UptoSaid' is the law's where the arguments, and the package variables that the reading takes, are together of bulk at most 1048576: NARROWER than '..Said'. Prove '..Said' where nothing that the law and all that it calls make is longer than what came in: it says more and counts as full. Else prove '..UptoSaid'. A law counts once. -/
mutual
def uptoBulk {H : Type} : DataW H → Nat
  | .lit (.string bytes) => bytes.length + 1
  | .lit _ => 1
  | .nil => 1
  | .ptr d => uptoBulk d + 1
  | .slice elems spare => uptoBulkAll elems + uptoBulkAll spare + 1
  | .agg parts => uptoBulkAll parts + 1
  | .iface _ d => uptoBulk d + 1
  | .map entries => uptoBulkEntries entries + 1
  | .held _ => 1
def uptoBulkAll {H : Type} : List (DataW H) → Nat
  | [] => 0
  | d :: r => uptoBulk d + uptoBulkAll r
def uptoBulkEntries {H : Type} : List (Lit × DataW H) → Nat
  | [] => 0
  | x :: r => uptoBulkEntry x + uptoBulkEntries r
def uptoBulkEntry {H : Type} : Lit × DataW H → Nat
  | (.string bytes, d) => bytes.length + uptoBulk d + 1
  | (_, d) => uptoBulk d + 1
 end
def uptoSmall : (H : Type) → List (DataW H) → Bool := fun _ ds => decide (uptoBulkAll ds ≤ 1048576)
def OpenSpec.upto (s : _root_.Go.ChangeSpec) : _root_.Go.OpenSpec := { _root_.Go.OpenSpec.ofChange s with cond := some uptoSmall }

/-- 'tympanlaw15.OpTells', WHERE WHAT IT READS IS OF BULK AT MOST 1048576: true; the input reads as it did. -/
def opTellsUptoRow : OpenClaim := { program := "ytenmbkngkabonaa", sum := "41bd95f8bb28d105c19dd069e89a19e5b1c1a3c15979a2df884e2c32cb546f2d", func := "tympan/tympanlaw15.OpTells", spec := "opTells", unfollowed := true, recurses := true, apart := false, narrowed := true }
def OpTellsUptoSaid : Prop := opTellsUptoRow.holds Try.pinned (OpenSpec.upto opTellsSpec)

/-- 'tympanlaw15.OpNames', WHERE WHAT IT READS IS OF BULK AT MOST 1048576: true; the input reads as it did. -/
def opNamesUptoRow : OpenClaim := { program := "ytenmbkngkabonaa", sum := "41bd95f8bb28d105c19dd069e89a19e5b1c1a3c15979a2df884e2c32cb546f2d", func := "tympan/tympanlaw15.OpNames", spec := "opNames", unfollowed := true, recurses := true, apart := false, narrowed := true }
def OpNamesUptoSaid : Prop := opNamesUptoRow.holds Try.pinned (OpenSpec.upto opNamesSpec)

/-- 'tympanlaw14.StackRolls', WHERE WHAT IT READS IS OF BULK AT MOST 1048576: true; the input reads as it did. -/
def stackRollsUptoRow : OpenClaim := { program := "ytenmbkngkabonaa", sum := "41bd95f8bb28d105c19dd069e89a19e5b1c1a3c15979a2df884e2c32cb546f2d", func := "tympan/tympanlaw14.StackRolls", spec := "stackRolls", apart := false, narrowed := true }
def StackRollsUptoSaid : Prop := stackRollsUptoRow.holds Try.pinned (OpenSpec.upto stackRollsSpec)

/-- 'tympanlaw10.ObjOrder', WHERE WHAT IT READS IS OF BULK AT MOST 1048576: true; the input reads as it did. -/
def objOrderUptoRow : OpenClaim := { program := "ytenmbkngkabonaa", sum := "41bd95f8bb28d105c19dd069e89a19e5b1c1a3c15979a2df884e2c32cb546f2d", func := "tympan/tympanlaw10.ObjOrder", spec := "objOrder", apart := false, narrowed := true }
def ObjOrderUptoSaid : Prop := objOrderUptoRow.holds Try.pinned (OpenSpec.upto objOrderSpec)

/-- 'tympanlaw10.ObjFields', WHERE WHAT IT READS IS OF BULK AT MOST 1048576: true; the input reads as it did. -/
def objFieldsUptoRow : OpenClaim := { program := "ytenmbkngkabonaa", sum := "41bd95f8bb28d105c19dd069e89a19e5b1c1a3c15979a2df884e2c32cb546f2d", func := "tympan/tympanlaw10.ObjFields", spec := "objFields", apart := false, narrowed := true }
def ObjFieldsUptoSaid : Prop := objFieldsUptoRow.holds Try.pinned (OpenSpec.upto objFieldsSpec)

/-- 'tympanlaw14.StackMarks', WHERE WHAT IT READS IS OF BULK AT MOST 1048576: true; the input reads as it did. -/
def stackMarksUptoRow : OpenClaim := { program := "ytenmbkngkabonaa", sum := "41bd95f8bb28d105c19dd069e89a19e5b1c1a3c15979a2df884e2c32cb546f2d", func := "tympan/tympanlaw14.StackMarks", spec := "stackMarks", apart := false, narrowed := true }
def StackMarksUptoSaid : Prop := stackMarksUptoRow.holds Try.pinned (OpenSpec.upto stackMarksSpec)

/-- 'tympanlaw14.StackTop', WHERE WHAT IT READS IS OF BULK AT MOST 1048576: true; the input reads as it did. -/
def stackTopUptoRow : OpenClaim := { program := "ytenmbkngkabonaa", sum := "41bd95f8bb28d105c19dd069e89a19e5b1c1a3c15979a2df884e2c32cb546f2d", func := "tympan/tympanlaw14.StackTop", spec := "stackTop", apart := false, narrowed := true }
def StackTopUptoSaid : Prop := stackTopUptoRow.holds Try.pinned (OpenSpec.upto stackTopSpec)

/-- 'tympanlaw14.StackMost', WHERE WHAT IT READS IS OF BULK AT MOST 1048576: true; the input reads as it did. -/
def stackMostUptoRow : OpenClaim := { program := "ytenmbkngkabonaa", sum := "41bd95f8bb28d105c19dd069e89a19e5b1c1a3c15979a2df884e2c32cb546f2d", func := "tympan/tympanlaw14.StackMost", spec := "stackMost", apart := false, narrowed := true }
def StackMostUptoSaid : Prop := stackMostUptoRow.holds Try.pinned (OpenSpec.upto stackMostSpec)

/-- 'tympanlaw10.ObjTells', WHERE WHAT IT READS IS OF BULK AT MOST 1048576: true; the input reads as it did. -/
def objTellsUptoRow : OpenClaim := { program := "ytenmbkngkabonaa", sum := "41bd95f8bb28d105c19dd069e89a19e5b1c1a3c15979a2df884e2c32cb546f2d", func := "tympan/tympanlaw10.ObjTells", spec := "objTells", unfollowed := true, recurses := true, apart := false, narrowed := true }
def ObjTellsUptoSaid : Prop := objTellsUptoRow.holds Try.pinned (OpenSpec.upto objTellsSpec)

/-- 'tympanlaw10.ObjFixes', WHERE WHAT IT READS IS OF BULK AT MOST 1048576: true; the input reads as it did. -/
def objFixesUptoRow : OpenClaim := { program := "ytenmbkngkabonaa", sum := "41bd95f8bb28d105c19dd069e89a19e5b1c1a3c15979a2df884e2c32cb546f2d", func := "tympan/tympanlaw10.ObjFixes", spec := "objFixes", unfollowed := true, recurses := true, apart := false, narrowed := true }
def ObjFixesUptoSaid : Prop := objFixesUptoRow.holds Try.pinned (OpenSpec.upto objFixesSpec)

/-- 'tympanlaw10.ObjExec', WHERE WHAT IT READS IS OF BULK AT MOST 1048576: true; the input reads as it did. -/
def objExecUptoRow : OpenClaim := { program := "ytenmbkngkabonaa", sum := "41bd95f8bb28d105c19dd069e89a19e5b1c1a3c15979a2df884e2c32cb546f2d", func := "tympan/tympanlaw10.ObjExec", spec := "objExec", unfollowed := true, recurses := true, apart := false, narrowed := true }
def ObjExecUptoSaid : Prop := objExecUptoRow.holds Try.pinned (OpenSpec.upto objExecSpec)

/-- 'tympanlaw14.StackPlays', WHERE WHAT IT READS IS OF BULK AT MOST 1048576: true; the input reads as it did. -/
def stackPlaysUptoRow : OpenClaim := { program := "ytenmbkngkabonaa", sum := "41bd95f8bb28d105c19dd069e89a19e5b1c1a3c15979a2df884e2c32cb546f2d", func := "tympan/tympanlaw14.StackPlays", spec := "stackPlays", apart := false, narrowed := true }
def StackPlaysUptoSaid : Prop := stackPlaysUptoRow.holds Try.pinned (OpenSpec.upto stackPlaysSpec)

end Rows
end Go.Proofs.Ytenmbkngkabonaa
