/- The operators' text, out of the program, and what a scan of it yields: no walk. -/
import Derived.Test.YtenmbkngkabonaaRows
import Derived.WalkKit
namespace Go.Proofs.Ytenmbkngkabonaa
set_option linter.unusedVariables false
open Go.RowKit

/-- the text over which a function ranges first -/
def rangedText (f : Func) : ByteArray :=
  match f.body with
  | some (.seq _ (.seq (.region _ ops _) _)) => (match ops[0]? with | some o => (match o.op with | .range _ (.const (.string t)) => t | _ => ⟨#[]⟩) | none => ⟨#[]⟩)
  | _ => ⟨#[]⟩
/-- what is yielded: number, family, where it begins and where it ends -/
def Pl.scan : List UInt8 → Nat → Nat → Nat → Nat → List (Nat × Nat × Nat × Nat)
  | [], _, _, _, _ => []
  | b :: r, i, n, f, s => if b = 10 then Pl.scan r (i + 1) n (f + 1) (i + 1) else if b = 32 then (n, f, s, i) :: Pl.scan r (i + 1) (n + 1) f (i + 1) else Pl.scan r (i + 1) n f s
def Pl.yields (T : ByteArray) : List (Nat × Nat × Nat × Nat) := Pl.scan T.data.toList 0 1 1 0
def Pl.wordL (T : ByteArray) (y : Nat × Nat × Nat × Nat) : List UInt8 := (T.data.toList.drop y.2.2.1).take (y.2.2.2 - y.2.2.1)

def Pl.upTo : Nat → List (Nat × Nat × Nat × Nat) → Bool
  | _, [] => true
  | k, y :: r => y.1 == k && decide (1 ≤ y.2.1) && decide (y.2.1 ≤ 6) && decide (y.2.2.1 < y.2.2.2) && Pl.upTo (k + 1) r
def Pl.rise : Nat → List (Nat × Nat × Nat × Nat) → Bool
  | _, [] => true
  | f, y :: r => decide (f ≤ y.2.1) && Pl.rise y.2.1 r
def Pl.apart : List (List UInt8) → Bool
  | [] => true
  | a :: r => r.all (fun b => a != b) && Pl.apart r

theorem opT_ascii : (rangedText Try.f58).data.toList.all (fun b => decide (b < 128)) = true := by decide +kernel
theorem opT_len : (Pl.yields (rangedText Try.f58)).length = 162 := by decide +kernel
theorem opT_upTo : Pl.upTo 1 (Pl.yields (rangedText Try.f58)) = true := by decide +kernel
theorem opT_rise : Pl.rise 1 (Pl.yields (rangedText Try.f58)) = true := by decide +kernel
theorem opT_apart : Pl.apart ((Pl.yields (rangedText Try.f58)).map (Pl.wordL (rangedText Try.f58))) = true := by decide +kernel
end Go.Proofs.Ytenmbkngkabonaa
