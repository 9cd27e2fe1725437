/- Small words that all walks of this claim share: results by their numbers, worlds that have only grown, regions whose calls only let the world grow. -/
import Derived.WalkKit
import Derived.WalkSpells
import Derived.WalkLawsBesides
import Derived.Deep.QuietTactic
import Derived.BigQuiet
import Derived.ProofKit
namespace Go.Proofs.Ytnienpalbfgflaa
set_option linter.unusedVariables false
open Go.RowKit

theorem ret_int {k : IntKind} {a b : Int} (h : a = b) : Ending.returned (.int k a) = .returned (.int k b) := by rw [h]
theorem ret2_int {k k' : IntKind} {a b a' b' : Int} (h : a = b) (h' : a' = b') : Ending.returned (.tuple #[.int k a, .int k' a']) = .returned (.tuple #[.int k b, .int k' b']) := by rw [h, h']
theorem ret_bool {a b : Bool} (h : a = b) : Ending.returned (.bool a) = .returned (.bool b) := by rw [h]
theorem ret_ib {k : IntKind} {a b : Int} {x y : Bool} (h : a = b) (h' : x = y) : Ending.returned (.tuple #[.int k a, .bool x]) = .returned (.tuple #[.int k b, .bool y]) := by rw [h, h']

theorem grown_drewN {W w' : World} (h : Grown W w') (n : Nat) : Grown W (w'.drewN n) := h
theorem grown_trans {a b c : World} (h : Grown a b) (k : Grown b c) : Grown a c :=
  ⟨World.keptBut_trans h.1 (World.keptBut_mono (fun _ f => f) k.1), fun x => (k.2.1 x).trans (h.2.1 x), Nat.le_trans h.2.2 k.2.2⟩
theorem grown_eq {W w' : World} (h : W = w') : Grown W w' := h ▸ Grown.refl W

/-- A region that draws its order, whose operations only reckon, and whose calls let the world grow: one walk in the order of the text. -/
theorem wp_region_grown {P : Program} {id : Nat} {Q : Exit → Act → World → Prop} {a : Act} {w : World} {l : List Oper} (hm : P.follows .mixedOrders = true) (hB : Region.lexB .any l.toArray = true)
    (h : wpQuiet P l.toArray (Grown w) (fun a' => ∀ w', Grown w w' → Q .normal a' w') l a) : (Code.region id l.toArray true).wp P Q a w :=
  wp_region_quiet (C := Grown w) hm hB (Grown.drew (Grown.refl w)) (by simpa using h)

/-- A callee that lets the world grow, met in such a region. -/
theorem calls_grown {P : Program} {f : FuncId} {args : Array Value} {w0 w : World} {v : Value} (hg : Grown w0 w)
    (h : Calls P f args w fun e w' => e = .returned v ∧ Grown w w') : Calls P f args w fun e w' => e = .returned v ∧ Grown w0 w' :=
  h.mono fun _ _ ⟨he, hw⟩ => ⟨he, grown_trans hg hw⟩
theorem calls_same {P : Program} {f : FuncId} {args : Array Value} {w : World} {v : Value}
    (h : Calls P f args w fun e w' => e = .returned v ∧ w = w') : Calls P f args w fun e w' => e = .returned v ∧ Grown w w' :=
  h.mono fun _ _ ⟨he, hw⟩ => ⟨he, grown_eq hw⟩
end Go.Proofs.Ytnienpalbfgflaa
