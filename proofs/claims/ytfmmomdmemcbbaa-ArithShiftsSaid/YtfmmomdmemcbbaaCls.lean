/- A region that draws its order, walked once: its operations read, its calls keep a class of worlds; the class of worlds that have some cells. -/
import Derived.Test.YtfmmomdmemcbbaaM6
import Derived.Deep.Quiet
import Derived.Deep.QuietTactic
namespace Go.Proofs.Ytfmmomdmemcbbaa
set_option linter.unusedVariables false
open Go.RowKit

/-- the walk in the text's order, closed to evaluation -/
@[irreducible] def wpQ (P : Program) (ops : Array Oper) (C : World → Prop) (Q : Act → Prop) (l : List Oper) (a : Act) : Prop := wpQuiet P ops C Q l a
@[irreducible] def qAt (P : Program) (o : Oper) (a : Act) (C : World → Prop) (w : World) (v : Value) : Prop := o.quietAt P a C w v
theorem wp_region_class {P : Program} {C : World → Prop} {id : Nat} {Q : Exit → Act → World → Prop} {a : Act} {w : World} {l : List Oper} (hm : P.follows .mixedOrders = true) (hB : Region.lexB .any l.toArray = true) (hC : C w.drew)
    (h : wpQ P l.toArray C (fun a' => ∀ w', C w' → Q .normal a' w') l a) : (Code.region id l.toArray true).wp P Q a w :=
  wp_region_quiet (C := C) hm hB hC (by unfold wpQ at h; simpa using h)
/-- a wanted operation -/
theorem quiet_yes {P : Program} {ops : Array Oper} {C : World → Prop} {Q : Act → Prop} {a : Act} {o : Oper} {rest : List Oper} (v : Value) (hw : Region.wanted o (yielded ops a.tmps) = true) (h : ∀ w, C w → qAt P o a C w v)
    (k : wpQ P ops C Q rest (a.put o.dst v)) : wpQ P ops C Q (o :: rest) a := by
  unfold wpQ at k ⊢
  unfold qAt at h
  unfold wpQuiet
  rw [if_pos hw]
  exact ⟨v, h, k⟩
/-- one that is not wanted -/
theorem quiet_no {P : Program} {ops : Array Oper} {C : World → Prop} {Q : Act → Prop} {a : Act} {o : Oper} {rest : List Oper} (hw : Region.wanted o (yielded ops a.tmps) = false)
    (k : wpQ P ops C Q rest (a.put o.dst undef)) : wpQ P ops C Q (o :: rest) a := by
  unfold wpQ at k ⊢
  unfold wpQuiet
  rw [if_neg (by rw [hw]; exact Bool.false_ne_true)]
  exact k
theorem quiet_nil {P : Program} {ops : Array Oper} {C : World → Prop} {Q : Act → Prop} {a : Act} (h : Q a) : wpQ P ops C Q [] a := by
  unfold wpQ
  exact wpQuiet_nil h
/-- worlds, kept since w, that have these cells -/
def Cells (w : World) : List (Addr × Value) → World → Prop
  | [], Z => Fr (fun _ => False) w Z
  | c :: R, Z => Z.cell? c.1 = some c.2 ∧ Cells w R Z
theorem Cells.fr {w Z Z' : World} (k : Fr (fun _ => False) Z Z') : ∀ {R : List (Addr × Value)}, Cells w R Z → Cells w R Z'
  | [], h => Fr.trans h k
  | c :: R, h => ⟨(k.cell (a := c.1) (block_lt_of_cell h.1) (fun f => f)).trans h.1, Cells.fr k h.2⟩
theorem Cells.frame {w Z : World} : ∀ {R : List (Addr × Value)}, Cells w R Z → Fr (fun _ => False) w Z
  | [], h => h
  | c :: R, h => Cells.frame h.2
/-- a contract whose world is kept keeps the class -/
theorem Cells.lift {P : Program} {f : FuncId} {args : Array Value} {v : Value} {w Z : World} {R : List (Addr × Value)} (h : Cells w R Z) (c : Calls P f args Z fun e w' => e = .returned v ∧ Fr (fun _ => False) Z w') : Calls P f args Z fun e w' => e = .returned v ∧ Cells w R w' :=
  c.mono fun e w' hh => ⟨hh.1, h.fr hh.2⟩
end Go.Proofs.Ytfmmomdmemcbbaa
