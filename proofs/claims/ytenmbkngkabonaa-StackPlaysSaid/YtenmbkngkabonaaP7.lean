/- tympanref15.names: the lists of names, out of the program itself. -/
import Derived.Test.YtenmbkngkabonaaP6
import Derived.Below
import Derived.Laws.AppendOwn
namespace Go.Proofs.Ytenmbkngkabonaa
set_option linter.unusedVariables false
open Go.RowKit

/-- the operations of a piece of code, in its order -/
def Pl.opsOf : Code → List Oper
  | .region _ ops _ => ops.toList
  | .seq a b => Pl.opsOf a ++ Pl.opsOf b
  | .cond _ a b => Pl.opsOf a ++ Pl.opsOf b
  | .block _ b => Pl.opsOf b
  | .loop b => Pl.opsOf b
  | .scope b => Pl.opsOf b
  | _ => []
/-- the arrays that it builds of constants -/
def Pl.builts (f : Func) : List (Array Value) :=
  match f.body with
  | some c => (Pl.opsOf c).filterMap fun o => match o.op with
    | .buildSlice _ _ vs => some (vs.map fun p => match p.2 with | .const v => v | _ => .bool false)
    | _ => none
  | none => []
/-- those of a family, from 0 on -/
def Pl.refA (f : Func) (k : Nat) : Array Value := (Pl.builts f).getD k #[]

theorem refA_sizes : (Pl.refA Try.f64 0).size = 38 ∧ (Pl.refA Try.f64 1).size = 20 ∧ (Pl.refA Try.f64 2).size = 13 ∧ (Pl.refA Try.f64 3).size = 9 ∧ (Pl.refA Try.f64 4).size = 21 ∧ (Pl.refA Try.f64 5).size = 61 := by
  refine ⟨by kernel_rfl, by kernel_rfl, by kernel_rfl, by kernel_rfl, by kernel_rfl, by kernel_rfl⟩

set_option maxRecDepth 100000 in
theorem refnames_1 (w : World) :
    Calls Try.prog 64 #[.int .i64 1] w fun e w' => e = .returned (.slice (some ⟨w.heap.size, 0, none⟩) 38 38) ∧ w' = w.alloc (.cells (Pl.refA Try.f64 0) 9) := by
  go_enter Try.func64, Try.ntmps64
  go_wp2_with fail
  go_ret
  exact ⟨rfl, by congr 2; kernel_rfl⟩

set_option maxRecDepth 100000 in
theorem refnames_2 (w : World) :
    Calls Try.prog 64 #[.int .i64 2] w fun e w' => e = .returned (.slice (some ⟨w.heap.size, 0, none⟩) 20 20) ∧ w' = w.alloc (.cells (Pl.refA Try.f64 1) 9) := by
  go_enter Try.func64, Try.ntmps64
  go_wp2_with fail
  go_ret
  exact ⟨rfl, by congr 2; kernel_rfl⟩

set_option maxRecDepth 100000 in
theorem refnames_3 (w : World) :
    Calls Try.prog 64 #[.int .i64 3] w fun e w' => e = .returned (.slice (some ⟨w.heap.size, 0, none⟩) 13 13) ∧ w' = w.alloc (.cells (Pl.refA Try.f64 2) 9) := by
  go_enter Try.func64, Try.ntmps64
  go_wp2_with fail
  go_ret
  exact ⟨rfl, by congr 2; kernel_rfl⟩

set_option maxRecDepth 100000 in
theorem refnames_4 (w : World) :
    Calls Try.prog 64 #[.int .i64 4] w fun e w' => e = .returned (.slice (some ⟨w.heap.size, 0, none⟩) 9 9) ∧ w' = w.alloc (.cells (Pl.refA Try.f64 3) 9) := by
  go_enter Try.func64, Try.ntmps64
  go_wp2_with fail
  go_ret
  exact ⟨rfl, by congr 2; kernel_rfl⟩

set_option maxRecDepth 100000 in
theorem refnames_5 (w : World) :
    Calls Try.prog 64 #[.int .i64 5] w fun e w' => e = .returned (.slice (some ⟨w.heap.size, 0, none⟩) 21 21) ∧ w' = w.alloc (.cells (Pl.refA Try.f64 4) 9) := by
  go_enter Try.func64, Try.ntmps64
  go_wp2_with fail
  go_ret
  exact ⟨rfl, by congr 2; kernel_rfl⟩

set_option maxRecDepth 100000 in
theorem refnames_6 (w : World) :
    Calls Try.prog 64 #[.int .i64 6] w fun e w' => e = .returned (.slice (some ⟨w.heap.size, 0, none⟩) 61 61) ∧ w' = w.alloc (.cells (Pl.refA Try.f64 5) 9) := by
  go_enter Try.func64, Try.ntmps64
  go_wp2_with fail
  go_ret
  exact ⟨rfl, by congr 2; kernel_rfl⟩
end Go.Proofs.Ytenmbkngkabonaa
