/- An array literal of many numbers, made in one region: three laws for its three operations. -/
import Derived.Test.YtnienpalbfgflaaKit
namespace Go.Proofs.Ytnienpalbfgflaa
set_option linter.unusedVariables false
open Go.RowKit

section
variable {P : Program} {ops : Array Oper} {rest : List Oper} {o : Oper} {a : Act} {w : World} {Q : Exit → Act → World → Prop}

theorem wpList_build_to (hg : o.guard = none) (t : TypeId) (parts : Array (Nat × Operand)) (ho : o.op = .build t parts) (A : Array Value)
    (hf : P.built t (parts.map fun (i, x) => (i, a.eval x)).toList = some A)
    (h : wpList P ops Q rest (a.put o.dst (.agg A)) w) : wpList P ops Q (o :: rest) a w :=
  wpList_build hg t parts ho (by rw [hf]; rfl) (by rw [hf]; exact h)

theorem wpList_alloc_to (hg : o.guard = none) (t : TypeId) (ho : o.op = .alloc t) (Z : Array Value)
    (hr : (Instr.alloc t true (.tuple #[])).run P w = .ok (.pointer (some ⟨w.heap.size, 0, none⟩)) (w.alloc (.cells Z t)))
    (h : wpList P ops Q rest (a.put o.dst (.pointer (some ⟨w.heap.size, 0, none⟩))) (w.alloc (.cells Z t))) : wpList P ops Q (o :: rest) a w := by
  refine wpList_plain hg fun _ hK => ?_
  unfold Oper.wp execOp
  simp only [ho, Sem.run_bind, hr, Result.andThen_ok]
  exact hK _ _ h

theorem setRow_new (w : World) (Z A : Array Value) (t : TypeId) : (w.alloc (.cells Z t)).setRow w.heap.size A = w.alloc (.cells A t) := by
  unfold World.setRow World.alloc
  congr 1
  apply Array.ext
  · simp
  · intro i h1 h2
    simp only [Array.getElem_modify]
    by_cases e : w.heap.size = i
    · subst e; simp
    · rw [if_neg e]
      have : i < w.heap.size := by simp at h2; omega
      simp [Array.getElem_push, this]

theorem wpList_store_new (hgd : o.guard = none) (ty : TypeId) (x y : Operand) (ho : o.op = .store ty x y)
    (Z A : Array Value) (hx : a.eval x = .pointer (some ⟨w.heap.size, 0, none⟩)) (hy : a.eval y = .agg A)
    (hi : (P.info? ty).map (·.size) = some A.size) (hold : Z.size = A.size) (h1 : A.all (·.oneCell') = true)
    (h : wpList P ops Q rest (a.put o.dst undef) (w.alloc (.cells A ty))) : wpList P ops Q (o :: rest) a (w.alloc (.cells Z ty)) := by
  refine wpList_store_row hgd ty x y ho w.heap.size A hx hy ty Z (heap_alloc_new w _) hi hold h1 ?_
  rw [setRow_new]
  exact h
end
theorem grown_cell {W w' : World} (h : Grown W w') {b off : Nat} {v : Value} (hc : W.cell? ⟨b, off, none⟩ = some v) : w'.cell? ⟨b, off, none⟩ = some v := by
  have hb : b < W.heap.size := block_lt_of_cell hc
  rw [h.1.cell hb (fun h => h)]
  exact hc
end Go.Proofs.Ytnienpalbfgflaa
