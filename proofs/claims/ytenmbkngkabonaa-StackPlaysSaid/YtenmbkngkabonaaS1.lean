/- An object among a law's arguments: its value opened to six fields, and read again in any world. -/
import Derived.Test.YtenmbkngkabonaaO1
import Derived.Lib.SmallJoins
import Derived.ChangeSame
import Derived.ChangeArms
import Derived.WalkKit
import Derived.OpenShut
namespace Go.Proofs.Ytenmbkngkabonaa
set_option linter.unusedVariables false
open Go.Joins Go.ChangeShapes Go.WideShapes Go.RowKit Go.Deep

abbrev obd {H : Type} (k : Int) (x : Bool) (n a l : Int) (s : ByteArray) : DataW H := .agg [.lit (.int .i64 k), .lit (.bool x), .lit (.int .i64 n), .lit (.int .i64 a), .lit (.int .i64 l), .lit (.string s.data.toList)]
abbrev obw (k n a l : Int) (s : ByteArray) : Prop := (Lit.int .i64 k).wf = true ∧ (Lit.int .i64 n).wf = true ∧ (Lit.int .i64 a).wf = true ∧ (Lit.int .i64 l).wf = true ∧ s.size ≤ maxLen
theorem cellsOb : Try.prog.cellsOf 38 = 6 := by kernel_rfl
theorem cellsI : Try.prog.cellsOf 3 = 1 := by kernel_rfl
theorem cellsB : Try.prog.cellsOf 4 = 1 := by kernel_rfl
theorem cellsS : Try.prog.cellsOf 9 = 1 := by kernel_rfl

section
variable {H : Type} {enc : TypeId × Value → H} {w : World} {base : Nat} {spare : Nat → Bool} {held : Bool}
theorem open_obj {r : Reach} {b0 : Nat} {v : Value} {d : DataW H} {p : List MemPlace} (hv : Value.okWide Try.prog w r b0 38 v) (h : DataW.Trod enc Try.prog w base spare held 38 v d p) :
    ∃ (k : Int) (x : Bool) (n a l : Int) (s : ByteArray), v = obv k x n a l s ∧ d = obd k x n a l s ∧ p = [] ∧ obw k n a l s := by
  obtain ⟨cs, rfl, hsz⟩ := okWide_struct Try.underlying38 hv
  obtain ⟨z⟩ := cs
  match z, hsz.trans cellsOb with
  | [c0, c1, c2, c3, c4, c5], _ =>
    obtain ⟨fuel, hf⟩ := h
    obtain ⟨xs, m, _, hx, _, hlen, hg⟩ := DataW.trod_struct Try.underlying38 hf
    match xs, hlen with
    | [y0, y1, y2, y3, y4, y5], _ =>
      obtain ⟨k, e0, rfl, w0⟩ := DataW.trod_int Try.underlying3 (hg 0 _ rfl)
      obtain ⟨x, e1, rfl⟩ := DataW.trod_bool Try.underlying4 (hg 1 _ rfl)
      obtain ⟨n, e2, rfl, w2⟩ := DataW.trod_int Try.underlying3 (hg 2 _ rfl)
      obtain ⟨a, e3, rfl, w3⟩ := DataW.trod_int Try.underlying3 (hg 3 _ rfl)
      obtain ⟨l, e4, rfl, w4⟩ := DataW.trod_int Try.underlying3 (hg 4 _ rfl)
      obtain ⟨s, e5, rfl, w5⟩ := DataW.trod_string Try.underlying9 (hg 5 _ rfl)
      simp [Value.cells, cellsI, cellsB, cellsS] at e0 e1 e2 e3 e4 e5 hx
      subst e0 e1 e2 e3 e4 e5
      exact ⟨k, x, n, a, l, s, rfl, hx.1, hx.2, w0, w2, w3, w4, w5⟩
theorem shut_obj {k : Int} (x : Bool) {n a l : Int} {s : ByteArray} (h : obw k n a l s) : DataW.Trod enc Try.prog w base spare held 38 (obv k x n a l s) (obd k x n a l s) [] := by
  obtain ⟨w0, w2, w3, w4, w5⟩ := h
  have t1 := trod_struct_mk (enc := enc) (w := w) (base := base) (spare := spare) (held := held) (n := 1) (cs := [.int .i64 k, .bool x, .int .i64 n, .int .i64 a, .int .i64 l, .string s])
    (xs := [(.lit (.int .i64 k), []), (.lit (.bool x), []), (.lit (.int .i64 n), []), (.lit (.int .i64 a), []), (.lit (.int .i64 l), []), (.lit (.string s.data.toList), [])]) Try.underlying38 (by rw [cellsOb]; rfl)
    (by simp [cellsI, cellsB, cellsS, DataW.trod, Try.underlying3, Try.underlying4, Try.underlying9, w0, w2, w3, w4, w5])
  exact ⟨2, by simpa [Value.cells] using t1⟩
end
end Go.Proofs.Ytenmbkngkabonaa
