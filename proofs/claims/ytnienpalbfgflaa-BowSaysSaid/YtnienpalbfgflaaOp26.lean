/- Edges and slices of whole numbers among a law's arguments, opened. -/
import Derived.Test.YtnienpalbfgflaaS3k
import Derived.Test.YtnienpalbfgflaaBW14
import Derived.Lib.SmallJoins
namespace Go.Proofs.Ytnienpalbfgflaa
set_option linter.unusedVariables false
open Go.Joins Go.ChangeShapes Go.WideShapes Go.ChangeAt Go.RowKit

theorem cellsEd : Try.prog.cellsOf 25 = 7 := by kernel_rfl
theorem cellsI : Try.prog.cellsOf 3 = 1 := by kernel_rfl
theorem cellsB : Try.prog.cellsOf 4 = 1 := by kernel_rfl
section
variable {H : Type} {enc : TypeId × Value → H} {w : World} {base : Nat} {spare : Nat → Bool} {held : Bool}
theorem cells_int {fuel : Nat} {c : List Value} {y : DataW H × List MemPlace} (hl : c.length = 1) (hf : DataW.trod enc Try.prog w base spare held fuel 3 c = some y) : ∃ x : Int, c = [.int .i64 x] := by
  match c, hl with
  | [c0], _ =>
    obtain ⟨k, e0, rfl, w0⟩ := DataW.trod_int Try.underlying3 hf
    simp at e0
    subst e0
    exact ⟨k, rfl⟩
end
section
variable {H : Type} {enc : TypeId × Value → H} {W : World} {r : Reach} {b0 : Nat} {v : Value} {d : DataW H} {ps : List MemPlace}
theorem open_edge (hv : Value.okWide Try.prog W r b0 25 v) (h : DataW.Trod enc Try.prog W 0 (fun _ => true) true 25 v d ps) : ∃ e : Pl.Ed, v = edv e ∧ Ed64 e := by
  obtain ⟨cs, rfl, hsz⟩ := okWide_struct Try.underlying25 hv
  obtain ⟨z⟩ := cs
  match z, hsz.trans cellsEd with
  | [c0, c1, c2, c3, c4, c5, c6], _ =>
    obtain ⟨fuel, hf⟩ := h
    obtain ⟨xs, m, _, hx, _, hlen, hg⟩ := DataW.trod_struct Try.underlying25 hf
    match xs, hlen with
    | [y0, y1, y2, y3, y4, y5, y6], _ =>
      obtain ⟨a, e0, rfl, w0⟩ := DataW.trod_int Try.underlying3 (hg 0 _ rfl)
      obtain ⟨b, e1, rfl, w1⟩ := DataW.trod_int Try.underlying3 (hg 1 _ rfl)
      obtain ⟨c, e2, rfl⟩ := DataW.trod_bool Try.underlying4 (hg 2 _ rfl)
      obtain ⟨d, e3, rfl, w3⟩ := DataW.trod_int Try.underlying3 (hg 3 _ rfl)
      obtain ⟨e, e4, rfl, w4⟩ := DataW.trod_int Try.underlying3 (hg 4 _ rfl)
      obtain ⟨f, e5, rfl, w5⟩ := DataW.trod_int Try.underlying3 (hg 5 _ rfl)
      obtain ⟨g, e6, rfl, w6⟩ := DataW.trod_int Try.underlying3 (hg 6 _ rfl)
      simp [Value.cells, cellsI, cellsB] at e0 e1 e2 e3 e4 e5 e6
      subst e0 e1 e2 e3 e4 e5 e6
      simp [Lit.wf, IntKind.min, IntKind.max, IntKind.signed, IntKind.bits] at w0 w1 w3 w4 w5 w6
      exact ⟨⟨a, b, c, d, e, f, g⟩, rfl, ⟨w0.1, by have := w0.2; simp only; omega⟩, ⟨w1.1, by have := w1.2; simp only; omega⟩, ⟨w3.1, by have := w3.2; simp only; omega⟩, ⟨w4.1, by have := w4.2; simp only; omega⟩, ⟨w5.1, by have := w5.2; simp only; omega⟩, ⟨w6.1, by have := w6.2; simp only; omega⟩⟩
theorem open_ints (hval : Value.okWide Try.prog W r b0 22 v) (hd : DataW.Trod enc Try.prog W 0 (fun _ => true) true 22 v d ps) : ∃ L : List Int, RdI v L W ∧ L.length ≤ maxLen := by
  obtain ⟨els, hE⟩ := open_els Try.underlying22 (by rw [cellsI]; omega) hval hd
  obtain ⟨A, rfl⟩ := hE.rows (fun q : Int => [.int .i64 q]) (fun c fuel y hl hy => cells_int (hl.trans cellsI) hy)
  obtain ⟨ao, cap, rfl, hcp, hm, _, h⟩ := hE
  rw [List.length_map] at hm hcp
  refine ⟨A, ⟨ao, cap, by rw [List.length_map], hcp, ?_⟩, hm⟩
  rcases h with h | ⟨g, o, rfl, hg, h⟩
  · exact .inl (List.map_eq_nil_iff.1 h)
  · refine .inr ⟨g, o, rfl, hg, fun j b hb => ?_⟩
    have := h j [.int .i64 b] (by rw [List.getElem?_map, hb]; rfl) 0 (.int .i64 b) rfl
    rw [cellsI, Nat.mul_one, Nat.add_zero] at this
    exact this
end
end Go.Proofs.Ytnienpalbfgflaa
