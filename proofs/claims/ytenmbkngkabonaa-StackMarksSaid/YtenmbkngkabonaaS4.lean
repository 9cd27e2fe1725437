/- A slice of bools among a law's arguments, opened. -/
import Derived.Test.YtenmbkngkabonaaS3
import Derived.Test.YtenmbkngkabonaaT23
namespace Go.Proofs.Ytenmbkngkabonaa
set_option linter.unusedVariables false
open Go.ChangeShapes Go.WideShapes Go.ChangeAt Go.RowKit

theorem open_bools {H : Type} {enc : TypeId × Value → H} {P : Program} {W : World} {r : Reach} {b0 : Nat} {t e : TypeId} {v : Value} {d : DataW H} {ps : List MemPlace} (ht : P.underlying t = some (.slice e)) (he : P.underlying e = some .bool) (hc : P.cellsOf e = 1) (hval : Value.okWide P W r b0 t v)
    (hd : DataW.Trod enc P W 0 (fun _ => true) true t v d ps) : ∃ bs, RowB W v bs := by
  obtain ⟨els, hE⟩ := open_els ht (by omega) hval hd
  obtain ⟨bs, rfl⟩ := hE.rows (fun b : Bool => [Value.bool b]) (fun c fuel y _ hy => by
    obtain ⟨b, hb, _⟩ := DataW.trod_bool he hy
    exact ⟨b, hb⟩)
  obtain ⟨ao, cap, rfl, _, hm, _, h⟩ := hE
  refine ⟨bs, ao, cap, by rw [List.length_map], by rw [List.length_map] at hm; exact hm, ?_⟩
  rcases h with h | ⟨g, o, rfl, hg, h⟩
  · exact .inl (List.map_eq_nil_iff.1 h)
  · refine .inr ⟨g, o, rfl, hg, fun i b hb => ?_⟩
    have := h i [.bool b] (by rw [List.getElem?_map, hb]; rfl) 0 (.bool b) rfl
    rw [hc, Nat.mul_one] at this
    exact this
end Go.Proofs.Ytenmbkngkabonaa
