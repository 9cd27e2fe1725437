/- A slice of things to do among a law's arguments, opened. -/
import Derived.Test.YtenmbkngkabonaaS1
import Derived.Test.YtenmbkngkabonaaS3
import Derived.Test.YtenmbkngkabonaaT33
namespace Go.Proofs.Ytenmbkngkabonaa
set_option linter.unusedVariables false
open Go.Joins Go.ChangeShapes Go.WideShapes Go.ChangeAt Go.RowKit Go.Deep

theorem cellsDo : Try.prog.cellsOf 73 = 10 := by kernel_rfl
theorem cellsSl : Try.prog.cellsOf 32 = 1 := by kernel_rfl

section
variable {H : Type} {enc : TypeId × Value → H} {w : World} {base : Nat} {spare : Nat → Bool} {held : Bool}
/-- the cells of an object -/
theorem cells_obj {fuel : Nat} {c : List Value} {y : DataW H × List MemPlace} (hl : c.length = 6) (hf : DataW.trod enc Try.prog w base spare held fuel 38 c = some y) : ∃ o : Pl.Ob, c = Pl.oc o ∧ o.2.2.2.2.2.size ≤ maxLen := by
  match c, hl with
  | [c0, c1, c2, c3, c4, c5], _ =>
    obtain ⟨xs, m, _, hx, _, hlen, hg⟩ := DataW.trod_struct Try.underlying38 hf
    match xs, hlen with
    | [y0, y1, y2, y3, y4, y5], _ =>
      obtain ⟨k, e0, rfl, w0⟩ := DataW.trod_int Try.underlying3 (hg 0 _ rfl)
      obtain ⟨x, e1, rfl⟩ := DataW.trod_bool Try.underlying4 (hg 1 _ rfl)
      obtain ⟨n, e2, rfl, w2⟩ := DataW.trod_int Try.underlying3 (hg 2 _ rfl)
      obtain ⟨a, e3, rfl, w3⟩ := DataW.trod_int Try.underlying3 (hg 3 _ rfl)
      obtain ⟨l, e4, rfl, w4⟩ := DataW.trod_int Try.underlying3 (hg 4 _ rfl)
      obtain ⟨s, e5, rfl, w5⟩ := DataW.trod_string Try.underlying9 (hg 5 _ rfl)
      simp [cellsI, cellsB, cellsS] at e0 e1 e2 e3 e4 e5
      subst e0 e1 e2 e3 e4 e5
      exact ⟨(k, x, n, a, l, s), rfl, w5⟩
end
section
variable {H : Type} {enc : TypeId × Value → H} {W : World}
/-- a slice of objects of the caller's -/
theorem row_objs {fuel : Nat} {v : Value} {y : DataW H × List MemPlace} (hf : DataW.trod enc Try.prog W 0 (fun _ => true) true fuel 32 [v] = some y) : ∃ A : List Pl.Ob, RowV W v A ∧ A.length ≤ maxLen := by
  obtain ⟨els, hE⟩ := trod_els Try.underlying32 (by rw [cellsOb]; omega) hf
  obtain ⟨A, rfl⟩ := hE.rows Pl.oc (fun c fuel y hl hy => by
    obtain ⟨o, ho, _⟩ := cells_obj (hl.trans cellsOb) hy
    exact ⟨o, ho⟩)
  obtain ⟨ao, cap, rfl, _, hm, _, h⟩ := hE
  rw [List.length_map] at hm
  refine ⟨A, ⟨ao, cap, by rw [List.length_map], ?_⟩, hm⟩
  rcases h with h | ⟨g, o, rfl, hg, h⟩
  · exact .inl (List.map_eq_nil_iff.1 h)
  · refine .inr ⟨g, o, rfl, hg, fun j u hu => ?_⟩
    have hj := (List.getElem?_eq_some_iff.1 hu).1
    rw [Pl.flat_len] at hj
    obtain ⟨q, hq⟩ : ∃ q, A[j / 6]? = some q := ⟨_, List.getElem?_eq_getElem (by omega)⟩
    have hr := Pl.flat_get A (j / 6) q hq (j % 6) (by omega)
    rw [show j / 6 * 6 + j % 6 = j from by omega, hu] at hr
    have := h (j / 6) (Pl.oc q) (by rw [List.getElem?_map, hq]; rfl) (j % 6) u hr.symm
    rw [cellsOb, show o + j / 6 * 6 + j % 6 = o + j from by omega] at this
    exact this
/-- the cells of a thing to do -/
theorem cells_do {fuel : Nat} {c : List Value} {y : DataW H × List MemPlace} (hl : c.length = 10) (hf : DataW.trod enc Try.prog W 0 (fun _ => true) true fuel 73 c = some y) : ∃ d : Pl.Do, c = Pl.dc d ∧ (∃ A : List Pl.Ob, RowV W d.2.2.2.2 A ∧ A.length ≤ maxLen) ∧ d.2.2.2.1.2.2.2.2.2.size ≤ maxLen := by
  match c, hl with
  | [c0, c1, c2, c3, c4, c5, c6, c7, c8, c9], _ =>
    obtain ⟨xs, m, _, hx, _, hlen, hg⟩ := DataW.trod_struct Try.underlying73 hf
    match xs, hlen with
    | [y0, y1, y2, y3, y4], _ =>
      obtain ⟨wh, e0, rfl, w0⟩ := DataW.trod_int Try.underlying3 (hg 0 _ rfl)
      obtain ⟨n, e1, rfl, w1⟩ := DataW.trod_int Try.underlying3 (hg 1 _ rfl)
      obtain ⟨mm, e2, rfl, w2⟩ := DataW.trod_int Try.underlying3 (hg 2 _ rfl)
      have h3 := hg 3 _ rfl
      have h4 := hg 4 _ rfl
      simp [cellsOb, cellsSl] at h3 h4
      obtain ⟨q, hq, hqs⟩ := cells_obj (by simp) h3
      obtain ⟨A, hA⟩ := row_objs h4
      simp [cellsI] at e0 e1 e2
      subst e0 e1 e2
      simp [Pl.oc] at hq
      obtain ⟨rfl, rfl, rfl, rfl, rfl, rfl⟩ := hq
      exact ⟨(wh, n, mm, q, c9), rfl, ⟨A, hA⟩, hqs⟩
theorem open_dos {r : Reach} {b0 : Nat} {v : Value} {d : DataW H} {ps : List MemPlace} (hval : Value.okWide Try.prog W r b0 68 v)
    (hd : DataW.Trod enc Try.prog W 0 (fun _ => true) true 68 v d ps) : ∃ ds, RowD W v ds := by
  obtain ⟨els, hE⟩ := open_els Try.underlying68 (by rw [cellsDo]; omega) hval hd
  obtain ⟨ds, hds⟩ := hE.rows (α := { d : Pl.Do // (∃ A : List Pl.Ob, RowV W d.2.2.2.2 A ∧ A.length ≤ maxLen) ∧ d.2.2.2.1.2.2.2.2.2.size ≤ maxLen }) (fun d => Pl.dc d.1) (fun c fuel y hl hy => by
    obtain ⟨d, hd, hA, hs⟩ := cells_do (hl.trans cellsDo) hy
    exact ⟨⟨d, hA, hs⟩, hd⟩)
  obtain ⟨ao, cap, rfl, _, hm, _, h⟩ := hE
  subst hds
  rw [List.length_map] at hm
  refine ⟨ds.map (·.1), ao, cap, by rw [List.length_map, List.length_map], by rw [List.length_map]; exact hm, ?_, ?_⟩
  · intro d hd
    obtain ⟨⟨d', hp⟩, _, rfl⟩ := List.mem_map.1 hd
    exact hp
  · rcases h with h | ⟨g, o, rfl, hg, h⟩
    · exact .inl (by rw [List.map_eq_nil_iff] at h ⊢; exact h)
    · refine .inr ⟨g, o, rfl, hg, fun i d hd j u hu => ?_⟩
      rw [List.getElem?_map] at hd
      cases hi : ds[i]? with
      | none => rw [hi] at hd; cases hd
      | some d' =>
        rw [hi] at hd
        injection hd with hd
        subst hd
        have := h i (Pl.dc d'.1) (by rw [List.getElem?_map, hi]; rfl) j u hu
        rw [cellsDo] at this
        exact this
end

theorem walk_StackPlays' (v : Value) (ds : List Pl.Do) (a : Int) (W : World) (hR : RowD W v ds) (wa : (Lit.int .i64 a).wf = true) :
    Calls Try.prog 14 #[v, .int .i64 a] W fun e w' => e = .returned (.bool true) ∧ Kept W w' :=
  walk_StackPlays v ds a W (by simp [Lit.wf, IntKind.min, IntKind.max, IntKind.signed, IntKind.bits] at wa; omega) hR
end Go.Proofs.Ytenmbkngkabonaa
