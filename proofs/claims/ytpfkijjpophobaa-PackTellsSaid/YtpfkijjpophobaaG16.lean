/- Slices of words and of bytes among a law's arguments, opened. -/
import Derived.Test.YtpfkijjpophobaaS3k
import Derived.Test.YtpfkijjpophobaaG15
namespace Go.Proofs.Ytpfkijjpophobaa
set_option linter.unusedVariables false
open Go.ChangeShapes Go.WideShapes Go.ChangeAt Go.RowKit

theorem cellsTok : Try.prog.cellsOf 48 = 4 := by kernel_rfl
theorem cellsByte : Try.prog.cellsOf 5 = 1 := by kernel_rfl
theorem cellsInt : Try.prog.cellsOf 3 = 1 := by kernel_rfl
theorem cellsStr : Try.prog.cellsOf 9 = 1 := by kernel_rfl

section
variable {H : Type} {enc : TypeId × Value → H} {w : World} {base : Nat} {spare : Nat → Bool} {held : Bool}
theorem cells_tok {fuel : Nat} {c : List Value} {y : DataW H × List MemPlace} (hl : c.length = 4) (hf : DataW.trod enc Try.prog w base spare held fuel 48 c = some y) : ∃ t : {t : Pl.Tok // t.ok}, c = Pl.Tok.cs t.1 := by
  match c, hl with
  | [c0, c1, c2, c3], _ =>
    obtain ⟨xs, m, _, hx, _, hlen, hg⟩ := DataW.trod_struct Try.underlying48 hf
    match xs, hlen with
    | [y0, y1, y2, y3], _ =>
      obtain ⟨k, e0, rfl, w0⟩ := DataW.trod_int Try.underlying3 (hg 0 _ rfl)
      obtain ⟨n, e1, rfl, w1⟩ := DataW.trod_int Try.underlying3 (hg 1 _ rfl)
      obtain ⟨s, e2, rfl, w2⟩ := DataW.trod_string Try.underlying9 (hg 2 _ rfl)
      obtain ⟨a, e3, rfl, w3⟩ := DataW.trod_int Try.underlying3 (hg 3 _ rfl)
      simp [cellsInt, cellsStr] at e0 e1 e2 e3
      subst e0 e1 e2 e3
      have hs : s = Pl.tx s.data.toList := by unfold Pl.tx; rw [Array.toArray_toList]
      refine ⟨⟨⟨k, n, s.data.toList, a⟩, ?_⟩, by unfold Pl.Tok.cs; rw [← hs]⟩
      simp [Lit.wf, IntKind.min, IntKind.max, IntKind.signed, IntKind.bits] at w0
      refine ⟨by show _ ≤ k; omega, by show k ≤ _; omega, ?_⟩
      show s.data.toList.length ≤ _
      have : s.data.toList.length = s.size := by rw [Array.length_toList]; rfl
      unfold maxLen at w2
      omega
theorem cells_byte {fuel : Nat} {c : List Value} {y : DataW H × List MemPlace} (hl : c.length = 1) (hf : DataW.trod enc Try.prog w base spare held fuel 5 c = some y) : ∃ b : UInt8, c = [Pl.u8 b] := by
  match c, hl with
  | [c0], _ =>
    obtain ⟨k, e0, rfl, w0⟩ := DataW.trod_int Try.underlying5 hf
    simp at e0
    subst e0
    simp [Lit.wf, IntKind.min, IntKind.max, IntKind.signed, IntKind.bits] at w0
    refine ⟨UInt8.ofNat k.toNat, ?_⟩
    rw [Pl.u8_of k.toNat (by omega), show ((k.toNat : Nat) : Int) = k by omega]
end
section
variable {H : Type} {enc : TypeId × Value → H} {W : World} {r : Reach} {b0 : Nat} {v : Value} {d : DataW H} {ps : List MemPlace}
theorem open_toks (hval : Value.okWide Try.prog W r b0 37 v) (hd : DataW.Trod enc Try.prog W 0 (fun _ => true) true 37 v d ps) : ∃ T : List Pl.Tok, RdT v T W ∧ (∀ t ∈ T, t.ok) ∧ T.length ≤ maxLen := by
  obtain ⟨els, hE⟩ := open_els Try.underlying37 (by rw [cellsTok]; omega) hval hd
  obtain ⟨A, rfl⟩ := hE.rows (fun q : {t : Pl.Tok // t.ok} => Pl.Tok.cs q.1) (fun c fuel y hl hy => cells_tok (hl.trans cellsTok) hy)
  obtain ⟨ao, cap, rfl, hcp, hm, _, h⟩ := hE
  rw [List.length_map] at hm hcp
  refine ⟨A.map (·.1), ⟨ao, cap, by rw [List.length_map, List.length_map], by rw [List.length_map]; exact hcp, ?_⟩, fun t ht => ?_, by rw [List.length_map]; exact hm⟩
  · rcases h with h | ⟨g, o, rfl, hg, h⟩
    · exact .inl (by rw [List.map_eq_nil_iff.1 h]; rfl)
    · refine .inr ⟨g, o, rfl, hg, fun j u hu => ?_⟩
      have hj := (List.getElem?_eq_some_iff.1 hu).1
      rw [Pl.flatT_len, List.length_map] at hj
      obtain ⟨q, hq⟩ : ∃ q, A[j / 4]? = some q := ⟨_, List.getElem?_eq_getElem (by omega)⟩
      have hr := Pl.flatT_get (A.map (·.1)) (j / 4) q.1 (by rw [List.getElem?_map, hq]; rfl) (j % 4) (by omega)
      rw [show j / 4 * 4 + j % 4 = j from by omega, hu] at hr
      have := h (j / 4) (Pl.Tok.cs q.1) (by rw [List.getElem?_map, hq]; rfl) (j % 4) u hr.symm
      rw [cellsTok, show o + j / 4 * 4 + j % 4 = o + j from by omega] at this
      exact this
  · obtain ⟨q, _, rfl⟩ := List.mem_map.1 ht
    exact q.2
theorem open_bytes (hval : Value.okWide Try.prog W r b0 30 v) (hd : DataW.Trod enc Try.prog W 0 (fun _ => true) true 30 v d ps) : ∃ L : List UInt8, RdB v L W ∧ L.length ≤ maxLen := by
  obtain ⟨els, hE⟩ := open_els Try.underlying30 (by rw [cellsByte]; omega) hval hd
  obtain ⟨A, rfl⟩ := hE.rows (fun q : UInt8 => [Pl.u8 q]) (fun c fuel y hl hy => cells_byte (hl.trans cellsByte) hy)
  obtain ⟨ao, cap, rfl, hcp, hm, _, h⟩ := hE
  rw [List.length_map] at hm hcp
  refine ⟨A, ⟨ao, cap, by rw [List.length_map], hcp, ?_⟩, hm⟩
  rcases h with h | ⟨g, o, rfl, hg, h⟩
  · exact .inl (List.map_eq_nil_iff.1 h)
  · refine .inr ⟨g, o, rfl, hg, fun j b hb => ?_⟩
    have := h j [Pl.u8 b] (by rw [List.getElem?_map, hb]; rfl) 0 (Pl.u8 b) rfl
    rw [cellsByte, Nat.mul_one, Nat.add_zero] at this
    exact this
end
end Go.Proofs.Ytpfkijjpophobaa
