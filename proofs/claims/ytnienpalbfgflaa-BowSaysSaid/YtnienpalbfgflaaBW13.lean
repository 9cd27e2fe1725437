/- Rows of crossings that are read; tympanlaw26.known; bow.Flip: the walks. -/
import Derived.Test.YtnienpalbfgflaaBW12
namespace Go.Proofs.Ytnienpalbfgflaa
set_option linter.unusedVariables false
open Go.RowKit

def RdX (v : Value) (L : List (Int × Int)) (W : World) : Prop :=
  ∃ ao cap, v = .slice ao L.length cap ∧ (L = [] ∨ ∃ g, ao = some ⟨g, 0, none⟩ ∧ g < W.heap.size ∧ ∀ j c, L[j]? = some c → W.cell? ⟨g, j * 2, none⟩ = some (.int .i64 c.1) ∧ W.cell? ⟨g, j * 2 + 1, none⟩ = some (.int .i64 c.2))
theorem Pl.flatX_get : ∀ (L : List (Int × Int)) (j : Nat) (c : Int × Int), L[j]? = some c → ∀ r, r < 2 → (Pl.flatX L)[j * 2 + r]? = (Pl.csX c)[r]?
  | [], j, o, h, _, _ => by simp at h
  | q :: L, 0, o, h, r, hr => by
    simp at h
    subst h
    simp only [Pl.flatX, List.flatMap_cons, Nat.zero_mul, Nat.zero_add]
    rw [List.getElem?_append_left (by simp [Pl.csX]; exact hr)]
  | q :: L, j + 1, o, h, r, hr => by
    have ih := Pl.flatX_get L j o (by simpa using h) r hr
    simp only [Pl.flatX, List.flatMap_cons] at ih ⊢
    rw [List.getElem?_append_right (by simp [Pl.csX]; omega)]
    rw [← ih]
    congr 1
    simp [Pl.csX]
    omega
theorem own_rdX {base : Nat} {v : Value} {L : List (Int × Int)} {W : World} (c : W.ownsRow base 37 2 v L.length (Pl.flatX L)) : RdX v L W := by
  have hl := own_lt c
  rcases c.2 with ⟨rfl, h0⟩ | ⟨g, cap, cur, rfl, hb, hg, hc, r⟩
  · exact ⟨none, 0, by rw [h0], .inl (List.eq_nil_of_length_eq_zero h0)⟩
  · refine ⟨_, cap, rfl, .inr ⟨g, rfl, hl g rfl, fun j u hu => ?_⟩⟩
    have hj := (List.getElem?_eq_some_iff.1 hu).1
    have e0 := Pl.flatX_get L j u hu 0 (by omega)
    have e1 := Pl.flatX_get L j u hu 1 (by omega)
    constructor
    · have := c.cells rfl (j * 2) (.int .i64 u.1) (by rw [Nat.add_zero] at e0; rw [e0]; rfl)
      rw [Addr.add_lit, Nat.zero_add] at this
      exact this
    · have := c.cells rfl (j * 2 + 1) (.int .i64 u.2) (by rw [e1]; rfl)
      rw [Addr.add_lit, Nat.zero_add] at this
      exact this
theorem RdX.fr0 {W W' : World} {v : Value} {L : List (Int × Int)} (h : RdX v L W) (k : Fr (fun _ => False) W W') : RdX v L W' := by
  obtain ⟨ao, cap, rfl, h⟩ := h
  refine ⟨ao, cap, rfl, ?_⟩
  rcases h with h | ⟨g, rfl, hg, h⟩
  · exact .inl h
  · exact .inr ⟨g, rfl, Nat.lt_of_lt_of_le hg k.2.2.1, fun j c hc => ⟨(k.cell (a := ⟨g, j * 2, none⟩) hg (fun f => f)).trans (h j c hc).1, (k.cell (a := ⟨g, j * 2 + 1, none⟩) hg (fun f => f)).trans (h j c hc).2⟩⟩
theorem RdX.one {W : World} {v : Value} {c : Int × Int} (h : RdX v [c] W) : ∃ g cap, v = .slice (some ⟨g, 0, none⟩) 1 cap ∧ g < W.heap.size ∧ W.cell? ⟨g, 0, none⟩ = some (.int .i64 c.1) ∧ W.cell? ⟨g, 1, none⟩ = some (.int .i64 c.2) := by
  obtain ⟨ao, cap, rfl, h⟩ := h
  obtain ⟨g, rfl, hg, h⟩ := h.resolve_left (by simp)
  exact ⟨g, cap, rfl, hg, (h 0 c rfl).1, (h 0 c rfl).2⟩
theorem line_rd (e : Pl.Ed) (y n : Int) (W : World) : Calls Try.prog 16 #[edv e, .int .i64 y, .int .i64 n] W fun en w' => ∃ v, en = .returned v ∧ RdX v (Pl.line e y n) w' ∧ Fr (fun _ => False) W w' :=
  (line_any e y n W).mono fun en w' ⟨v, h1, h2, h3⟩ => ⟨v, h1, own_rdX h2, h3⟩
theorem turns_fr (e : Pl.Ed) (x y : Int) (W : World) : Calls Try.prog 19 #[edv e, .int .i64 x, .int .i64 y] W fun en w' => en = .returned (.int .i64 (Pl.turns e x y)) ∧ Fr (fun _ => False) W w' :=
  (turns_any e x y W).mono fun en w' ⟨h1, h2⟩ => ⟨h1, Fr.of_grown _ h2⟩
theorem Pl.known1 : Pl.line ⟨0, 0, false, 0, 0, 16, 16⟩ 8 2 = [(1, 0)] := by decide +kernel
theorem Pl.known2 : Pl.line ⟨0, 0, true, 16, 0, 16, 16⟩ 0 2 = [(1, 0)] := by decide +kernel
theorem Pl.known3 : Pl.line ⟨0, 0, true, 8, 16, 16, 0⟩ 8 2 = [] := by decide +kernel
theorem Pl.known4 : Pl.turns ⟨0, 0, false, 0, 0, 16, 16⟩ 7 8 = 1 := by decide +kernel
theorem Pl.known5 : Pl.turns ⟨0, 0, false, 0, 0, 16, 16⟩ 8 8 = 0 := by decide +kernel
set_option maxHeartbeats 4000000 in
set_option maxRecDepth 100000 in
theorem known26 (w : World) : Calls Try.prog 13 #[] w fun e w' => e = .returned (.bool true) ∧ Fr (fun _ => False) w w' := by
  have C1 := Lib.hid (fun Z => line_rd ⟨0, 0, false, 0, 0, 16, 16⟩ 8 2 Z)
  have C2 := Lib.hid (fun Z => line_rd ⟨0, 0, true, 16, 0, 16, 16⟩ 0 2 Z)
  have C3 := Lib.hid (fun Z => line_rd ⟨0, 0, true, 8, 16, 16, 0⟩ 8 2 Z)
  have C4 := Lib.hid (fun Z => turns_fr ⟨0, 0, false, 0, 0, 16, 16⟩ 7 8 Z)
  have C5 := Lib.hid (fun Z => turns_fr ⟨0, 0, false, 0, 0, 16, 16⟩ 8 8 Z)
  rw [Pl.known1] at C1
  rw [Pl.known2] at C2
  rw [Pl.known3] at C3
  rw [Pl.known4] at C4
  rw [Pl.known5] at C5
  simp only [edv] at C1 C2 C3 C4 C5
  go_enter Try.func13, Try.ntmps13
  go_wp2_with fail
  refine (C1.out _).mono ?_
  rintro e w1 ⟨v1, rfl, r1, f1⟩
  have R1 := Lib.hid r1
  have F1 := Lib.hid f1
  clear r1 f1
  go_wp2_with fail
  refine (C2.out _).mono ?_
  rintro e w2 ⟨v2, rfl, r2, f2⟩
  have R2 := Lib.hid r2
  have R1' := Lib.hid (R1.out.fr0 f2)
  have F2 := Lib.hid (F1.out.trans f2)
  clear r2 f2
  go_wp2_with fail
  refine (C3.out _).mono ?_
  rintro e w3 ⟨v3, rfl, r3, f3⟩
  obtain ⟨g1, c1, rfl, _, a0, a1⟩ := (R1'.out.fr0 f3).one
  obtain ⟨g2, c2, rfl, _, b0, b1⟩ := (R2.out.fr0 f3).one
  obtain ⟨ao3, c3, rfl, _⟩ := r3
  have F3 := Lib.hid (F2.out.trans f3)
  have hl : ((([] : List (Int × Int)).length : Nat) : Int) = 0 := rfl
  clear f3 R1 R1' R2
  go_wp2_with fail
  refine (C4.out _).mono ?_
  rintro e w4 ⟨rfl, f4⟩
  have F4 := Lib.hid (F3.out.trans f4)
  clear f4
  go_wp2_with fail
  refine (C5.out _).mono ?_
  rintro e w5 ⟨rfl, f5⟩
  have F5 := Lib.hid (F4.out.trans f5)
  clear f5
  go_wp2_with fail
  go_ret
  exact ⟨rfl, F5.out⟩
set_option maxRecDepth 100000 in
theorem bflip_any (e : Pl.Ed) (W : World) : Calls Try.prog 22 #[edv e] W fun en w' => en = .returned (edv e.flip) ∧ Grown W w' := by
  obtain ⟨x0, y0, bb, cx, cy, x1, y1⟩ := e
  simp only [edv, Pl.Ed.flip]
  go_enter Try.func22, Try.ntmps22
  go_wp2_with fail
  exact bodyPost_ret (by simp [results, Try.results22, go_sem]) rfl ⟨rfl, by repeat (first | exact Grown.refl _ | apply Grown.drew | apply Grown.alloc)⟩
end Go.Proofs.Ytnienpalbfgflaa
