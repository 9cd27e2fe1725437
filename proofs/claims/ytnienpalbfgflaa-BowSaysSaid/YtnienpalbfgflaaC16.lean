/- The reference's Halve by one plain function (layer 26); cells in kept worlds. -/
import Derived.Test.YtnienpalbfgflaaC15
namespace Go.Proofs.Ytnienpalbfgflaa
set_option linter.unusedVariables false
open Go.RowKit

theorem cell_fr0 {W W' : World} {g j : Nat} {v : Value} (h : W.cell? ⟨g, j, none⟩ = some v) (k : Fr (fun _ => False) W W') : W'.cell? ⟨g, j, none⟩ = some v := (k.cell (a := ⟨g, j, none⟩) (block_lt_of_cell h) (fun q => q)).trans h
theorem rhalve_any (e : Pl.Ed) (W : World) :
    Calls Try.prog 28 #[edv e] W fun en w' => en = .returned (.tuple #[edv e.hout.1, edv e.hout.2.1, .bool e.hout.2.2]) ∧ Fr (fun _ => False) W w' := by
  by_cases hm : e.may
  · by_cases hc : e.hcan
    · rw [Pl.hout_yes hm hc]
      obtain ⟨x0, y0, b, cx, cy, x1, y1⟩ := e
      unfold Pl.Ed.hcan at hc
      cases b with
      | false =>
        obtain ⟨h1, h2⟩ := hc.2 rfl
        simp only at h1 h2
        simp only [Pl.Ed.ha, Pl.Ed.hb, Bool.false_eq_true, if_false]
        obtain ⟨k1, k2⟩ : cx = 0 ∧ cy = 0 := hm.2.2.2.2.2.2.resolve_left (fun q => by cases q)
        subst k1
        subst k2
        exact rhalve_straight x0 y0 0 0 x1 y1 ((x0 + x1) / 2) ((y0 + y1) / 2) hm (by omega) (by omega) W
      | true =>
        obtain ⟨h1, h2, h3, h4, h5, h6⟩ := hc.1 rfl
        simp only at h1 h2 h3 h4 h5 h6
        simp only [Pl.Ed.ha, Pl.Ed.hb, if_true]
        exact rhalve_bent x0 y0 cx cy x1 y1 ((x0 + cx) / 2) ((y0 + cy) / 2) ((cx + x1) / 2) ((cy + y1) / 2) ((x0 + 2 * cx + x1) / 4) ((y0 + 2 * cy + y1) / 4) hm (by omega) (by omega) (by omega) (by omega) (by omega) (by omega) W
    · rw [Pl.hout_no (fun k => hc k.2)]
      obtain ⟨x0, y0, b, cx, cy, x1, y1⟩ := e
      unfold Pl.Ed.hcan at hc
      cases b with
      | false =>
        simp only [Bool.false_eq_true, false_implies, true_and, true_implies] at hc
        by_cases h : (x0 + x1) % 2 = 1
        · exact rhalve_odd_a x0 y0 cx cy x1 y1 hm h W
        · exact rhalve_odd_b x0 y0 cx cy x1 y1 hm ⟨by omega, by omega⟩ W
      | true =>
        simp only [Bool.true_eq_false, false_implies, and_true, true_implies] at hc
        by_cases h0 : (x0 + cx) % 2 = 0
        · by_cases h1 : (y0 + cy) % 2 = 0
          · by_cases h2 : (cx + x1) % 2 = 0
            · by_cases h3 : (cy + y1) % 2 = 0
              · by_cases h4 : (x0 + 2 * cx + x1) % 4 = 0
                · exact rhalve_not_5 x0 y0 cx cy x1 y1 hm ⟨h0, h1, h2, h3, by omega, fun h5 => hc ⟨h0, h1, h2, h3, h4, by omega⟩⟩ W
                · exact rhalve_not_4 x0 y0 cx cy x1 y1 hm ⟨h0, h1, h2, h3, by omega⟩ W
              · exact rhalve_not_3 x0 y0 cx cy x1 y1 hm ⟨h0, h1, h2, h3⟩ W
            · exact rhalve_not_2 x0 y0 cx cy x1 y1 hm ⟨h0, h1, h2⟩ W
          · exact rhalve_not_1 x0 y0 cx cy x1 y1 hm ⟨h0, h1⟩ W
        · exact rhalve_not_0 x0 y0 cx cy x1 y1 hm h0 W
  · rw [Pl.hout_no (fun k => hm k.1)]
    obtain ⟨x0, y0, b, cx, cy, x1, y1⟩ := e
    exact rhalve_no x0 y0 b cx cy x1 y1 hm W
end Go.Proofs.Ytnienpalbfgflaa
