/- bow.Halve of any edge: the walk, by one plain function. -/
import Derived.Test.YtnienpalbfgflaaBW19
namespace Go.Proofs.Ytnienpalbfgflaa
set_option linter.unusedVariables false
open Go.RowKit

open Classical in
noncomputable def Pl.Ed.hout (e : Pl.Ed) : Pl.Ed × Pl.Ed × Bool := if e.may ∧ e.hcan then (e.ha, e.hb, true) else (Pl.Ed.zero, Pl.Ed.zero, false)
theorem Pl.hout_yes {e : Pl.Ed} (h : e.may) (k : e.hcan) : e.hout = (e.ha, e.hb, true) := by
  unfold Pl.Ed.hout
  rw [if_pos ⟨h, k⟩]
theorem Pl.hout_no {e : Pl.Ed} (h : ¬ (e.may ∧ e.hcan)) : e.hout = (Pl.Ed.zero, Pl.Ed.zero, false) := by
  unfold Pl.Ed.hout
  rw [if_neg h]
theorem halve_any (e : Pl.Ed) (W : World) :
    Calls Try.prog 25 #[edv e] W fun en w' => en = .returned (.tuple #[edv e.hout.1, edv e.hout.2.1, .bool e.hout.2.2]) ∧ Fr (fun _ => False) W w' := by
  by_cases hm : e.may
  · by_cases hc : e.hcan
    · rw [Pl.hout_yes hm hc]
      obtain ⟨x0, y0, b, cx, cy, x1, y1⟩ := e
      unfold Pl.Ed.hcan at hc
      cases b with
      | false =>
        obtain ⟨h1, h2⟩ := hc.2 rfl
        simp only at h1 h2
        simp only [Pl.Ed.ha, Pl.Ed.hb, Bool.false_eq_true, if_false]
        exact halve_straight x0 y0 cx cy x1 y1 ((x0 + x1) / 2) ((y0 + y1) / 2) hm (by omega) (by omega) W
      | true =>
        obtain ⟨h1, h2, h3, h4, h5, h6⟩ := hc.1 rfl
        simp only at h1 h2 h3 h4 h5 h6
        simp only [Pl.Ed.ha, Pl.Ed.hb, if_true]
        exact halve_bent x0 y0 cx cy x1 y1 ((x0 + cx) / 2) ((y0 + cy) / 2) ((cx + x1) / 2) ((cy + y1) / 2) ((x0 + 2 * cx + x1) / 4) ((y0 + 2 * cy + y1) / 4) hm (by omega) (by omega) (by omega) (by omega) (by omega) (by omega) W
    · rw [Pl.hout_no (fun k => hc k.2)]
      obtain ⟨x0, y0, b, cx, cy, x1, y1⟩ := e
      unfold Pl.Ed.hcan at hc
      cases b with
      | false =>
        simp only [Bool.false_eq_true, false_implies, true_and, true_implies] at hc
        by_cases h : (x0 + x1) % 2 = 1
        · exact halve_odd_a x0 y0 cx cy x1 y1 hm h W
        · exact halve_odd_b x0 y0 cx cy x1 y1 hm ⟨by omega, by omega⟩ W
      | true =>
        simp only [Bool.true_eq_false, false_implies, and_true, true_implies] at hc
        by_cases h0 : (x0 + cx) % 2 = 0
        · by_cases h1 : (y0 + cy) % 2 = 0
          · by_cases h2 : (cx + x1) % 2 = 0
            · by_cases h3 : (cy + y1) % 2 = 0
              · by_cases h4 : (x0 + 2 * cx + x1) % 4 = 0
                · exact halve_not_5 x0 y0 cx cy x1 y1 hm ⟨h0, h1, h2, h3, h4, fun h5 => hc ⟨h0, h1, h2, h3, h4, h5⟩⟩ W
                · exact halve_not_4 x0 y0 cx cy x1 y1 hm ⟨h0, h1, h2, h3, h4⟩ W
              · exact halve_not_3 x0 y0 cx cy x1 y1 hm ⟨h0, h1, h2, h3⟩ W
            · exact halve_not_2 x0 y0 cx cy x1 y1 hm ⟨h0, h1, h2⟩ W
          · exact halve_not_1 x0 y0 cx cy x1 y1 hm ⟨h0, h1⟩ W
        · exact halve_not_0 x0 y0 cx cy x1 y1 hm h0 W
  · rw [Pl.hout_no (fun k => hm k.1)]
    obtain ⟨x0, y0, b, cx, cy, x1, y1⟩ := e
    exact halve_no x0 y0 b cx cy x1 y1 hm W
end Go.Proofs.Ytnienpalbfgflaa
