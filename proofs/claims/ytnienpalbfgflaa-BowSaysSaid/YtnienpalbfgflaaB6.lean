/- Plain: the two halves of an edge, and their turns. -/
import Derived.Test.YtnienpalbfgflaaB5
namespace Go.Proofs.Ytnienpalbfgflaa.Pl
set_option linter.unusedVariables false

def Ed.hcan (e : Ed) : Prop := (e.b = true → (e.x0 + e.cx) % 2 = 0 ∧ (e.y0 + e.cy) % 2 = 0 ∧ (e.cx + e.x1) % 2 = 0 ∧ (e.cy + e.y1) % 2 = 0 ∧ (e.x0 + 2 * e.cx + e.x1) % 4 = 0 ∧ (e.y0 + 2 * e.cy + e.y1) % 4 = 0) ∧ (e.b = false → (e.x0 + e.x1) % 2 = 0 ∧ (e.y0 + e.y1) % 2 = 0)
instance (e : Ed) : Decidable e.hcan := by unfold Ed.hcan; infer_instance
def Ed.ha (e : Ed) : Ed := if e.b = true then ⟨e.x0, e.y0, true, (e.x0 + e.cx) / 2, (e.y0 + e.cy) / 2, (e.x0 + 2 * e.cx + e.x1) / 4, (e.y0 + 2 * e.cy + e.y1) / 4⟩ else ⟨e.x0, e.y0, false, e.cx, e.cy, (e.x0 + e.x1) / 2, (e.y0 + e.y1) / 2⟩
def Ed.hb (e : Ed) : Ed := if e.b = true then ⟨(e.x0 + 2 * e.cx + e.x1) / 4, (e.y0 + 2 * e.cy + e.y1) / 4, true, (e.cx + e.x1) / 2, (e.cy + e.y1) / 2, e.x1, e.y1⟩ else ⟨(e.x0 + e.x1) / 2, (e.y0 + e.y1) / 2, false, e.cx, e.cy, e.x1, e.y1⟩
theorem tot_z2 (s : Sp) (x : Int) : tot (s, Sp.z) x = cnt s x := by
  unfold tot
  simp only [cnt_z]
  omega
theorem tot_halves (e : Ed) (h : e.hcan) (x y : Int) : tot (spots e.ha y) x + tot (spots e.hb y) x = tot (spots e y) x := by
  obtain ⟨x0, y0, b, cx, cy, x1, y1⟩ := e
  unfold Ed.hcan at h
  cases b with
  | false =>
    obtain ⟨h1, h2⟩ := h.2 rfl
    simp only at h1 h2
    simp only [spots, Ed.ha, Ed.hb, Bool.false_eq_true, if_false]
    rw [tot_z2, tot_z2, tot_z2]
    exact straight_halves x0 y0 ((x0 + x1) / 2) ((y0 + y1) / 2) x1 y1 x y (by omega) (by omega)
  | true =>
    obtain ⟨h1, h2, h3, h4, h5, h6⟩ := h.1 rfl
    simp only at h1 h2 h3 h4 h5 h6
    simp only [spots, Ed.ha, Ed.hb, if_true, bentS]
    obtain ⟨p, hp⟩ : ∃ p, x0 + cx = 2 * p := ⟨(x0 + cx) / 2, by omega⟩
    obtain ⟨q, hq⟩ : ∃ q, y0 + cy = 2 * q := ⟨(y0 + cy) / 2, by omega⟩
    obtain ⟨r, hr⟩ : ∃ r, cx + x1 = 2 * r := ⟨(cx + x1) / 2, by omega⟩
    obtain ⟨s, hs⟩ : ∃ s, cy + y1 = 2 * s := ⟨(cy + y1) / 2, by omega⟩
    obtain ⟨u, hu⟩ : ∃ u, x0 + 2 * cx + x1 = 4 * u := ⟨(x0 + 2 * cx + x1) / 4, by omega⟩
    obtain ⟨v, hv⟩ : ∃ v, y0 + 2 * cy + y1 = 4 * v := ⟨(y0 + 2 * cy + y1) / 4, by omega⟩
    rw [show (x0 + cx) / 2 = p by omega, show (y0 + cy) / 2 = q by omega, show (cx + x1) / 2 = r by omega, show (cy + y1) / 2 = s by omega, show (x0 + 2 * cx + x1) / 4 = u by omega, show (y0 + 2 * cy + y1) / 4 = v by omega]
    have := bent_halves x0 (x0 - 2 * p + u) (p - x0) (y0 - 2 * q + v) (q - y0) (y0 - y) x
    rw [show x0 + 2 * (p - x0) + (x0 - 2 * p + u) = u by omega, show (p - x0) + (x0 - 2 * p + u) = r - u by omega, show (q - y0) + (y0 - 2 * q + v) = s - v by omega, show (y0 - y) + 2 * (q - y0) + (y0 - 2 * q + v) = v - y by omega,
      show 4 * (x0 - 2 * p + u) = x0 - 2 * cx + x1 by omega, show 2 * (p - x0) = cx - x0 by omega, show 4 * (y0 - 2 * q + v) = y0 - 2 * cy + y1 by omega, show 2 * (q - y0) = cy - y0 by omega] at this
    rw [← this, show u - 2 * r + x1 = x0 - 2 * p + u by omega, show v - 2 * s + y1 = y0 - 2 * q + v by omega]
theorem may_ha (e : Ed) (he : e.may) : e.ha.may := by
  obtain ⟨x0, y0, b, cx, cy, x1, y1⟩ := e
  unfold Ed.may crd at he
  simp only at he
  obtain ⟨a1, a2, a3, a4, a5, a6, a7⟩ := he
  cases b with
  | false =>
    simp only [Ed.ha, Ed.may, crd, Bool.false_eq_true, if_false]
    have := a7.resolve_left (by simp)
    exact ⟨by omega, by omega, by omega, by omega, by omega, by omega, .inr this⟩
  | true =>
    simp only [Ed.ha, Ed.may, crd, if_true]
    exact ⟨by omega, by omega, by omega, by omega, by omega, by omega, .inl trivial⟩
theorem may_hb (e : Ed) (he : e.may) : e.hb.may := by
  obtain ⟨x0, y0, b, cx, cy, x1, y1⟩ := e
  unfold Ed.may crd at he
  simp only at he
  obtain ⟨a1, a2, a3, a4, a5, a6, a7⟩ := he
  cases b with
  | false =>
    simp only [Ed.hb, Ed.may, crd, Bool.false_eq_true, if_false]
    have := a7.resolve_left (by simp)
    exact ⟨by omega, by omega, by omega, by omega, by omega, by omega, .inr this⟩
  | true =>
    simp only [Ed.hb, Ed.may, crd, if_true]
    exact ⟨by omega, by omega, by omega, by omega, by omega, by omega, .inl trivial⟩
theorem turns_halves (e : Ed) (he : e.may) (h : e.hcan) (x y : Int) : turns e.ha x y + turns e.hb x y = turns e x y := by
  unfold turns
  by_cases c : crd x ∧ crd y
  · rw [if_pos ⟨may_ha e he, c⟩, if_pos ⟨may_hb e he, c⟩, if_pos ⟨he, c⟩]
    exact tot_halves e h x y
  · rw [if_neg (fun k => c k.2), if_neg (fun k => c k.2), if_neg (fun k => c k.2)]
    rfl
/-- an edge whose numbers are so many times as large -/
def Ed.times (k : Int) (e : Ed) : Ed := ⟨k * e.x0, k * e.y0, e.b, k * e.cx, k * e.cy, k * e.x1, k * e.y1⟩
theorem hcan_4 (e : Ed) : (e.times 4).hcan := by
  unfold Ed.hcan Ed.times
  exact ⟨fun _ => ⟨by simp only; omega, by simp only; omega, by simp only; omega, by simp only; omega, by simp only; omega, by simp only; omega⟩, fun _ => ⟨by simp only; omega, by simp only; omega⟩⟩
theorem hcan_16 (e : Ed) : (e.times 16).hcan ∧ (e.times 16).ha.hcan ∧ (e.times 16).hb.hcan := by
  obtain ⟨x0, y0, b, cx, cy, x1, y1⟩ := e
  unfold Ed.hcan Ed.ha Ed.hb Ed.times
  cases b with
  | false =>
    simp only [Bool.false_eq_true, if_false]
    exact ⟨⟨fun h => h.elim, fun _ => ⟨by omega, by omega⟩⟩, ⟨fun h => h.elim, fun _ => ⟨by omega, by omega⟩⟩, ⟨fun h => h.elim, fun _ => ⟨by omega, by omega⟩⟩⟩
  | true =>
    simp only [if_true]
    refine ⟨⟨fun _ => ⟨by omega, by omega, by omega, by omega, by omega, by omega⟩, fun h => ?_⟩, ⟨fun _ => ⟨by omega, by omega, by omega, by omega, by omega, by omega⟩, fun h => ?_⟩, ⟨fun _ => ⟨by omega, by omega, by omega, by omega, by omega, by omega⟩, fun h => ?_⟩⟩ <;> cases h
end Go.Proofs.Ytnienpalbfgflaa.Pl
