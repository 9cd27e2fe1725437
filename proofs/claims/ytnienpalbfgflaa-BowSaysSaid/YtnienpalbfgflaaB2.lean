/- Plain facts on edges and where they cross a line. -/
import Derived.Test.YtnienpalbfgflaaB1
namespace Go.Proofs.Ytnienpalbfgflaa.Pl
set_option linter.unusedVariables false

structure Ed where
  x0 : Int
  y0 : Int
  b : Bool
  cx : Int
  cy : Int
  x1 : Int
  y1 : Int
structure Sp where
  t : Int
  p : Int
  q : Int
  d : Int
  m : Int
def crd (v : Int) : Prop := -8191 ≤ v ∧ v ≤ 8191
instance (v : Int) : Decidable (crd v) := by unfold crd; exact inferInstance
def Ed.may (e : Ed) : Prop := crd e.x0 ∧ crd e.y0 ∧ crd e.cx ∧ crd e.cy ∧ crd e.x1 ∧ crd e.y1 ∧ (e.b = true ∨ (e.cx = 0 ∧ e.cy = 0))
instance (e : Ed) : Decidable e.may := by unfold Ed.may; exact inferInstance
def Sp.z : Sp := ⟨0, 0, 0, 0, 0⟩
def Sp.neg (s : Sp) : Sp := ⟨-s.t, s.p, s.q, s.d, s.m⟩
def straightS (x0 y0 x1 y1 y : Int) : Sp :=
  if y0 ≤ y ∧ y < y1 then ⟨1, x0 * (y1 - y0) + (x1 - x0) * (y - y0), 0, 0, y1 - y0⟩ else
  if y1 ≤ y ∧ y < y0 then ⟨-1, -(x0 * (y1 - y0) + (x1 - x0) * (y - y0)), 0, 0, -(y1 - y0)⟩ else Sp.z
def evenS (b c ax bx x0 : Int) : Sp :=
  if 0 < b ∧ c ≤ 0 ∧ -c < 2 * b then ⟨1, 4 * b * b * x0 - 4 * b * c * bx + ax * c * c, 0, 0, 4 * b * b⟩ else
  if b < 0 ∧ 0 < c ∧ c ≤ -2 * b then ⟨-1, 4 * b * b * x0 - 4 * b * c * bx + ax * c * c, 0, 0, 4 * b * b⟩ else Sp.z
def rootS (x0 a b ax bx d s : Int) : Sp := ⟨s, x0 * a * a - 2 * a * b * bx + ax * (b * b + d), s * (2 * a * bx - 2 * b * ax), d, a * a⟩
def side (a : Int) : Int := if a < 0 then -1 else 1
def up (a b d : Int) : Prop := 0 ≤ side a * rsign (-b) 1 d ∧ side a * rsign (-b - a) 1 d < 0
def dn (a b d : Int) : Prop := 0 < side a * rsign (-b) (-1) d ∧ side a * rsign (-b - a) (-1) d ≤ 0
instance (a b d : Int) : Decidable (up a b d) := by unfold up; exact inferInstance
instance (a b d : Int) : Decidable (dn a b d) := by unfold dn; exact inferInstance
def bentP (x0 ax bx a b c : Int) : Sp × Sp :=
  if a = 0 then (evenS b c ax bx x0, Sp.z) else
  if b * b - a * c < 0 ∨ (b * b - a * c = 0 ∧ a < 0) then (Sp.z, Sp.z) else
  (if up a b (b * b - a * c) then rootS x0 a b ax bx (b * b - a * c) 1 else Sp.z, if dn a b (b * b - a * c) then rootS x0 a b ax bx (b * b - a * c) (-1) else Sp.z)
def bentS (e : Ed) (y : Int) : Sp × Sp := bentP e.x0 (e.x0 - 2 * e.cx + e.x1) (e.cx - e.x0) (e.y0 - 2 * e.cy + e.y1) (e.cy - e.y0) (e.y0 - y)
def spots (e : Ed) (y : Int) : Sp × Sp := if e.b = true then bentS e y else (straightS e.x0 e.y0 e.x1 e.y1 y, Sp.z)
def cnt (s : Sp) (x : Int) : Int := if s.t ≠ 0 ∧ 0 < rsign (s.p - x * s.m) s.q s.d then s.t else 0
def tot (P : Sp × Sp) (x : Int) : Int := cnt P.1 x + cnt P.2 x
def turns (e : Ed) (x y : Int) : Int := if e.may ∧ crd x ∧ crd y then tot (spots e y) x else 0
theorem cnt_z (x : Int) : cnt Sp.z x = 0 := by unfold cnt Sp.z; rw [if_neg (by simp)]
theorem cnt_neg (s : Sp) (x : Int) : cnt s.neg x = -cnt s x := by
  unfold cnt Sp.neg
  by_cases h : s.t ≠ 0 ∧ 0 < rsign (s.p - x * s.m) s.q s.d
  · rw [if_pos h, if_pos ⟨by have := h.1; show -s.t ≠ 0; omega, h.2⟩]
  · rw [if_neg h, if_neg (fun k => h ⟨by have := k.1; change -s.t ≠ 0 at this; omega, k.2⟩)]; rfl
theorem Sp.neg_z : Sp.z.neg = Sp.z := rfl
theorem side_neg {a : Int} (h : a < 0) : side a = -1 := by unfold side; rw [if_pos h]
theorem side_pos {a : Int} (h : ¬ a < 0) : side a = 1 := by unfold side; rw [if_neg h]
/-! turned round -/
def Ed.flip (e : Ed) : Ed := ⟨e.x1, e.y1, e.b, e.cx, e.cy, e.x0, e.y0⟩
theorem straight_flip (x0 y0 x1 y1 y : Int) : straightS x1 y1 x0 y0 y = (straightS x0 y0 x1 y1 y).neg := by
  unfold straightS
  by_cases h1 : y0 ≤ y ∧ y < y1
  · have h2 : ¬ (y1 ≤ y ∧ y < y0) := by omega
    simp only [if_pos h1, if_neg h2, Sp.neg, Sp.mk.injEq]
    refine ⟨trivial, by grind, trivial, trivial, by omega⟩
  · by_cases h2 : y1 ≤ y ∧ y < y0
    · simp only [if_pos h2, if_neg h1, Sp.neg, Sp.mk.injEq]
      refine ⟨by omega, by grind, trivial, trivial, by omega⟩
    · simp only [if_neg h1, if_neg h2]; rfl
theorem even_flip (b c ax bx x0 : Int) : evenS (-b) (c + 2 * b) ax (-(ax + bx)) (x0 + 2 * bx + ax) = (evenS b c ax bx x0).neg := by
  unfold evenS
  have ep : 4 * -b * -b * (x0 + 2 * bx + ax) - 4 * -b * (c + 2 * b) * -(ax + bx) + ax * (c + 2 * b) * (c + 2 * b) = 4 * b * b * x0 - 4 * b * c * bx + ax * c * c := by grind
  have em : 4 * -b * -b = 4 * b * b := by grind
  by_cases h1 : 0 < b ∧ c ≤ 0 ∧ -c < 2 * b
  · rw [if_pos h1, if_neg (by omega), if_pos (by omega), ep, em]
    rfl
  · rw [if_neg h1]
    by_cases h2 : b < 0 ∧ 0 < c ∧ c ≤ -2 * b
    · rw [if_pos h2, if_pos (by omega), ep, em]
      rfl
    · rw [if_neg h2, if_neg (by omega), if_neg (by omega)]
      rfl
theorem rsign_m1 (p d : Int) : rsign p (-1) d = -rsign (-p) 1 d := by
  have := rsign_neg (-p) 1 d
  rw [Int.neg_neg] at this
  exact this
theorem up_flip (a b d : Int) : up a (-(a + b)) d ↔ dn a b d := by
  unfold up dn
  rw [rsign_m1, rsign_m1, show -(-(a + b)) = - (-b - a) by omega, show -(-b - a) - a = -(-b) by omega, Int.mul_neg, Int.mul_neg]
  constructor <;> intro h <;> exact ⟨by omega, by omega⟩
theorem dn_flip (a b d : Int) : dn a (-(a + b)) d ↔ up a b d := by
  have := up_flip a (-(a + b)) d
  rw [show -(a + -(a + b)) = b by omega] at this
  exact this.symm
theorem bent_flip (x0 ax bx a b c x : Int) : tot (bentP (x0 + 2 * bx + ax) ax (-(ax + bx)) a (-(a + b)) (c + 2 * b + a)) x = -tot (bentP x0 ax bx a b c) x := by
  unfold bentP
  have ed : -(a + b) * -(a + b) - a * (c + 2 * b + a) = b * b - a * c := by grind
  rw [ed]
  generalize hd : b * b - a * c = d
  by_cases ha : a = 0
  · rw [if_pos ha, if_pos ha]
    subst ha
    have := even_flip b c ax bx x0
    rw [show -(0 + b) = -b by omega, show c + 2 * b + 0 = c + 2 * b by omega, this]
    unfold tot
    simp only [cnt_neg, cnt_z]
    omega
  rw [if_neg ha, if_neg ha]
  by_cases h0 : d < 0 ∨ (d = 0 ∧ a < 0)
  · rw [if_pos h0, if_pos h0]; unfold tot; simp only [cnt_z]; rfl
  rw [if_neg h0, if_neg h0]
  have e1 : ∀ s, rootS (x0 + 2 * bx + ax) a (-(a + b)) ax (-(ax + bx)) d (-s) = (rootS x0 a b ax bx d s).neg := fun s => by
    simp only [rootS, Sp.neg, Sp.mk.injEq]
    refine ⟨trivial, ?_, by grind, trivial, trivial⟩
    grind
  have e2 := e1 1
  have e3 := e1 (-1)
  rw [Int.neg_neg] at e3
  unfold tot
  simp only [up_flip, dn_flip]
  rw [e2, e3]
  by_cases u : up a b d <;> by_cases v : dn a b d <;> simp only [u, v, if_true, if_false, cnt_neg, cnt_z] <;> omega
theorem tot_flip (e : Ed) (x y : Int) : tot (spots e.flip y) x = -tot (spots e y) x := by
  unfold spots
  by_cases h : e.b = true
  · rw [if_pos (by exact h), if_pos h]
    unfold bentS Ed.flip
    have := bent_flip e.x0 (e.x0 - 2 * e.cx + e.x1) (e.cx - e.x0) (e.y0 - 2 * e.cy + e.y1) (e.cy - e.y0) (e.y0 - y) x
    rw [← this]
    simp only
    congr 1
    congr 1 <;> omega
  · rw [if_neg (by exact h), if_neg h]
    unfold tot Ed.flip
    simp only [straight_flip e.x0 e.y0 e.x1 e.y1 y, cnt_neg, cnt_z]
    omega
theorem may_flip (e : Ed) : e.flip.may ↔ e.may := by
  unfold Ed.may Ed.flip
  simp only
  constructor <;> intro h <;> exact ⟨h.2.2.2.2.1, h.2.2.2.2.2.1, h.2.2.1, h.2.2.2.1, h.1, h.2.1, h.2.2.2.2.2.2⟩
theorem turns_flip (e : Ed) (x y : Int) : turns e.flip x y = -turns e x y := by
  unfold turns
  by_cases h : e.may ∧ crd x ∧ crd y
  · rw [if_pos h, if_pos ⟨(may_flip e).2 h.1, h.2⟩, tot_flip]
  · rw [if_neg h, if_neg (fun k => h ⟨(may_flip e).1 k.1, k.2⟩)]; rfl
/-! moved -/
def Ed.shift (e : Ed) (dx dy : Int) : Ed := if e.b = true then ⟨e.x0 + dx, e.y0 + dy, true, e.cx + dx, e.cy + dy, e.x1 + dx, e.y1 + dy⟩ else ⟨e.x0 + dx, e.y0 + dy, false, e.cx, e.cy, e.x1 + dx, e.y1 + dy⟩
def Sp.shift (s : Sp) (dx : Int) : Sp := ⟨s.t, s.p + dx * s.m, s.q, s.d, s.m⟩
theorem cnt_shift (s : Sp) (dx x : Int) : cnt (s.shift dx) (x + dx) = cnt s x := by
  unfold cnt Sp.shift
  simp only
  rw [show s.p + dx * s.m - (x + dx) * s.m = s.p - x * s.m by grind]
theorem z_shift (dx : Int) : Sp.z.shift dx = Sp.z := by simp [Sp.z, Sp.shift]
theorem spots_shift (e : Ed) (dx dy y : Int) : spots (e.shift dx dy) (y + dy) = ((spots e y).1.shift dx, (spots e y).2.shift dx) := by
  unfold spots Ed.shift
  by_cases h : e.b = true
  · simp only [h, if_true]
    unfold bentS bentP
    simp only
    rw [show e.x0 + dx - 2 * (e.cx + dx) + (e.x1 + dx) = e.x0 - 2 * e.cx + e.x1 by omega, show e.cx + dx - (e.x0 + dx) = e.cx - e.x0 by omega, show e.y0 + dy - 2 * (e.cy + dy) + (e.y1 + dy) = e.y0 - 2 * e.cy + e.y1 by omega, show e.cy + dy - (e.y0 + dy) = e.cy - e.y0 by omega, show e.y0 + dy - (y + dy) = e.y0 - y by omega]
    generalize e.x0 - 2 * e.cx + e.x1 = ax
    generalize e.cx - e.x0 = bx
    generalize e.y0 - 2 * e.cy + e.y1 = a
    generalize e.cy - e.y0 = b
    generalize e.y0 - y = c
    generalize e.x0 = x0
    by_cases ha : a = 0
    · rw [if_pos ha, if_pos ha]
      simp only [z_shift]
      congr 1
      unfold evenS
      by_cases h1 : 0 < b ∧ c ≤ 0 ∧ -c < 2 * b
      · rw [if_pos h1, if_pos h1]; simp only [Sp.shift, Sp.mk.injEq]; refine ⟨trivial, by grind, trivial, trivial, trivial⟩
      · rw [if_neg h1, if_neg h1]
        by_cases h2 : b < 0 ∧ 0 < c ∧ c ≤ -2 * b
        · rw [if_pos h2, if_pos h2]; simp only [Sp.shift, Sp.mk.injEq]; refine ⟨trivial, by grind, trivial, trivial, trivial⟩
        · rw [if_neg h2, if_neg h2, z_shift]
    rw [if_neg ha, if_neg ha]
    generalize b * b - a * c = d
    by_cases h0 : d < 0 ∨ (d = 0 ∧ a < 0)
    · rw [if_pos h0, if_pos h0]; simp only [z_shift]
    rw [if_neg h0, if_neg h0]
    have e1 : ∀ s, rootS (x0 + dx) a b ax bx d s = (rootS x0 a b ax bx d s).shift dx := fun s => by
      simp only [rootS, Sp.shift, Sp.mk.injEq]
      refine ⟨trivial, by grind, trivial, trivial, trivial⟩
    rw [e1, e1]
    by_cases u : up a b d <;> by_cases v : dn a b d <;> simp only [u, v, if_true, if_false, z_shift]
  · have hb : e.b = false := by simpa using h
    simp only [hb, Bool.false_eq_true, if_false, z_shift]
    congr 1
    unfold straightS
    by_cases h1 : e.y0 ≤ y ∧ y < e.y1
    · rw [if_pos h1, if_pos (by omega)]; simp only [Sp.shift, Sp.mk.injEq]; refine ⟨trivial, by grind, trivial, trivial, by omega⟩
    · rw [if_neg h1, if_neg (by omega)]
      by_cases h2 : e.y1 ≤ y ∧ y < e.y0
      · rw [if_pos h2, if_pos (by omega)]; simp only [Sp.shift, Sp.mk.injEq]; refine ⟨trivial, by grind, trivial, trivial, by omega⟩
      · rw [if_neg h2, if_neg (by omega), z_shift]
theorem tot_shift (e : Ed) (dx dy x y : Int) : tot (spots (e.shift dx dy) (y + dy)) (x + dx) = tot (spots e y) x := by
  rw [spots_shift]
  unfold tot
  simp only [cnt_shift]
end Go.Proofs.Ytnienpalbfgflaa.Pl
