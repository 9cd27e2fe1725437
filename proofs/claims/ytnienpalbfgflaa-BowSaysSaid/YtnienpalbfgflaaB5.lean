/- Plain facts on edges: bent ones that are straight; how many centres are left of a crossing; bounds. -/
import Derived.Test.YtnienpalbfgflaaB4
namespace Go.Proofs.Ytnienpalbfgflaa.Pl
set_option linter.unusedVariables false

def crossK (s : Sp) (n : Int) : Int := max 0 (min (-((8 * s.m - s.p + srt (ss (-s.q) * s.d)) / (16 * s.m))) n)
def crosses (s : Sp) (n : Int) : List (Int × Int) := if s.t = 0 then [] else [(s.t, crossK s n)]
def line (e : Ed) (y n : Int) : List (Int × Int) := if e.may ∧ crd y ∧ 0 ≤ n ∧ n ≤ 64 then crosses (spots e y).1 n ++ crosses (spots e y).2 n else []
/-- a spot's numbers are in bounds -/
def Sp.ok (s : Sp) : Prop := s.t = 0 ∨ ((s.t = 1 ∨ s.t = -1) ∧ 1 ≤ s.m ∧ s.m ≤ 1073741824 ∧ -281474976710656 ≤ s.p ∧ s.p ≤ 281474976710656 ∧ okq s.q s.d)
theorem bd_mul {u v : Int} (U V : Int) (hu : -U ≤ u ∧ u ≤ U) (hv : -V ≤ v ∧ v ≤ V) : -(U * V) ≤ u * v ∧ u * v ≤ U * V := by
  have h1 := mag_mul u v
  have h2 : mag u * mag v ≤ U * V := Int.mul_le_mul (by unfold mag; split <;> omega) (by unfold mag; split <;> omega) (mag_nn v) (by omega)
  have h3 : mag (u * v) ≤ U * V := by omega
  unfold mag at h3
  split at h3 <;> omega
/-- K tells which centres are left of a crossing -/
theorem crossK_iff (s : Sp) (n i : Int) (hs : s.ok) (ht : s.t ≠ 0) (h0 : 0 ≤ i) (h1 : i < n) : i < crossK s n ↔ 0 < rsign (s.p - (16 * i + 8) * s.m) s.q s.d := by
  obtain ⟨t1, m0, m1, p0, p1, hq⟩ := hs.resolve_left ht
  have hq' : okq (-s.q) s.d := by unfold okq at hq ⊢; omega
  have hT := T_bd (-s.q) s.d hq'
  obtain ⟨s1, s2, _, _⟩ := srt_spec _ hT.1 hT.2
  unfold crossK
  generalize hσ : srt (ss (-s.q) * s.d) = σ at *
  have e1 : i < max 0 (min (-((8 * s.m - s.p + σ) / (16 * s.m))) n) ↔ (8 * s.m - s.p + σ) / (16 * s.m) < -i := by omega
  rw [e1, Int.ediv_lt_iff_lt_mul (by omega)]
  unfold rsign
  rw [sg_gt0]
  have e2 : ss (-s.q) = -ss s.q := ss_flip _
  rw [e2, Int.neg_mul] at s1 s2
  have e3 : s.p - (16 * i + 8) * s.m = -i * (16 * s.m) - 8 * s.m + s.p := by grind
  rw [e3]
  generalize -i * (16 * s.m) = G
  constructor
  · intro h
    have := ss_le (a := σ + 1) (b := G - 8 * s.m + s.p) (by omega)
    omega
  · intro h
    by_cases c : G - 8 * s.m + s.p ≤ σ
    · have := ss_le c
      omega
    · omega
/-! bent ones that are straight -/
theorem srt_zero : srt 0 = 0 := by
  obtain ⟨h1, h2, _, _⟩ := srt_spec 0 (by decide) (by decide)
  by_cases c : srt 0 ≤ -1
  · have := ss_le (a := srt 0 + 1) (b := 0) (by omega)
    rw [ss_zero] at this
    omega
  · by_cases c : 1 ≤ srt 0
    · have := ss_lt (a := 0) (b := srt 0) (by omega)
      rw [ss_zero] at this
      omega
    · omega
/-- the crossing lies at R / y across -/
def Col (R y : Int) (s : Sp) : Prop := s.t = 0 ∨ (s.q = 0 ∧ 0 < s.m ∧ s.p * y = s.m * R ∧ y ≠ 0)
theorem col_cnt {R y : Int} {s : Sp} (h : Col R y s) (x : Int) : cnt s x = if 0 < (R - x * y) * y then s.t else 0 := by
  rcases h with h | ⟨hq, hm, hp, hy⟩
  · unfold cnt
    rw [if_neg (fun k => k.1 h), h]
    split <;> rfl
  · have e : (s.p - x * s.m) * (y * y) = s.m * ((R - x * y) * y) := by grind
    have hyy : 0 < y * y := by
      rcases Int.lt_or_gt_of_ne hy with h | h
      · exact Int.mul_pos_of_neg_of_neg h h
      · exact Int.mul_pos h h
    have k : 0 < s.p - x * s.m ↔ 0 < (R - x * y) * y := by
      constructor
      · intro h
        have := Int.mul_pos h hyy
        rw [e] at this
        exact Int.pos_of_mul_pos_right this (by omega)
      · intro h
        have := Int.mul_pos hm h
        rw [← e] at this
        exact Int.pos_of_mul_pos_left this (by omega)
    unfold cnt
    have k' : 0 < rsign (s.p - x * s.m) s.q s.d ↔ 0 < (R - x * y) * y := by rw [hq, rsign_flat, sg_gt0]; exact k
    by_cases c : 0 < (R - x * y) * y
    · rw [if_pos c]
      by_cases t : s.t = 0
      · rw [if_neg (fun k => k.1 t), t]
      · rw [if_pos ⟨t, k'.2 c⟩]
    · rw [if_neg c, if_neg (fun h => c (k'.1 h.2))]
theorem col_K {R y : Int} {s : Sp} (h : Col R y s) (ht : s.t ≠ 0) (n : Int) : crossK s n = max 0 (min (-((8 * (y * y) - R * y) / (16 * (y * y)))) n) := by
  obtain ⟨hq, hm, hp, hy⟩ := h.resolve_left ht
  have hyy : 0 < y * y := by
    rcases Int.lt_or_gt_of_ne hy with h | h
    · exact Int.mul_pos_of_neg_of_neg h h
    · exact Int.mul_pos h h
  have e : (8 * s.m - s.p) / (16 * s.m) = (8 * (y * y) - R * y) / (16 * (y * y)) := by
    rw [← Int.mul_ediv_mul_of_pos_left (8 * s.m - s.p) (16 * s.m) hyy, ← Int.mul_ediv_mul_of_pos_left (8 * (y * y) - R * y) (16 * (y * y)) hm]
    congr 1 <;> grind
  unfold crossK
  rw [hq, show ss (-0) * s.d = 0 by rw [show ss (-0) = 0 from rfl, Int.zero_mul], srt_zero, Int.add_zero, e]
theorem col_straight (x0 y0 dx dy y : Int) : Col (x0 * dy - dx * (y0 - y)) dy (straightS x0 y0 (x0 + 8 * dx) (y0 + 8 * dy) y) := by
  unfold straightS
  by_cases k1 : y0 ≤ y ∧ y < y0 + 8 * dy
  · rw [if_pos k1]
    refine .inr ⟨rfl, by show 0 < y0 + 8 * dy - y0; omega, ?_, by omega⟩
    show (x0 * (y0 + 8 * dy - y0) + (x0 + 8 * dx - x0) * (y - y0)) * dy = (y0 + 8 * dy - y0) * (x0 * dy - dx * (y0 - y))
    grind
  · rw [if_neg k1]
    by_cases k2 : y0 + 8 * dy ≤ y ∧ y < y0
    · rw [if_pos k2]
      refine .inr ⟨rfl, by show 0 < -(y0 + 8 * dy - y0); omega, ?_, by omega⟩
      show -(x0 * (y0 + 8 * dy - y0) + (x0 + 8 * dx - x0) * (y - y0)) * dy = -(y0 + 8 * dy - y0) * (x0 * dy - dx * (y0 - y))
      grind
    · rw [if_neg k2]; exact .inl rfl
theorem col_bent (x0 dx dy m c : Int) (hm : 0 ≤ m ∧ m ≤ 8) : Col (x0 * dy - dx * c) dy (bentP x0 ((8 - 2 * m) * dx) (m * dx) ((8 - 2 * m) * dy) (m * dy) c).1 ∧ Col (x0 * dy - dx * c) dy (bentP x0 ((8 - 2 * m) * dx) (m * dx) ((8 - 2 * m) * dy) (m * dy) c).2 := by
  unfold bentP
  by_cases ha : (8 - 2 * m) * dy = 0
  · rw [if_pos ha]
    refine ⟨?_, .inl rfl⟩
    have hev : ∀ t : Int, m * dy ≠ 0 → Col (x0 * dy - dx * c) dy ⟨t, 4 * (m * dy) * (m * dy) * x0 - 4 * (m * dy) * c * (m * dx) + (8 - 2 * m) * dx * c * c, 0, 0, 4 * (m * dy) * (m * dy)⟩ := fun t h => by
      have hy : dy ≠ 0 := fun k => h (by rw [k, Int.mul_zero])
      have h4 : 8 - 2 * m = 0 := (Int.mul_eq_zero.1 ha).resolve_right hy
      have hm4 : m = 4 := by omega
      subst hm4
      refine .inr ⟨rfl, ?_, ?_, hy⟩
      · show 0 < 4 * (4 * dy) * (4 * dy)
        have : 0 < dy * dy := by
          rcases Int.lt_or_gt_of_ne hy with h | h
          · exact Int.mul_pos_of_neg_of_neg h h
          · exact Int.mul_pos h h
        have e : 4 * (4 * dy) * (4 * dy) = 64 * (dy * dy) := by grind
        omega
      · show (4 * (4 * dy) * (4 * dy) * x0 - 4 * (4 * dy) * c * (4 * dx) + (8 - 2 * 4) * dx * c * c) * dy = 4 * (4 * dy) * (4 * dy) * (x0 * dy - dx * c)
        grind
    unfold evenS
    by_cases h1 : 0 < m * dy ∧ c ≤ 0 ∧ -c < 2 * (m * dy)
    · rw [if_pos h1]; exact hev 1 (by omega)
    · rw [if_neg h1]
      by_cases h2 : m * dy < 0 ∧ 0 < c ∧ c ≤ -2 * (m * dy)
      · rw [if_pos h2]; exact hev (-1) (by omega)
      · rw [if_neg h2]; exact .inl rfl
  rw [if_neg ha]
  have hy : dy ≠ 0 := fun k => ha (by rw [k, Int.mul_zero])
  have hroot : ∀ s : Int, Col (x0 * dy - dx * c) dy (rootS x0 ((8 - 2 * m) * dy) (m * dy) ((8 - 2 * m) * dx) (m * dx) (m * dy * (m * dy) - (8 - 2 * m) * dy * c) s) := fun s => by
    refine .inr ⟨?_, ?_, ?_, hy⟩
    · show s * (2 * ((8 - 2 * m) * dy) * (m * dx) - 2 * (m * dy) * ((8 - 2 * m) * dx)) = 0
      grind
    · show 0 < (8 - 2 * m) * dy * ((8 - 2 * m) * dy)
      rcases Int.lt_or_gt_of_ne ha with h | h
      · exact Int.mul_pos_of_neg_of_neg h h
      · exact Int.mul_pos h h
    · show (x0 * ((8 - 2 * m) * dy) * ((8 - 2 * m) * dy) - 2 * ((8 - 2 * m) * dy) * (m * dy) * (m * dx) + (8 - 2 * m) * dx * (m * dy * (m * dy) + (m * dy * (m * dy) - (8 - 2 * m) * dy * c))) * dy = (8 - 2 * m) * dy * ((8 - 2 * m) * dy) * (x0 * dy - dx * c)
      grind
  split
  · exact ⟨.inl rfl, .inl rfl⟩
  · constructor
    · show Col _ _ (if _ then _ else _)
      split
      · exact hroot 1
      · exact .inl rfl
    · show Col _ _ (if _ then _ else _)
      split
      · exact hroot (-1)
      · exact .inl rfl
/-- what the law of straight bent edges reckons -/
def wt (l : List (Int × Int)) : Int := (l.map fun c => c.1 * (1 + c.2)).sum
theorem wt_crosses (s : Sp) (n : Int) : wt (crosses s n) = s.t * (1 + crossK s n) := by
  unfold wt crosses
  by_cases h : s.t = 0
  · rw [if_pos h, h]; simp
  · rw [if_neg h]; simp
theorem wt_append (l k : List (Int × Int)) : wt (l ++ k) = wt l + wt k := by
  unfold wt
  rw [List.map_append, List.sum_append]
theorem col_wt {R y : Int} {s : Sp} (h : Col R y s) (n : Int) : wt (crosses s n) = s.t * (1 + max 0 (min (-((8 * (y * y) - R * y) / (16 * (y * y)))) n)) := by
  rw [wt_crosses]
  by_cases t : s.t = 0
  · rw [t, Int.zero_mul, Int.zero_mul]
  · rw [col_K h t]
theorem straight_t (x0 y0 x1 y1 y : Int) : (straightS x0 y0 x1 y1 y).t = chordT y0 y1 y := by
  unfold straightS chordT
  (repeat' split) <;> rfl
theorem col_law (x0 y0 dx dy m x y n : Int) (hm : 0 ≤ m ∧ m ≤ 8) :
    tot (spots ⟨x0, y0, true, x0 + m * dx, y0 + m * dy, x0 + 8 * dx, y0 + 8 * dy⟩ y) x = tot (spots ⟨x0, y0, false, 0, 0, x0 + 8 * dx, y0 + 8 * dy⟩ y) x
    ∧ wt (crosses (spots ⟨x0, y0, true, x0 + m * dx, y0 + m * dy, x0 + 8 * dx, y0 + 8 * dy⟩ y).1 n) + wt (crosses (spots ⟨x0, y0, true, x0 + m * dx, y0 + m * dy, x0 + 8 * dx, y0 + 8 * dy⟩ y).2 n)
      = wt (crosses (spots ⟨x0, y0, false, 0, 0, x0 + 8 * dx, y0 + 8 * dy⟩ y).1 n) + wt (crosses (spots ⟨x0, y0, false, 0, 0, x0 + 8 * dx, y0 + 8 * dy⟩ y).2 n) := by
  have e1 : spots ⟨x0, y0, true, x0 + m * dx, y0 + m * dy, x0 + 8 * dx, y0 + 8 * dy⟩ y = bentP x0 ((8 - 2 * m) * dx) (m * dx) ((8 - 2 * m) * dy) (m * dy) (y0 - y) := by
    unfold spots bentS
    simp only [if_true]
    congr 1 <;> grind
  have e2 : spots ⟨x0, y0, false, 0, 0, x0 + 8 * dx, y0 + 8 * dy⟩ y = (straightS x0 y0 (x0 + 8 * dx) (y0 + 8 * dy) y, Sp.z) := by
    unfold spots
    simp only [Bool.false_eq_true, if_false]
  obtain ⟨c1, c2⟩ := col_bent x0 dx dy m (y0 - y) hm
  have c3 := col_straight x0 y0 dx dy y
  have c4 : Col (x0 * dy - dx * (y0 - y)) dy Sp.z := .inl rfl
  have ht := bent_turn x0 ((8 - 2 * m) * dx) (m * dx) ((8 - 2 * m) * dy) (m * dy) (y0 - y)
  rw [show y0 - y + 2 * (m * dy) + (8 - 2 * m) * dy = y0 + 8 * dy - y by grind, chordT_shift y0 (y0 + 8 * dy) y, ← straight_t x0 y0 (x0 + 8 * dx) (y0 + 8 * dy) y] at ht
  rw [e1, e2]
  generalize bentP x0 ((8 - 2 * m) * dx) (m * dx) ((8 - 2 * m) * dy) (m * dy) (y0 - y) = P at *
  generalize straightS x0 y0 (x0 + 8 * dx) (y0 + 8 * dy) y = S at *
  constructor
  · unfold tot
    simp only
    rw [col_cnt c1, col_cnt c2, col_cnt c3, cnt_z]
    split <;> omega
  · simp only
    rw [col_wt c1, col_wt c2, col_wt c3, col_wt c4, ← Int.add_mul, ht]
    show _ = _ + (0 : Int) * _
    omega
/-! bounds -/
theorem spots_ok (e : Ed) (he : e.may) (y : Int) (hy : crd y) : (spots e y).1.ok ∧ (spots e y).2.ok := by
  have hz : Sp.z.ok := .inl rfl
  obtain ⟨a1, a2, a3, a4, a5, a6, _⟩ := he
  unfold crd at a1 a2 a3 a4 a5 a6 hy
  have hq0 : okq 0 0 := by unfold okq; omega
  unfold spots
  by_cases h : e.b = true
  · rw [if_pos h]
    unfold bentS
    have b1 : -32764 ≤ e.x0 - 2 * e.cx + e.x1 ∧ e.x0 - 2 * e.cx + e.x1 ≤ 32764 := by omega
    have b2 : -16382 ≤ e.cx - e.x0 ∧ e.cx - e.x0 ≤ 16382 := by omega
    have b3 : -32764 ≤ e.y0 - 2 * e.cy + e.y1 ∧ e.y0 - 2 * e.cy + e.y1 ≤ 32764 := by omega
    have b4 : -16382 ≤ e.cy - e.y0 ∧ e.cy - e.y0 ≤ 16382 := by omega
    have b5 : -16382 ≤ e.y0 - y ∧ e.y0 - y ≤ 16382 := by omega
    generalize e.x0 - 2 * e.cx + e.x1 = ax at *
    generalize e.cx - e.x0 = bx at *
    generalize e.y0 - 2 * e.cy + e.y1 = a at *
    generalize e.cy - e.y0 = b at *
    generalize e.y0 - y = c at *
    generalize e.x0 = x0 at *
    have m1 := bd_mul 16382 16382 b4 b4
    have m2 := bd_mul 32764 16382 b3 b5
    have m3 := sqn b
    unfold bentP
    by_cases ha : a = 0
    · rw [if_pos ha]
      refine ⟨?_, hz⟩
      have hb1 : -(4 * b * b * x0 - 4 * b * c * bx + ax * c * c) ≤ 281474976710656 ∧ 4 * b * b * x0 - 4 * b * c * bx + ax * c * c ≤ 281474976710656 := by
        have k1 := bd_mul _ _ m1 a1
        have k2 := bd_mul _ _ (bd_mul _ _ b4 b5) b2
        have k3 := bd_mul _ _ (bd_mul _ _ b1 b5) b5
        have e1 : 4 * b * b * x0 = 4 * (b * b * x0) := by grind
        have e2 : 4 * b * c * bx = 4 * (b * c * bx) := by grind
        omega
      have hb2 : 4 * b * b ≤ 1073741824 := by
        have : 4 * b * b = 4 * (b * b) := by grind
        omega
      have hb3 : b ≠ 0 → 1 ≤ 4 * b * b := fun h => by
        have : 4 * b * b = 4 * (b * b) := by grind
        have : 0 < b * b := by
          rcases Int.lt_or_gt_of_ne h with h | h
          · exact Int.mul_pos_of_neg_of_neg h h
          · exact Int.mul_pos h h
        omega
      unfold evenS
      by_cases h1 : 0 < b ∧ c ≤ 0 ∧ -c < 2 * b
      · rw [if_pos h1]; exact .inr ⟨.inl rfl, hb3 (by omega), hb2, by show _ ≤ 4 * b * b * x0 - 4 * b * c * bx + ax * c * c; omega, hb1.2, hq0⟩
      · rw [if_neg h1]
        by_cases h2 : b < 0 ∧ 0 < c ∧ c ≤ -2 * b
        · rw [if_pos h2]; exact .inr ⟨.inr rfl, hb3 (by omega), hb2, by show _ ≤ 4 * b * b * x0 - 4 * b * c * bx + ax * c * c; omega, hb1.2, hq0⟩
        · rw [if_neg h2]; exact hz
    rw [if_neg ha]
    by_cases h0 : b * b - a * c < 0 ∨ (b * b - a * c = 0 ∧ a < 0)
    · rw [if_pos h0]; exact ⟨hz, hz⟩
    rw [if_neg h0]
    have hd : 0 ≤ b * b - a * c ∧ b * b - a * c ≤ 2147483648 := by omega
    have hr : ∀ s : Int, s = 1 ∨ s = -1 → (rootS x0 a b ax bx (b * b - a * c) s).ok := fun s hs => by
      have k1 := bd_mul _ _ (bd_mul _ _ a1 b3) b3
      have k2 := bd_mul _ _ (bd_mul _ _ b3 b4) b2
      have k3 := bd_mul 32764 2415919104 b1 (show -2415919104 ≤ b * b + (b * b - a * c) ∧ b * b + (b * b - a * c) ≤ 2415919104 by omega)
      have k4 := bd_mul _ _ b3 b2
      have k5 := bd_mul _ _ b4 b1
      have k6 := bd_mul _ _ b3 b3
      have e1 : 2 * a * b * bx = 2 * (a * b * bx) := by grind
      have e2 : 2 * a * bx = 2 * (a * bx) := by grind
      have e3 : 2 * b * ax = 2 * (b * ax) := by grind
      have k7 : 0 < a * a := by
        rcases Int.lt_or_gt_of_ne ha with h | h
        · exact Int.mul_pos_of_neg_of_neg h h
        · exact Int.mul_pos h h
      refine .inr ⟨hs, by show 1 ≤ a * a; omega, by show a * a ≤ _; omega, by show _ ≤ x0 * a * a - 2 * a * b * bx + ax * (b * b + (b * b - a * c)); omega, by show x0 * a * a - 2 * a * b * bx + ax * (b * b + (b * b - a * c)) ≤ _; omega, ?_⟩
      show okq (s * (2 * a * bx - 2 * b * ax)) (b * b - a * c)
      unfold okq
      rcases hs with rfl | rfl <;> omega
    constructor
    · show Sp.ok (if _ then _ else _)
      split
      · exact hr 1 (.inl rfl)
      · exact hz
    · show Sp.ok (if _ then _ else _)
      split
      · exact hr (-1) (.inr rfl)
      · exact hz
  · rw [if_neg h]
    refine ⟨?_, hz⟩
    have k1 := bd_mul 8191 16382 a1 (show -16382 ≤ e.y1 - e.y0 ∧ e.y1 - e.y0 ≤ 16382 by omega)
    have k2 := bd_mul 16382 16382 (show -16382 ≤ e.x1 - e.x0 ∧ e.x1 - e.x0 ≤ 16382 by omega) (show -16382 ≤ y - e.y0 ∧ y - e.y0 ≤ 16382 by omega)
    show (straightS e.x0 e.y0 e.x1 e.y1 y).ok
    unfold straightS
    by_cases h1 : e.y0 ≤ y ∧ y < e.y1
    · rw [if_pos h1]
      exact .inr ⟨.inl rfl, by show 1 ≤ e.y1 - e.y0; omega, by show e.y1 - e.y0 ≤ _; omega, by show _ ≤ e.x0 * (e.y1 - e.y0) + (e.x1 - e.x0) * (y - e.y0); omega, by show e.x0 * (e.y1 - e.y0) + (e.x1 - e.x0) * (y - e.y0) ≤ _; omega, hq0⟩
    · rw [if_neg h1]
      by_cases h2 : e.y1 ≤ y ∧ y < e.y0
      · rw [if_pos h2]
        exact .inr ⟨.inr rfl, by show 1 ≤ -(e.y1 - e.y0); omega, by show -(e.y1 - e.y0) ≤ _; omega, by show _ ≤ -(e.x0 * (e.y1 - e.y0) + (e.x1 - e.x0) * (y - e.y0)); omega, by show -(e.x0 * (e.y1 - e.y0) + (e.x1 - e.x0) * (y - e.y0)) ≤ _; omega, hq0⟩
      · rw [if_neg h2]; exact hz
end Go.Proofs.Ytnienpalbfgflaa.Pl
