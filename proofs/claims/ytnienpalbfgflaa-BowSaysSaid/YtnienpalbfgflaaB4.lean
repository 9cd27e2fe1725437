/- Plain facts on edges: far to the left and to the right; bent ones that are straight; how many centres are left of a crossing. -/
import Derived.Test.YtnienpalbfgflaaB3
namespace Go.Proofs.Ytnienpalbfgflaa.Pl
set_option linter.unusedVariables false

/-! far to the left, far to the right -/
theorem hull0 {d T W s A B C : Int} (hd : 0 ≤ d) (hs : s * s = 1) (hT : nn d T s) (hW : nn d W (-s)) (hA : 0 ≤ A) (hB : 0 ≤ B) (hC : 0 ≤ C) :
    nn d (A * (W * W + d) + 2 * B * (T * W - d) + C * (T * T + d)) (s * (-2 * A * W + 2 * B * (W - T) + 2 * C * T)) := by
  have h1 := nn_mul_nat hA (nn_mul hd hW hW)
  have h2 := nn_mul_nat (k := 2 * B) (by omega) (nn_mul hd hT hW)
  have h3 := nn_mul_nat hC (nn_mul hd hT hT)
  have h := nn_add hd (nn_add hd h1 h2) h3
  have e1 : A * (W * W + -s * -s * d) + 2 * B * (T * W + s * -s * d) + C * (T * T + s * s * d) = A * (W * W + d) + 2 * B * (T * W - d) + C * (T * T + d) := by
    rw [Int.neg_mul_neg, Int.mul_neg, hs]
    grind
  have e2 : A * (W * -s + -s * W) + 2 * B * (T * -s + s * W) + C * (T * s + s * T) = s * (-2 * A * W + 2 * B * (W - T) + 2 * C * T) := by grind
  rw [e1, e2] at h
  exact h
theorem hull1 {d T W s A B C : Int} (hd : 0 ≤ d) (hs : s * s = 1) (hT : nn d T s) (hW : nn d W (-s)) (hA : 0 < A) (hB : 0 < B) (hC : 0 < C) (h0 : T + W ≠ 0) :
    0 < rsign (A * (W * W + d) + 2 * B * (T * W - d) + C * (T * T + d)) (s * (-2 * A * W + 2 * B * (W - T) + 2 * C * T)) d := by
  have h := hull0 (A := A - 1) (B := B - 1) (C := C - 1) hd hs hT hW (by omega) (by omega) (by omega)
  have k : 0 < rsign ((T + W) * (T + W)) 0 d := by
    rw [rsign_flat, sg_gt0]
    rcases Int.lt_or_gt_of_ne h0 with h | h
    · exact Int.mul_pos_of_neg_of_neg h h
    · exact Int.mul_pos h h
  have := rsign_pos_add hd h k
  have e1 : (A - 1) * (W * W + d) + 2 * (B - 1) * (T * W - d) + (C - 1) * (T * T + d) + (T + W) * (T + W) = A * (W * W + d) + 2 * B * (T * W - d) + C * (T * T + d) := by grind
  have e2 : s * (-2 * (A - 1) * W + 2 * (B - 1) * (W - T) + 2 * (C - 1) * T) + 0 = s * (-2 * A * W + 2 * B * (W - T) + 2 * C * T) := by grind
  rw [e1, e2] at this
  exact this
/-- what 'up' and 'dn' tell: with s = 1, -1 and k the sign of a -/
theorem up_nn {a b d : Int} (h : up a b d) (ha : a ≠ 0) : ∃ k : Int, k * k = 1 ∧ nn d (-(k * b)) k ∧ nn d (k * (a + b)) (-k) ∧ -(k * b) + k * (a + b) ≠ 0 := by
  obtain ⟨h1, h2⟩ := h
  by_cases c : a < 0
  · rw [side_neg c] at h1 h2
    refine ⟨-1, rfl, ?_, ?_, by omega⟩
    · rw [← rsign_nn, show -(-1 * b) = b by omega, rsign_m1]; omega
    · rw [← rsign_nn, show -1 * (a + b) = -b - a by omega, show -(-1 : Int) = 1 by rfl]; omega
  · rw [side_pos c] at h1 h2
    refine ⟨1, rfl, ?_, ?_, by omega⟩
    · rw [← rsign_nn, show -(1 * b) = -b by omega]; omega
    · rw [← rsign_nn, rsign_m1, show -(1 * (a + b)) = -b - a by omega]; omega
theorem dn_nn {a b d : Int} (h : dn a b d) (ha : a ≠ 0) : ∃ k : Int, k * k = 1 ∧ nn d (-(k * b)) (-k) ∧ nn d (k * (a + b)) k ∧ -(k * b) + k * (a + b) ≠ 0 := by
  obtain ⟨h1, h2⟩ := h
  by_cases c : a < 0
  · rw [side_neg c] at h1 h2
    refine ⟨-1, rfl, ?_, ?_, by omega⟩
    · rw [← rsign_nn, show -(-1 * b) = -(-b) by omega, show -(-1 : Int) = 1 by rfl]
      rw [rsign_m1] at h1; omega
    · rw [← rsign_nn, show -1 * (a + b) = -b - a by omega]; omega
  · rw [side_pos c] at h1 h2
    refine ⟨1, rfl, ?_, ?_, by omega⟩
    · rw [← rsign_nn, show -(1 * b) = -b by omega]; omega
    · rw [← rsign_nn]
      rw [rsign_m1] at h2
      rw [show 1 * (a + b) = -(-b - a) by omega]; omega
/-- where a crossing is against a column: X0, CX, X1 less that column are A, B, C -/
theorem root_at (x0 ax bx a b d s k x : Int) (hk : k * k = 1) :
    (rootS x0 a b ax bx d s).p - x * (rootS x0 a b ax bx d s).m = (x0 - x) * (k * (a + b) * (k * (a + b)) + d) + 2 * (x0 + bx - x) * (-(k * b) * (k * (a + b)) - d) + (x0 + 2 * bx + ax - x) * (-(k * b) * -(k * b) + d)
    ∧ (rootS x0 a b ax bx d s).q = (k * s) * (-2 * (x0 - x) * (k * (a + b)) + 2 * (x0 + bx - x) * (k * (a + b) - -(k * b)) + 2 * (x0 + 2 * bx + ax - x) * -(k * b)) := by
  unfold rootS
  simp only
  constructor
  · have e1 : k * (a + b) * (k * (a + b)) = (a + b) * (a + b) := by grind
    have e2 : -(k * b) * (k * (a + b)) = -(b * (a + b)) := by grind
    have e3 : -(k * b) * -(k * b) = b * b := by grind
    rw [e1, e2, e3]
    grind
  · have e : ∀ u v : Int, k * s * (u * (k * v)) = s * (u * v) := fun u v => by grind
    have e1 : (-2 * (x0 - x) * (k * (a + b)) + 2 * (x0 + bx - x) * (k * (a + b) - -(k * b)) + 2 * (x0 + 2 * bx + ax - x) * -(k * b)) = k * (2 * a * bx - 2 * b * ax) := by grind
    rw [e1]
    grind
theorem root_left (x0 ax bx a b d s x : Int) (ha : a ≠ 0) (hd : 0 ≤ d) (h : (s = 1 ∧ up a b d) ∨ (s = -1 ∧ dn a b d)) (h1 : x < x0) (h2 : x < x0 + bx) (h3 : x < x0 + 2 * bx + ax) :
    0 < rsign ((rootS x0 a b ax bx d s).p - x * (rootS x0 a b ax bx d s).m) (rootS x0 a b ax bx d s).q d := by
  rcases h with ⟨rfl, h⟩ | ⟨rfl, h⟩
  · obtain ⟨k, k1, k2, k3, k4⟩ := up_nn h ha
    obtain ⟨e1, e2⟩ := root_at x0 ax bx a b d 1 k x k1
    rw [e1, e2]
    exact hull1 hd (by rw [Int.mul_one]; exact k1) (by rw [Int.mul_one]; exact k2) (by rw [Int.mul_one]; exact k3) (by omega) (by omega) (by omega) k4
  · obtain ⟨k, k1, k2, k3, k4⟩ := dn_nn h ha
    obtain ⟨e1, e2⟩ := root_at x0 ax bx a b d (-1) k x k1
    rw [e1, e2]
    have e : k * -1 = -k := by omega
    exact hull1 hd (by rw [e, Int.neg_mul_neg]; exact k1) (by rw [e]; exact k2) (by rw [e, Int.neg_neg]; exact k3) (by omega) (by omega) (by omega) k4
theorem root_right (x0 ax bx a b d s x : Int) (ha : a ≠ 0) (hd : 0 ≤ d) (h : (s = 1 ∧ up a b d) ∨ (s = -1 ∧ dn a b d)) (h1 : x0 ≤ x) (h2 : x0 + bx ≤ x) (h3 : x0 + 2 * bx + ax ≤ x) :
    ¬ 0 < rsign ((rootS x0 a b ax bx d s).p - x * (rootS x0 a b ax bx d s).m) (rootS x0 a b ax bx d s).q d := by
  rw [rsign_pos_iff, Classical.not_not]
  have fin : ∀ (k s' T W : Int), s' * s' = 1 → nn d T s' → nn d W (-s') → nn d (-((x0 - x) * (W * W + d) + 2 * (x0 + bx - x) * (T * W - d) + (x0 + 2 * bx + ax - x) * (T * T + d))) (-(s' * (-2 * (x0 - x) * W + 2 * (x0 + bx - x) * (W - T) + 2 * (x0 + 2 * bx + ax - x) * T))) := fun k s' T W i1 i2 i3 => by
    have := hull0 (A := x - x0) (B := x - (x0 + bx)) (C := x - (x0 + 2 * bx + ax)) hd i1 i2 i3 (by omega) (by omega) (by omega)
    rw [show (x - x0) * (W * W + d) + 2 * (x - (x0 + bx)) * (T * W - d) + (x - (x0 + 2 * bx + ax)) * (T * T + d) = -((x0 - x) * (W * W + d) + 2 * (x0 + bx - x) * (T * W - d) + (x0 + 2 * bx + ax - x) * (T * T + d)) by grind,
      show s' * (-2 * (x - x0) * W + 2 * (x - (x0 + bx)) * (W - T) + 2 * (x - (x0 + 2 * bx + ax)) * T) = -(s' * (-2 * (x0 - x) * W + 2 * (x0 + bx - x) * (W - T) + 2 * (x0 + 2 * bx + ax - x) * T)) by grind] at this
    exact this
  rcases h with ⟨rfl, h⟩ | ⟨rfl, h⟩
  · obtain ⟨k, k1, k2, k3, k4⟩ := up_nn h ha
    obtain ⟨e1, e2⟩ := root_at x0 ax bx a b d 1 k x k1
    rw [e1, e2]
    exact fin k (k * 1) _ _ (by rw [Int.mul_one]; exact k1) (by rw [Int.mul_one]; exact k2) (by rw [Int.mul_one]; exact k3)
  · obtain ⟨k, k1, k2, k3, k4⟩ := dn_nn h ha
    obtain ⟨e1, e2⟩ := root_at x0 ax bx a b d (-1) k x k1
    rw [e1, e2]
    have e : k * -1 = -k := by omega
    exact fin k (k * -1) _ _ (by rw [e, Int.neg_mul_neg]; exact k1) (by rw [e]; exact k2) (by rw [e, Int.neg_neg]; exact k3)
theorem sum_pos {u v A B C : Int} (hu : 0 ≤ u) (hv : 0 ≤ v) (h : 0 < u + v) (hA : 0 < A) (hB : 0 < B) (hC : 0 < C) : 0 < A * (u * u) + 2 * B * (u * v) + C * (v * v) := by
  have e : A * (u * u) + 2 * B * (u * v) + C * (v * v) = (u + v) * (u + v) + ((A - 1) * (u * u) + 2 * ((B - 1) * (u * v)) + (C - 1) * (v * v)) := by grind
  rw [e]
  have h1 := Int.mul_nonneg (show 0 ≤ A - 1 by omega) (sqn u)
  have h2 := Int.mul_nonneg (show 0 ≤ B - 1 by omega) (Int.mul_nonneg hu hv)
  have h3 := Int.mul_nonneg (show 0 ≤ C - 1 by omega) (sqn v)
  have h4 := Int.mul_pos h h
  omega
theorem sum_neg {u v A B C : Int} (hu : 0 ≤ u) (hv : 0 ≤ v) (hA : A ≤ 0) (hB : B ≤ 0) (hC : C ≤ 0) : A * (u * u) + 2 * B * (u * v) + C * (v * v) ≤ 0 := by
  have h1 := Int.mul_nonpos_of_nonpos_of_nonneg hA (sqn u)
  have h2 := Int.mul_nonpos_of_nonpos_of_nonneg hB (Int.mul_nonneg hu hv)
  have h3 := Int.mul_nonpos_of_nonpos_of_nonneg hC (sqn v)
  have e : 2 * B * (u * v) = 2 * (B * (u * v)) := by grind
  omega
theorem even_at (b c ax bx x0 x : Int) : 4 * b * b * x0 - 4 * b * c * bx + ax * c * c - x * (4 * b * b) = (x0 - x) * ((2 * b + c) * (2 * b + c)) + 2 * (x0 + bx - x) * ((2 * b + c) * (-c)) + (x0 + 2 * bx + ax - x) * (-c * -c) := by grind
theorem even_at' (b c ax bx x0 x : Int) : 4 * b * b * x0 - 4 * b * c * bx + ax * c * c - x * (4 * b * b) = (x0 - x) * (-(2 * b + c) * -(2 * b + c)) + 2 * (x0 + bx - x) * (-(2 * b + c) * c) + (x0 + 2 * bx + ax - x) * (c * c) := by grind
theorem even_left (b c ax bx x0 x : Int) (h1 : x < x0) (h2 : x < x0 + bx) (h3 : x < x0 + 2 * bx + ax) : cnt (evenS b c ax bx x0) x = (evenS b c ax bx x0).t := by
  unfold evenS
  by_cases k1 : 0 < b ∧ c ≤ 0 ∧ -c < 2 * b
  · rw [if_pos k1]
    unfold cnt
    simp only
    rw [if_pos ⟨by omega, by rw [rsign_flat, sg_gt0, even_at]; exact sum_pos (by omega) (by omega) (by omega) (by omega) (by omega) (by omega)⟩]
  · rw [if_neg k1]
    by_cases k2 : b < 0 ∧ 0 < c ∧ c ≤ -2 * b
    · rw [if_pos k2]
      unfold cnt
      simp only
      rw [if_pos ⟨by omega, by rw [rsign_flat, sg_gt0, even_at']; exact sum_pos (by omega) (by omega) (by omega) (by omega) (by omega) (by omega)⟩]
    · rw [if_neg k2]; exact cnt_z x
theorem even_right (b c ax bx x0 x : Int) (h1 : x0 ≤ x) (h2 : x0 + bx ≤ x) (h3 : x0 + 2 * bx + ax ≤ x) : cnt (evenS b c ax bx x0) x = 0 := by
  unfold evenS
  by_cases k1 : 0 < b ∧ c ≤ 0 ∧ -c < 2 * b
  · rw [if_pos k1]
    unfold cnt
    simp only
    rw [if_neg]
    rintro ⟨_, h⟩
    rw [rsign_flat, sg_gt0, even_at] at h
    have := sum_neg (u := 2 * b + c) (v := -c) (A := x0 - x) (B := x0 + bx - x) (C := x0 + 2 * bx + ax - x) (by omega) (by omega) (by omega) (by omega) (by omega)
    omega
  · rw [if_neg k1]
    by_cases k2 : b < 0 ∧ 0 < c ∧ c ≤ -2 * b
    · rw [if_pos k2]
      unfold cnt
      simp only
      rw [if_neg]
      rintro ⟨_, h⟩
      rw [rsign_flat, sg_gt0, even_at'] at h
      have := sum_neg (u := -(2 * b + c)) (v := c) (A := x0 - x) (B := x0 + bx - x) (C := x0 + 2 * bx + ax - x) (by omega) (by omega) (by omega) (by omega) (by omega)
      omega
    · rw [if_neg k2]; exact cnt_z x
theorem bent_left (x0 ax bx a b c x : Int) (h1 : x < x0) (h2 : x < x0 + bx) (h3 : x < x0 + 2 * bx + ax) : tot (bentP x0 ax bx a b c) x = chordT c (c + 2 * b + a) 0 := by
  rw [← bent_turn x0 ax bx a b c]
  unfold tot bentP
  by_cases ha : a = 0
  · rw [if_pos ha]
    simp only [even_left b c ax bx x0 x h1 h2 h3, cnt_z]
    rfl
  rw [if_neg ha]
  generalize b * b - a * c = d
  by_cases h0 : d < 0 ∨ (d = 0 ∧ a < 0)
  · rw [if_pos h0]; simp only [cnt_z]; rfl
  rw [if_neg h0]
  have e : ∀ s, (s = 1 ∧ up a b d) ∨ (s = -1 ∧ dn a b d) → cnt (rootS x0 a b ax bx d s) x = s := fun s hs => by
    have := root_left x0 ax bx a b d s x ha (by omega) hs h1 h2 h3
    unfold cnt
    rw [if_pos ⟨by show s ≠ 0; omega, this⟩]
    rfl
  congr 1
  · by_cases u : up a b d
    · simp only [if_pos u]; exact e 1 (.inl ⟨rfl, u⟩)
    · simp only [if_neg u]; exact cnt_z x
  · by_cases u : dn a b d
    · simp only [if_pos u]; exact e (-1) (.inr ⟨rfl, u⟩)
    · simp only [if_neg u]; exact cnt_z x
theorem bent_right (x0 ax bx a b c x : Int) (h1 : x0 ≤ x) (h2 : x0 + bx ≤ x) (h3 : x0 + 2 * bx + ax ≤ x) : tot (bentP x0 ax bx a b c) x = 0 := by
  unfold tot bentP
  by_cases ha : a = 0
  · rw [if_pos ha]
    simp only [even_right b c ax bx x0 x h1 h2 h3, cnt_z]
    rfl
  rw [if_neg ha]
  generalize b * b - a * c = d
  by_cases h0 : d < 0 ∨ (d = 0 ∧ a < 0)
  · rw [if_pos h0]; simp only [cnt_z]; rfl
  rw [if_neg h0]
  have e : ∀ s, (s = 1 ∧ up a b d) ∨ (s = -1 ∧ dn a b d) → cnt (rootS x0 a b ax bx d s) x = 0 := fun s hs => by
    have := root_right x0 ax bx a b d s x ha (by omega) hs h1 h2 h3
    unfold cnt
    rw [if_neg (fun h => this h.2)]
  have e1 : cnt (if up a b d then rootS x0 a b ax bx d 1 else Sp.z) x = 0 := by
    by_cases u : up a b d
    · rw [if_pos u]; exact e 1 (.inl ⟨rfl, u⟩)
    · rw [if_neg u]; exact cnt_z x
  have e2 : cnt (if dn a b d then rootS x0 a b ax bx d (-1) else Sp.z) x = 0 := by
    by_cases u : dn a b d
    · rw [if_pos u]; exact e (-1) (.inr ⟨rfl, u⟩)
    · rw [if_neg u]; exact cnt_z x
  simp only [e1, e2]
  rfl
theorem straight_left (x0 y0 x1 y1 y x : Int) (h1 : x < x0) (h2 : x < x1) : cnt (straightS x0 y0 x1 y1 y) x = chordT y0 y1 y := by
  unfold straightS chordT
  by_cases k1 : y0 ≤ y ∧ y < y1
  · rw [if_pos k1, if_pos k1]
    unfold cnt
    simp only
    rw [if_pos]
    refine ⟨by omega, ?_⟩
    rw [rsign_flat, sg_gt0]
    have e : x0 * (y1 - y0) + (x1 - x0) * (y - y0) - x * (y1 - y0) = (x0 - x) * (y1 - y) + (x1 - x) * (y - y0) := by grind
    have := Int.mul_pos (show 0 < x0 - x by omega) (show 0 < y1 - y by omega)
    have := Int.mul_nonneg (show 0 ≤ x1 - x by omega) (show 0 ≤ y - y0 by omega)
    omega
  · rw [if_neg k1, if_neg k1]
    by_cases k2 : y1 ≤ y ∧ y < y0
    · rw [if_pos k2, if_pos k2]
      unfold cnt
      simp only
      rw [if_pos]
      refine ⟨by omega, ?_⟩
      rw [rsign_flat, sg_gt0]
      have e : -(x0 * (y1 - y0) + (x1 - x0) * (y - y0)) - x * -(y1 - y0) = (x0 - x) * (y - y1) + (x1 - x) * (y0 - y) := by grind
      have := Int.mul_nonneg (show 0 ≤ x0 - x by omega) (show 0 ≤ y - y1 by omega)
      have := Int.mul_pos (show 0 < x1 - x by omega) (show 0 < y0 - y by omega)
      omega
    · rw [if_neg k2, if_neg k2]; exact cnt_z x
theorem straight_right (x0 y0 x1 y1 y x : Int) (h1 : x0 ≤ x) (h2 : x1 ≤ x) : cnt (straightS x0 y0 x1 y1 y) x = 0 := by
  unfold straightS
  by_cases k1 : y0 ≤ y ∧ y < y1
  · rw [if_pos k1]
    unfold cnt
    simp only
    rw [if_neg]
    rintro ⟨_, h⟩
    rw [rsign_flat, sg_gt0] at h
    have e : x0 * (y1 - y0) + (x1 - x0) * (y - y0) - x * (y1 - y0) = (x0 - x) * (y1 - y) + (x1 - x) * (y - y0) := by grind
    have := Int.mul_nonpos_of_nonpos_of_nonneg (show x0 - x ≤ 0 by omega) (show 0 ≤ y1 - y by omega)
    have := Int.mul_nonpos_of_nonpos_of_nonneg (show x1 - x ≤ 0 by omega) (show 0 ≤ y - y0 by omega)
    omega
  · rw [if_neg k1]
    by_cases k2 : y1 ≤ y ∧ y < y0
    · rw [if_pos k2]
      unfold cnt
      simp only
      rw [if_neg]
      rintro ⟨_, h⟩
      rw [rsign_flat, sg_gt0] at h
      have e : -(x0 * (y1 - y0) + (x1 - x0) * (y - y0)) - x * -(y1 - y0) = (x0 - x) * (y - y1) + (x1 - x) * (y0 - y) := by grind
      have := Int.mul_nonpos_of_nonpos_of_nonneg (show x0 - x ≤ 0 by omega) (show 0 ≤ y - y1 by omega)
      have := Int.mul_nonpos_of_nonpos_of_nonneg (show x1 - x ≤ 0 by omega) (show 0 ≤ y0 - y by omega)
      omega
    · rw [if_neg k2]; exact cnt_z x
theorem chordT_shift (c0 c1 y : Int) : chordT (c0 - y) (c1 - y) 0 = chordT c0 c1 y := by unfold chordT; (repeat' split) <;> omega
theorem tot_left (e : Ed) (x y : Int) (h1 : x < e.x0) (h2 : x < e.x1) (h3 : e.b = true → x < e.cx) : tot (spots e y) x = chordT e.y0 e.y1 y := by
  unfold spots
  by_cases h : e.b = true
  · rw [if_pos h]
    unfold bentS
    rw [bent_left _ _ _ _ _ _ _ h1 (by have := h3 h; omega) (by omega), ← chordT_shift e.y0 e.y1 y]
    congr 1
    omega
  · rw [if_neg h]
    unfold tot
    simp only [straight_left _ _ _ _ _ _ h1 h2, cnt_z]
    exact Int.add_zero _
theorem tot_right (e : Ed) (x y : Int) (h1 : e.x0 ≤ x) (h2 : e.x1 ≤ x) (h3 : e.b = true → e.cx ≤ x) : tot (spots e y) x = 0 := by
  unfold spots
  by_cases h : e.b = true
  · rw [if_pos h]
    unfold bentS
    rw [bent_right _ _ _ _ _ _ _ h1 (by have := h3 h; omega) (by omega)]
  · rw [if_neg h]
    unfold tot
    simp only [straight_right _ _ _ _ _ _ h1 h2, cnt_z]
    rfl
end Go.Proofs.Ytnienpalbfgflaa.Pl
