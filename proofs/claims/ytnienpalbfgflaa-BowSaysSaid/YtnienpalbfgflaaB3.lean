/- Plain facts on edges: halves; the chord's turns; far to the left and to the right. -/
import Derived.Test.YtnienpalbfgflaaB2
namespace Go.Proofs.Ytnienpalbfgflaa.Pl
set_option linter.unusedVariables false

theorem cnt_same {t : Int} {p q d m p' q' d' m' x : Int} (h : rsign (p - x * m) q d = rsign (p' - x * m') q' d') : cnt ⟨t, p, q, d, m⟩ x = cnt ⟨t, p', q', d', m'⟩ x := by
  unfold cnt
  simp only
  rw [h]
/-! halves -/
theorem straight_halves (x0 y0 X Y x1 y1 x y : Int) (hx : x0 + x1 = 2 * X) (hy : y0 + y1 = 2 * Y) : cnt (straightS x0 y0 X Y y) x + cnt (straightS X Y x1 y1 y) x = cnt (straightS x0 y0 x1 y1 y) x := by
  have hS : ∀ s : Int, s = 1 ∨ s = -1 → rsign (s * (X * (y1 - Y) + (x1 - X) * (y - Y)) - x * (s * (y1 - Y))) 0 0 = rsign (s * (x0 * (Y - y0) + (X - x0) * (y - y0)) - x * (s * (Y - y0))) 0 0 := fun s hs => by
    congr 1
    obtain rfl : x1 = 2 * X - x0 := by omega
    obtain rfl : y1 = 2 * Y - y0 := by omega
    grind
  have hE : ∀ s : Int, s = 1 ∨ s = -1 → rsign (s * (x0 * (y1 - y0) + (x1 - x0) * (y - y0)) - x * (s * (y1 - y0))) 0 0 = rsign (s * (x0 * (Y - y0) + (X - x0) * (y - y0)) - x * (s * (Y - y0))) 0 0 := fun s hs => by
    have := rsign_scale 2 (s * (x0 * (Y - y0) + (X - x0) * (y - y0)) - x * (s * (Y - y0))) 0 0 (by omega)
    rw [← this, Int.mul_zero]
    congr 1
    obtain rfl : x1 = 2 * X - x0 := by omega
    obtain rfl : y1 = 2 * Y - y0 := by omega
    grind
  have a1 := hS 1 (.inl rfl)
  have a2 := hS (-1) (.inr rfl)
  have b1 := hE 1 (.inl rfl)
  have b2 := hE (-1) (.inr rfl)
  simp only [Int.one_mul, Int.neg_mul] at a1 a2 b1 b2
  have z := cnt_z x
  unfold straightS
  by_cases h1 : y0 ≤ y ∧ y < y1
  · have n1 : ¬ (y1 ≤ y ∧ y < y0) := by omega
    rw [if_pos h1]
    by_cases h2 : y < Y
    · rw [if_pos (by omega), if_neg (by omega), if_neg (by omega), z, ← cnt_same b1]
      omega
    · rw [if_neg (by omega), if_neg (by omega), if_pos (by omega), z, cnt_same (a1.trans b1.symm)]
      omega
  · rw [if_neg h1]
    by_cases h2 : y1 ≤ y ∧ y < y0
    · rw [if_pos h2]
      by_cases h3 : y < Y
      · rw [if_neg (by omega), if_neg (by omega), if_neg (by omega), if_pos (by omega), z, cnt_same (a2.trans b2.symm)]
        omega
      · rw [if_neg (by omega), if_pos (by omega), if_neg (by omega), if_neg (by omega), z, ← cnt_same b2]
        omega
    · rw [if_neg h2, if_neg (by omega), if_neg (by omega), if_neg (by omega), if_neg (by omega), z]
      omega
theorem even_halves (x0 ax bx b c x : Int) : cnt (evenS b c ax bx x0) x + cnt (evenS b (c + 2 * b) ax (bx + ax) (x0 + 2 * bx + ax)) x = cnt (evenS (2 * b) c (4 * ax) (2 * bx) x0) x := by
  have z := cnt_z x
  have e1 : rsign (4 * b * b * (x0 + 2 * bx + ax) - 4 * b * (c + 2 * b) * (bx + ax) + ax * (c + 2 * b) * (c + 2 * b) - x * (4 * b * b)) 0 0 = rsign (4 * b * b * x0 - 4 * b * c * bx + ax * c * c - x * (4 * b * b)) 0 0 := by
    congr 1
    grind
  have e2 : rsign (4 * (2 * b) * (2 * b) * x0 - 4 * (2 * b) * c * (2 * bx) + 4 * ax * c * c - x * (4 * (2 * b) * (2 * b))) 0 0 = rsign (4 * b * b * x0 - 4 * b * c * bx + ax * c * c - x * (4 * b * b)) 0 0 := by
    have := rsign_scale 4 (4 * b * b * x0 - 4 * b * c * bx + ax * c * c - x * (4 * b * b)) 0 0 (by omega)
    rw [← this, Int.mul_zero]
    congr 1
    grind
  unfold evenS
  by_cases h1 : 0 < b ∧ c ≤ 0 ∧ -c < 2 * (2 * b)
  · rw [if_pos (show 0 < 2 * b ∧ c ≤ 0 ∧ -c < 2 * (2 * b) by omega), cnt_same e2]
    by_cases h2 : -c < 2 * b
    · rw [if_pos (by omega), if_neg (by omega), if_neg (by omega), z]
      omega
    · rw [if_neg (by omega), if_neg (by omega), if_pos (by omega), z, cnt_same e1]
      omega
  · rw [if_neg (show ¬ (0 < 2 * b ∧ c ≤ 0 ∧ -c < 2 * (2 * b)) by omega)]
    by_cases h2 : b < 0 ∧ 0 < c ∧ c ≤ -2 * (2 * b)
    · rw [if_pos (show 2 * b < 0 ∧ 0 < c ∧ c ≤ -2 * (2 * b) by omega), cnt_same e2]
      by_cases h3 : c ≤ -2 * b
      · rw [if_neg (by omega), if_pos (by omega), if_neg (by omega), if_neg (by omega), z]
        omega
      · rw [if_neg (by omega), if_neg (by omega), if_neg (by omega), if_pos (by omega), z, cnt_same e1]
        omega
    · rw [if_neg (show ¬ (2 * b < 0 ∧ 0 < c ∧ c ≤ -2 * (2 * b)) by omega), if_neg (by omega), if_neg (by omega), if_neg (by omega), if_neg (by omega), z]
      omega
theorem rsign_1_4 (p d : Int) : rsign (2 * p) 1 (4 * d) = rsign p 1 d := by
  have h1 := rsign_under 2 (2 * p) 1 d (by omega)
  have h2 := rsign_scale 2 p 1 d (by omega)
  rw [show (2 : Int) * 1 = 2 by rfl] at h1 h2
  rw [show (4 : Int) * d = 2 * 2 * d by omega, ← h1, h2]
theorem rsign_m1_4 (p d : Int) : rsign (2 * p) (-1) (4 * d) = rsign p (-1) d := by
  rw [rsign_m1, rsign_m1, show -(2 * p) = 2 * -p by omega, rsign_1_4]
theorem side_4 (a : Int) : side (4 * a) = side a := by
  unfold side
  by_cases h : a < 0
  · rw [if_pos h, if_pos (by omega)]
  · rw [if_neg h, if_neg (by omega)]
theorem side_mono (a b s d : Int) : side a * rsign (-b - a) s d ≤ side a * rsign (-b) s d := by
  by_cases h : a < 0
  · rw [side_neg h]
    have := rsign_mono (q := s) (d := d) (show -b ≤ -b - a by omega)
    omega
  · rw [side_pos h]
    have := rsign_mono (q := s) (d := d) (show -b - a ≤ -b by omega)
    omega
theorem bent_halves (x0 ax bx a b c x : Int) : tot (bentP x0 ax bx a b c) x + tot (bentP (x0 + 2 * bx + ax) ax (bx + ax) a (b + a) (c + 2 * b + a)) x = tot (bentP x0 (4 * ax) (2 * bx) (4 * a) (2 * b) c) x := by
  have z := cnt_z x
  unfold bentP
  have e1 : (b + a) * (b + a) - a * (c + 2 * b + a) = b * b - a * c := by grind
  have e2 : 2 * b * (2 * b) - 4 * a * c = 4 * (b * b - a * c) := by grind
  rw [e1, e2]
  generalize b * b - a * c = d
  by_cases ha : a = 0
  · subst ha
    rw [if_pos rfl, if_pos rfl, if_pos (by rfl)]
    unfold tot
    have := even_halves x0 ax bx b c x
    rw [show b + 0 = b by omega, show c + 2 * b + 0 = c + 2 * b by omega]
    simp only [z]
    omega
  rw [if_neg ha, if_neg ha, if_neg (show ¬ 4 * a = 0 by omega)]
  by_cases h0 : d < 0 ∨ (d = 0 ∧ a < 0)
  · rw [if_pos h0, if_pos h0, if_pos (by omega)]
    unfold tot
    simp only [z]
    omega
  rw [if_neg h0, if_neg h0, if_neg (show ¬ (4 * d < 0 ∨ (4 * d = 0 ∧ 4 * a < 0)) by omega)]
  have r1 : ∀ s, rootS (x0 + 2 * bx + ax) a (b + a) ax (bx + ax) d s = rootS x0 a b ax bx d s := fun s => by
    simp only [rootS, Sp.mk.injEq]
    refine ⟨trivial, by grind, by grind, trivial, trivial⟩
  have r2 : ∀ s, cnt (rootS x0 (4 * a) (2 * b) (4 * ax) (2 * bx) (4 * d) s) x = cnt (rootS x0 a b ax bx d s) x := fun s => by
    unfold rootS
    apply cnt_same
    have h1 := rsign_under 2 (16 * (x0 * a * a - 2 * a * b * bx + ax * (b * b + d) - x * (a * a))) (8 * (s * (2 * a * bx - 2 * b * ax))) d (by omega)
    have h2 := rsign_scale 16 (x0 * a * a - 2 * a * b * bx + ax * (b * b + d) - x * (a * a)) (s * (2 * a * bx - 2 * b * ax)) d (by omega)
    rw [← h2, show 16 * (s * (2 * a * bx - 2 * b * ax)) = 2 * (8 * (s * (2 * a * bx - 2 * b * ax))) by omega, h1]
    congr 1
    · grind
    · grind
    
  have u4 : up (4 * a) (2 * b) (4 * d) ↔ 0 ≤ side a * rsign (-b) 1 d ∧ side a * rsign (-(b + a) - a) 1 d < 0 := by
    unfold up
    rw [side_4, show -(2 * b) = 2 * -b by omega, show 2 * -b - 4 * a = 2 * (-(b + a) - a) by omega, rsign_1_4, rsign_1_4]
  have v4 : dn (4 * a) (2 * b) (4 * d) ↔ 0 < side a * rsign (-b) (-1) d ∧ side a * rsign (-(b + a) - a) (-1) d ≤ 0 := by
    unfold dn
    rw [side_4, show -(2 * b) = 2 * -b by omega, show 2 * -b - 4 * a = 2 * (-(b + a) - a) by omega, rsign_m1_4, rsign_m1_4]
  have m1 := side_mono a b 1 d
  have m2 := side_mono a (b + a) 1 d
  have m3 := side_mono a b (-1) d
  have m4 := side_mono a (b + a) (-1) d
  rw [show -b - a = -(b + a) by omega] at m1 m3
  have ua : up a b d ↔ 0 ≤ side a * rsign (-b) 1 d ∧ side a * rsign (-(b + a)) 1 d < 0 := by unfold up; rw [show -b - a = -(b + a) by omega]
  have va : dn a b d ↔ 0 < side a * rsign (-b) (-1) d ∧ side a * rsign (-(b + a)) (-1) d ≤ 0 := by unfold dn; rw [show -b - a = -(b + a) by omega]
  have ub : up a (b + a) d ↔ 0 ≤ side a * rsign (-(b + a)) 1 d ∧ side a * rsign (-(b + a) - a) 1 d < 0 := Iff.rfl
  have vb : dn a (b + a) d ↔ 0 < side a * rsign (-(b + a)) (-1) d ∧ side a * rsign (-(b + a) - a) (-1) d ≤ 0 := Iff.rfl
  generalize side a * rsign (-b) 1 d = F at *
  generalize side a * rsign (-(b + a)) 1 d = G at *
  generalize side a * rsign (-(b + a) - a) 1 d = H at *
  generalize side a * rsign (-b) (-1) d = F' at *
  generalize side a * rsign (-(b + a)) (-1) d = G' at *
  generalize side a * rsign (-(b + a) - a) (-1) d = H' at *
  unfold tot
  simp only [r1]
  have s1 : cnt (if up a b d then rootS x0 a b ax bx d 1 else Sp.z) x + cnt (if up a (b + a) d then rootS x0 a b ax bx d 1 else Sp.z) x = cnt (if up (4 * a) (2 * b) (4 * d) then rootS x0 (4 * a) (2 * b) (4 * ax) (2 * bx) (4 * d) 1 else Sp.z) x := by
    simp only [ua, ub, u4]
    (repeat' split) <;> simp only [r2, z] <;> omega
  have s2 : cnt (if dn a b d then rootS x0 a b ax bx d (-1) else Sp.z) x + cnt (if dn a (b + a) d then rootS x0 a b ax bx d (-1) else Sp.z) x = cnt (if dn (4 * a) (2 * b) (4 * d) then rootS x0 (4 * a) (2 * b) (4 * ax) (2 * bx) (4 * d) (-1) else Sp.z) x := by
    simp only [va, vb, v4]
    (repeat' split) <;> simp only [r2, z] <;> omega
  omega
/-! the chord -/
def chordT (y0 y1 y : Int) : Int := if y0 ≤ y ∧ y < y1 then 1 else if y1 ≤ y ∧ y < y0 then -1 else 0
theorem sg_lt0 {v : Int} : sg v < 0 ↔ v < 0 := by unfold sg; (repeat' split) <;> omega
theorem sg_gt0 {v : Int} : 0 < sg v ↔ 0 < v := by unfold sg; (repeat' split) <;> omega
theorem sg_le0 {v : Int} : sg v ≤ 0 ↔ v ≤ 0 := by unfold sg; (repeat' split) <;> omega
theorem ss_one : ss 1 = 1 := rfl
theorem ss_m1 : ss (-1) = -1 := rfl
theorem up_iff (a b d : Int) : up a b d ↔ if a < 0 then ss (-b) + d ≤ 0 ∧ 0 < ss (-b - a) + d else 0 ≤ ss (-b) + d ∧ ss (-b - a) + d < 0 := by
  unfold up rsign
  rw [ss_one, Int.one_mul]
  have e1 := @sg_le0 (ss (-b) + d)
  have e2 := @sg_gt0 (ss (-b - a) + d)
  have e3 := @sg_nonneg (ss (-b) + d)
  have e4 := @sg_lt0 (ss (-b - a) + d)
  by_cases h : a < 0
  · rw [if_pos h, side_neg h]
    omega
  · rw [if_neg h, side_pos h]
    omega
theorem dn_iff (a b d : Int) : dn a b d ↔ if a < 0 then ss (-b) - d < 0 ∧ 0 ≤ ss (-b - a) - d else 0 < ss (-b) - d ∧ ss (-b - a) - d ≤ 0 := by
  unfold dn rsign
  rw [ss_m1, show ss (-b) + -1 * d = ss (-b) - d by omega, show ss (-b - a) + -1 * d = ss (-b - a) - d by omega]
  have e1 := @sg_gt0 (ss (-b) - d)
  have e2 := @sg_le0 (ss (-b - a) - d)
  have e3 := @sg_lt0 (ss (-b) - d)
  have e4 := @sg_nonneg (ss (-b - a) - d)
  by_cases h : a < 0
  · rw [if_pos h, side_neg h]
    omega
  · rw [if_neg h, side_pos h]
    omega
theorem bent_turn (x0 ax bx a b c : Int) : (bentP x0 ax bx a b c).1.t + (bentP x0 ax bx a b c).2.t = chordT c (c + 2 * b + a) 0 := by
  unfold bentP
  by_cases ha : a = 0
  · rw [if_pos ha]
    subst ha
    unfold evenS chordT
    simp only
    by_cases h1 : 0 < b ∧ c ≤ 0 ∧ -c < 2 * b
    · rw [if_pos h1, if_pos (by omega)]; rfl
    · rw [if_neg h1]
      by_cases h2 : b < 0 ∧ 0 < c ∧ c ≤ -2 * b
      · rw [if_pos h2, if_neg (by omega), if_pos (by omega)]; rfl
      · rw [if_neg h2, if_neg (by omega), if_neg (by omega)]; rfl
  rw [if_neg ha]
  obtain ⟨P, hP⟩ : ∃ P, P = a * c := ⟨_, rfl⟩
  obtain ⟨R, hR⟩ : ∃ R, R = a * (c + 2 * b + a) := ⟨_, rfl⟩
  obtain ⟨B, hB⟩ : ∃ B, B = b * b := ⟨_, rfl⟩
  obtain ⟨C, hC⟩ : ∃ C, C = (a + b) * (a + b) := ⟨_, rfl⟩
  have hd : B - P = C - R := by rw [hP, hR, hB, hC]; grind
  have b0 : 0 ≤ B := by rw [hB]; exact sqn b
  have c0 : 0 ≤ C := by rw [hC]; exact sqn _
  have b1 : b ≠ 0 → 0 < B := fun h => by
    rcases Int.lt_or_gt_of_ne h with h | h
    · rw [hB]; exact Int.mul_pos_of_neg_of_neg h h
    · rw [hB]; exact Int.mul_pos h h
  have c1 : a + b ≠ 0 → 0 < C := fun h => by
    rcases Int.lt_or_gt_of_ne h with h | h
    · rw [hC]; exact Int.mul_pos_of_neg_of_neg h h
    · rw [hC]; exact Int.mul_pos h h
  have b2 : b = 0 → B = 0 := fun h => by rw [hB, h]; rfl
  have c2 : a + b = 0 → C = 0 := fun h => by rw [hC, h]; rfl
  have sb : ss (-b) = if b ≤ 0 then B else -B := by
    by_cases h : b ≤ 0
    · rw [if_pos h, ss_pos (by omega), hB, Int.neg_mul_neg]
    · rw [if_neg h, ss_neg (by omega), hB, Int.neg_mul_neg]
  have sc : ss (-b - a) = if a + b ≤ 0 then C else -C := by
    rw [show -b - a = -(a + b) by omega]
    by_cases h : a + b ≤ 0
    · rw [if_pos h, ss_pos (by omega), hC, Int.neg_mul_neg]
    · rw [if_neg h, ss_neg (by omega), hC, Int.neg_mul_neg]
  have sP : ∀ v, (0 < a → (0 < v → 0 < a * v) ∧ (v = 0 → a * v = 0) ∧ (v < 0 → a * v < 0)) ∧ (a < 0 → (0 < v → a * v < 0) ∧ (v = 0 → a * v = 0) ∧ (v < 0 → 0 < a * v)) := fun v =>
    ⟨fun h => ⟨fun k => Int.mul_pos h k, fun k => by rw [k, Int.mul_zero], fun k => Int.mul_neg_of_pos_of_neg h k⟩, fun h => ⟨fun k => Int.mul_neg_of_neg_of_pos h k, fun k => by rw [k, Int.mul_zero], fun k => Int.mul_pos_of_neg_of_neg h k⟩⟩
  have s1 := sP c
  have s2 := sP (c + 2 * b + a)
  rw [← hP] at s1
  rw [← hR] at s2
  rw [← hB, ← hP]
  clear hP hR hB hC sP
  have t1 : ∀ d, (if up a b d then rootS x0 a b ax bx d 1 else Sp.z).t = if up a b d then 1 else 0 := fun d => by split <;> rfl
  have t2 : ∀ d, (if dn a b d then rootS x0 a b ax bx d (-1) else Sp.z).t = if dn a b d then -1 else 0 := fun d => by split <;> rfl
  by_cases h0 : B - P < 0 ∨ (B - P = 0 ∧ a < 0)
  · rw [if_pos h0]
    show (0 : Int) + 0 = _
    unfold chordT
    rw [if_neg, if_neg]
    · rfl
    · intro h
      by_cases k : a < 0
      · have s1 := s1.2 k; have s2 := s2.2 k; omega
      · have s1 := s1.1 (by omega); have s2 := s2.1 (by omega); omega
    · intro h
      by_cases k : a < 0
      · have s1 := s1.2 k; have s2 := s2.2 k; omega
      · have s1 := s1.1 (by omega); have s2 := s2.1 (by omega); omega
  rw [if_neg h0]
  simp only [t1, t2]
  simp only [up_iff, dn_iff]
  rw [sb, sc]
  clear t1 t2 sb sc
  unfold chordT
  by_cases k : a < 0
  · have s1 := s1.2 k
    have s2 := s2.2 k
    simp only [if_pos k]
    by_cases kb : b ≤ 0 <;> by_cases kc : a + b ≤ 0 <;> simp only [kb, kc, if_true, if_false] <;> (repeat' split) <;> omega
  · have s1 := s1.1 (by omega)
    have s2 := s2.1 (by omega)
    simp only [if_neg k]
    by_cases kb : b ≤ 0 <;> by_cases kc : a + b ≤ 0 <;> simp only [kb, kc, if_true, if_false] <;> (repeat' split) <;> omega
end Go.Proofs.Ytnienpalbfgflaa.Pl
