/- Plain facts on directions: of whole degrees, of multiples, and in which quarter they lie. -/
import Derived.Test.YtedidjdifobclaaPlLaw4
namespace Go.Proofs.Ytedidjdifobclaa.Pl
set_option linter.unusedVariables false

/-- the direction of a whole degree is that degree -/
theorem dir_degree : ∀ k : Nat, k < 360 → dir (sin ((k : Int) * 65536)) (cos ((k : Int) * 65536)) = (k : Int) * 65536 := by decide +kernel

theorem pos_mul (v c : Int) (hc : 0 < c) : (0 < v * c ↔ 0 < v) ∧ (v * c < 0 ↔ v < 0) ∧ (v * c ≤ 0 ↔ v ≤ 0) := by
  have h1 : v < 0 → v * c < 0 := fun h => Int.mul_neg_of_neg_of_pos h hc
  have h2 : 0 < v → 0 < v * c := fun h => Int.mul_pos h hc
  have h3 : v = 0 → v * c = 0 := fun h => by rw [h, Int.zero_mul]
  omega
theorem begin_mul (y x c : Int) (hc : 0 < c) : begin (y * c) (x * c) = begin y x := by
  have e1 : ∀ v : Int, (0 < v * c ↔ 0 < v) ∧ (v * c < 0 ↔ v < 0) := fun v => ⟨(pos_mul v c hc).1, (pos_mul v c hc).2.1⟩
  have a := e1 y
  have b := e1 x
  unfold begin
  by_cases c1 : 0 < x ∧ 0 ≤ y
  · rw [if_pos c1, if_pos ⟨b.1.2 c1.1, by omega⟩]
  · rw [if_neg c1, if_neg (by omega)]
    by_cases c2 : x ≤ 0 ∧ 0 < y
    · rw [if_pos c2, if_pos ⟨by omega, a.1.2 c2.2⟩]
    · rw [if_neg c2, if_neg (by omega)]
      by_cases c3 : x < 0
      · rw [if_pos c3, if_pos (b.2.2 c3)]
      · rw [if_neg c3, if_neg (by omega)]
theorem gAt_mul (y x c : Int) (hc : 0 < c) (j : Nat) : gAt (y * c) (x * c) j = gAt y x j * c := by
  unfold gAt ahead
  rw [begin_mul y x c hc, ← Int.mul_assoc, ← Int.mul_assoc, Int.sub_mul]
theorem stop_mul (g h : Nat → Int) (hgh : ∀ j, (0 < h j ↔ 0 < g j)) : ∀ f j, stopFrom h f j = stopFrom g f j := by
  intro f
  induction f with
  | zero => intro j; rfl
  | succ f ih =>
    intro j
    show (if 0 < h j ∧ j < 90 then stopFrom h f (j + 1) else j) = (if 0 < g j ∧ j < 90 then stopFrom g f (j + 1) else j)
    rw [ih (j + 1)]
    by_cases c : 0 < g j ∧ j < 90
    · rw [if_pos c, if_pos ⟨(hgh j).2 c.1, c.2⟩]
    · rw [if_neg c, if_neg (fun k => c ⟨(hgh j).1 k.1, k.2⟩)]
theorem share_scale (a d c : Int) (ha : 0 < a) (hd : 0 < d) (hc : 0 < c) : share (a * c) 65536 (d * c) = share a 65536 d := by
  have e : sgn3 (a * c) 65536 (d * c) = sgn3 a 65536 d := by
    have h1 := Int.mul_pos ha hc
    have h2 := Int.mul_pos hd hc
    unfold sgn3
    rw [decide_eq_false (by omega : ¬ a * c < 0), decide_eq_false (by omega : ¬ d * c < 0), decide_eq_false (by omega : ¬ a < 0), decide_eq_false (by omega : ¬ d < 0)]
  have en : near (mag (a * c) * mag 65536) (mag (d * c)) = near (mag a * mag 65536) (mag d) := by
    rw [mag_pos (Int.le_of_lt (Int.mul_pos ha hc)), mag_pos (Int.le_of_lt (Int.mul_pos hd hc)), mag_pos (Int.le_of_lt ha), mag_pos (Int.le_of_lt hd)]
    have h0 : a * c * mag 65536 = a * mag 65536 * c := by rw [Int.mul_assoc, Int.mul_comm c, Int.mul_assoc]
    rw [h0]
    generalize a * mag 65536 = n
    unfold near
    have hem : n * c % (d * c) = n % d * c := by rw [Int.mul_comm n, Int.mul_comm d, Int.mul_emod_mul_of_pos _ _ hc, Int.mul_comm]
    rw [hem, Int.mul_ediv_mul_of_pos_left _ _ hc, ← Int.sub_mul]
    have k1 : (d - n % d) * c < n % d * c ↔ d - n % d < n % d := by
      constructor
      · intro h; exact Int.lt_of_mul_lt_mul_right h (by omega)
      · intro h; exact Int.mul_lt_mul_of_pos_right h hc
    have k2 : n % d * c = (d - n % d) * c ↔ n % d = d - n % d := by
      constructor
      · intro h; exact Int.eq_of_mul_eq_mul_right (by omega) h
      · intro h; rw [← h]
    simp only [k1, k2]
  unfold share
  rw [e, en]
theorem stop_spec (g : Nat → Int) : ∀ f j, 1 ≤ j → j + f = 91 → 0 < g (j - 1) → 0 < g (stopFrom g f j - 1) ∧ j ≤ stopFrom g f j ∧ stopFrom g f j ≤ 91 ∧ (0 < f → stopFrom g f j ≤ 90) := by
  intro f
  induction f with
  | zero => intro j h1 h2 h3; exact ⟨h3, Nat.le_refl _, by show j ≤ 91; omega, by omega⟩
  | succ f ih =>
    intro j h1 h2 h3
    have e : stopFrom g (f + 1) j = if 0 < g j ∧ j < 90 then stopFrom g f (j + 1) else j := rfl
    by_cases c : 0 < g j ∧ j < 90
    · rw [e, if_pos c]
      have := ih (j + 1) (by omega) (by omega) c.1
      exact ⟨this.1, by omega, by omega, fun _ => this.2.2.2 (by omega)⟩
    · rw [e, if_neg c]; exact ⟨h3, Nat.le_refl _, by omega, by omega⟩
theorem dirJ_spec (y x : Int) (h : 0 < gAt y x 0) : 0 < gAt y x (dirJ y x - 1) ∧ 1 ≤ dirJ y x ∧ dirJ y x ≤ 90 := by
  have := stop_spec (gAt y x) 90 1 (by omega) (by omega) h
  exact ⟨this.1, this.2.1, this.2.2.2 (by omega)⟩
/-- a direction times a number above 0 is the same -/
theorem dir_mul (y x c : Int) (hc : 0 < c) : dir (y * c) (x * c) = dir y x := by
  have hb := begin_mul y x c hc
  have hg := gAt_mul y x c hc
  have hJ : dirJ (y * c) (x * c) = dirJ y x := by
    unfold dirJ
    exact stop_mul _ _ (fun j => by rw [hg]; exact (pos_mul _ _ hc).1) 90 1
  unfold dir
  rw [hJ, hb, hg]
  by_cases h0 : gAt y x 0 ≤ 0
  · rw [if_pos h0, if_pos ((pos_mul _ _ hc).2.2.2 h0)]
  · rw [if_neg h0, if_neg (fun h => h0 ((pos_mul _ _ hc).2.2.1 h))]
    have hs := dirJ_spec y x (by omega)
    generalize dirJ y x = J at *
    unfold dirEnd
    rw [hb, hg, hg]
    by_cases h1 : gAt y x J < 0
    · rw [if_pos h1, if_pos ((pos_mul _ _ hc).2.1.2 h1), ← Int.sub_mul, share_scale _ _ _ hs.1 (by omega) hc]
    · rw [if_neg h1, if_neg (fun h => h1 ((pos_mul _ _ hc).2.1.1 h))]
/-- a direction lies within its quarter, or at its end -/
theorem dir_quarter (y x : Int) : (begin y x ≤ dir y x ∧ dir y x < begin y x + 5898240) ∨ dir y x = (begin y x + 5898240) % 23592960 := by
  have hb := begin_cases y x
  unfold dir
  by_cases h0 : gAt y x 0 ≤ 0
  · rw [if_pos h0]; left; omega
  · rw [if_neg h0]
    have hs := dirJ_spec y x (by omega)
    generalize dirJ y x = J at *
    unfold dirEnd
    by_cases h1 : gAt y x J < 0
    · rw [if_pos h1]
      have hp := share_part (gAt y x (J - 1)) (gAt y x (J - 1) - gAt y x J) hs.1 (by omega)
      generalize share (gAt y x (J - 1)) 65536 (gAt y x (J - 1) - gAt y x J) = q at *
      by_cases e : begin y x + (J : Int) * 65536 + q - 65536 = begin y x + 5898240
      · right; rw [e]
      · left; omega
    · rw [if_neg h1]
      by_cases e : J = 90
      · right; subst e; rfl
      · left; omega
end Go.Proofs.Ytedidjdifobclaa.Pl
