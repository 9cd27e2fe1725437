/- Plain facts on roots of whole numbers, and on numbers with one root in them. -/
import Derived.Test.YtnienpalbfgflaaPlWide
namespace Go.Proofs.Ytnienpalbfgflaa.Pl
set_option linter.unusedVariables false

/-- the root of n by its first k of 32 bits -/
def rootTo (n : Int) : Nat → Int
  | 0 => 0
  | k + 1 => if (rootTo n k + 2 ^ (31 - k)) * (rootTo n k + 2 ^ (31 - k)) ≤ n then rootTo n k + 2 ^ (31 - k) else rootTo n k
/-- the greatest whole number whose square isn't above n -/
def root (n : Int) : Int := rootTo n 32

theorem rootTo_spec (n : Int) (h0 : 0 ≤ n) (h1 : n < 18446744073709551616) (k : Nat) (hk : k ≤ 32) :
    ∃ R : Int, rootTo n k = R * 2 ^ (32 - k) ∧ 0 ≤ R ∧ R < 2 ^ k ∧ rootTo n k * rootTo n k ≤ n ∧ n < (rootTo n k + 2 ^ (32 - k)) * (rootTo n k + 2 ^ (32 - k)) := by
  induction k with
  | zero => exact ⟨0, by simp [rootTo], by omega, by simp, by simpa [rootTo] using h0, by simp [rootTo]; omega⟩
  | succ k ih =>
    obtain ⟨R, e, r0, r1, h2, h3⟩ := ih (by omega)
    have ep : (2 : Int) ^ (32 - k) = 2 * 2 ^ (31 - k) := by rw [show 32 - k = (31 - k) + 1 by omega, Int.pow_succ]; omega
    have e32 : 32 - (k + 1) = 31 - k := by omega
    have ek : (2 : Int) ^ (k + 1) = 2 * 2 ^ k := by rw [Int.pow_succ]; omega
    have hp : (0 : Int) < 2 ^ (31 - k) := Int.pow_pos (by decide)
    by_cases c : (rootTo n k + 2 ^ (31 - k)) * (rootTo n k + 2 ^ (31 - k)) ≤ n
    · have er : rootTo n (k + 1) = rootTo n k + 2 ^ (31 - k) := by show (if _ then _ else _) = _; rw [if_pos c]
      refine ⟨2 * R + 1, ?_, by omega, by omega, by rw [er]; exact c, ?_⟩
      · rw [er, e, ep, e32, Int.add_mul, Int.mul_comm 2 R, Int.mul_assoc]; omega
      · rw [er, e32]
        rw [ep] at h3
        have : rootTo n k + 2 ^ (31 - k) + 2 ^ (31 - k) = rootTo n k + 2 * 2 ^ (31 - k) := by omega
        rw [this]; exact h3
    · have er : rootTo n (k + 1) = rootTo n k := by show (if _ then _ else _) = _; rw [if_neg c]
      refine ⟨2 * R, ?_, by omega, by omega, by rw [er]; exact h2, ?_⟩
      · rw [er, e, ep, e32, Int.mul_comm 2 R, Int.mul_assoc]
      · rw [er, e32]; omega
theorem rootTo_bd (n : Int) (h0 : 0 ≤ n) (h1 : n < 18446744073709551616) (k : Nat) (hk : k ≤ 31) :
    0 ≤ rootTo n k ∧ rootTo n k + 2 ^ (31 - k) ≤ 4294967295 ∧ 0 ≤ (rootTo n k + 2 ^ (31 - k)) * (rootTo n k + 2 ^ (31 - k)) ∧ (rootTo n k + 2 ^ (31 - k)) * (rootTo n k + 2 ^ (31 - k)) ≤ 18446744065119617025 := by
  obtain ⟨R, e, r0, r1, _, _⟩ := rootTo_spec n h0 h1 k (by omega)
  have hp : (0 : Int) < 2 ^ (31 - k) := Int.pow_pos (by decide)
  have hp' : (0 : Int) < 2 ^ (32 - k) := Int.pow_pos (by decide)
  have ep : (2 : Int) ^ (32 - k) = 2 * 2 ^ (31 - k) := by rw [show 32 - k = (31 - k) + 1 by omega, Int.pow_succ]; omega
  have hr : 0 ≤ rootTo n k := by rw [e]; exact Int.mul_nonneg r0 (by omega)
  have h32 : (2 : Int) ^ k * 2 ^ (32 - k) = 4294967296 := by rw [← Int.pow_add, show k + (32 - k) = 32 by omega]; decide
  have hle : rootTo n k + 2 ^ (32 - k) ≤ 4294967296 := by
    have : (R + 1) * 2 ^ (32 - k) ≤ 2 ^ k * 2 ^ (32 - k) := Int.mul_le_mul_of_nonneg_right (by omega) (by omega)
    rw [Int.add_mul, Int.one_mul, h32] at this
    rw [e]; exact this
  have ht : rootTo n k + 2 ^ (31 - k) ≤ 4294967295 := by omega
  refine ⟨hr, ht, Int.mul_nonneg (by omega) (by omega), ?_⟩
  have h2 : (rootTo n k + 2 ^ (31 - k)) * (rootTo n k + 2 ^ (31 - k)) ≤ 4294967295 * (rootTo n k + 2 ^ (31 - k)) := Int.mul_le_mul_of_nonneg_right ht (by omega)
  omega
theorem root_spec (n : Int) (h0 : 0 ≤ n) (h1 : n < 18446744073709551616) : 0 ≤ root n ∧ root n ≤ 4294967295 ∧ root n * root n ≤ n ∧ n < (root n + 1) * (root n + 1) := by
  obtain ⟨R, e, r0, r1, h2, h3⟩ := rootTo_spec n h0 h1 32 (by omega)
  rw [show 32 - 32 = 0 by omega, Int.pow_zero] at e h3
  have e2 : root n = rootTo n 32 := rfl
  rw [e2]
  have : (2 : Int) ^ 32 = 4294967296 := by decide
  exact ⟨by omega, by omega, h2, h3⟩

/-- a square from 0 on rises -/
theorem sq_lt {a b : Int} (ha : 0 ≤ a) (h : a < b) : a * a < b * b := by
  have h1 : a * a ≤ a * b := Int.mul_le_mul_of_nonneg_left (by omega) ha
  have h2 : a * b < b * b := Int.mul_lt_mul_of_pos_right h (by omega)
  omega
/-- a root is the only one -/
theorem root_unique {n r s : Int} (hr : 0 ≤ r) (hs : 0 ≤ s) (h1 : r * r ≤ n) (h2 : n < (r + 1) * (r + 1)) (h3 : s * s ≤ n) (h4 : n < (s + 1) * (s + 1)) : r = s := by
  by_cases a : r < s
  · by_cases e : r + 1 = s
    · rw [e] at h2; omega
    · have := sq_lt (a := r + 1) (b := s) (by omega) (by omega); omega
  · by_cases b : s < r
    · by_cases e : s + 1 = r
      · rw [e] at h4; omega
      · have := sq_lt (a := s + 1) (b := r) (by omega) (by omega); omega
    · omega

/-- the sign of a number -/
def sg (v : Int) : Int := if v < 0 then -1 else if 0 < v then 1 else 0
/-- the square of a number, with its sign -/
def ss (v : Int) : Int := v * mag v
theorem ss_pos {v : Int} (h : 0 ≤ v) : ss v = v * v := by unfold ss; rw [mag_pos h]
theorem ss_neg {v : Int} (h : v ≤ 0) : ss v = -(v * v) := by
  unfold ss
  by_cases e : v = 0
  · subst e; rfl
  · rw [mag_neg (by omega), Int.mul_neg]
theorem ss_flip (v : Int) : ss (-v) = -ss v := by
  by_cases h : 0 ≤ v
  · rw [ss_pos h, ss_neg (by omega), Int.neg_mul_neg]
  · rw [ss_neg (by omega : v ≤ 0), ss_pos (by omega), Int.neg_mul_neg, Int.neg_neg]
theorem ss_lt {a b : Int} (h : a < b) : ss a < ss b := by
  by_cases ha : 0 ≤ a
  · rw [ss_pos ha, ss_pos (by omega)]; exact sq_lt ha h
  · by_cases hb : 0 ≤ b
    · rw [ss_neg (by omega : a ≤ 0), ss_pos hb]
      have h1 : 0 < a * a := Int.mul_pos_of_neg_of_neg (by omega) (by omega)
      have h2 : 0 ≤ b * b := Int.mul_nonneg hb hb
      omega
    · rw [ss_neg (by omega : a ≤ 0), ss_neg (by omega : b ≤ 0)]
      have := sq_lt (a := -b) (b := -a) (by omega) (by omega)
      rw [Int.neg_mul_neg, Int.neg_mul_neg] at this
      omega
theorem ss_le {a b : Int} (h : a ≤ b) : ss a ≤ ss b := by
  by_cases e : a = b
  · rw [e]; exact Int.le_refl _
  · have := ss_lt (a := a) (b := b) (by omega); omega
theorem ss_le_iff {a b : Int} : ss a ≤ ss b ↔ a ≤ b := by
  constructor
  · intro h
    by_cases c : a ≤ b
    · exact c
    · have := ss_lt (a := b) (b := a) (by omega); omega
  · exact ss_le
theorem ss_zero : ss 0 = 0 := rfl
/-- the sign of p + q times the root of d -/
def rsign (p q d : Int) : Int := sg (ss p + ss q * d)
theorem sg_bd (v : Int) : -1 ≤ sg v ∧ sg v ≤ 1 := by unfold sg; split <;> (try split) <;> omega
theorem sg_neg (v : Int) : sg (-v) = -sg v := by unfold sg; (repeat' split) <;> omega
theorem sg_mono {u v : Int} (h : u ≤ v) : sg u ≤ sg v := by unfold sg; (repeat' split) <;> omega
theorem sg_nonneg {v : Int} : 0 ≤ sg v ↔ 0 ≤ v := by unfold sg; (repeat' split) <;> omega

theorem sg_cases (v : Int) : (v < 0 ∧ sg v = -1) ∨ (v = 0 ∧ sg v = 0) ∨ (0 < v ∧ sg v = 1) := by
  unfold sg
  rcases Int.lt_trichotomy v 0 with h | h | h
  · exact .inl ⟨h, by rw [if_pos h]⟩
  · subst h; exact .inr (.inl ⟨rfl, rfl⟩)
  · exact .inr (.inr ⟨h, by rw [if_neg (by omega), if_pos h]⟩)
theorem sg_mul (x y : Int) : sg (x * y) = sg x * sg y := by
  rcases sg_cases x with ⟨h1, e1⟩ | ⟨h1, e1⟩ | ⟨h1, e1⟩ <;> rcases sg_cases y with ⟨h2, e2⟩ | ⟨h2, e2⟩ | ⟨h2, e2⟩ <;> rw [e1, e2]
  · have := Int.mul_pos_of_neg_of_neg h1 h2; unfold sg; rw [if_neg (by omega), if_pos this]; rfl
  · subst h2; simp [sg]
  · have := Int.mul_neg_of_neg_of_pos h1 h2; unfold sg; rw [if_pos this]; rfl
  · subst h1; simp [sg]
  · subst h1; simp [sg]
  · subst h1; simp [sg]
  · have := Int.mul_neg_of_pos_of_neg h1 h2; unfold sg; rw [if_pos this]; rfl
  · subst h2; simp [sg]
  · have := Int.mul_pos h1 h2; unfold sg; rw [if_neg (by omega), if_pos this]; rfl
theorem ss_sg (v : Int) : ss v = sg v * (v * v) := by
  rcases sg_cases v with ⟨h, e⟩ | ⟨h, e⟩ | ⟨h, e⟩ <;> rw [e]
  · rw [ss_neg (by omega)]; omega
  · subst h; rfl
  · rw [ss_pos (by omega)]; omega
theorem sg_ss (v : Int) : sg (ss v) = sg v := by
  rcases sg_cases v with ⟨h, e⟩ | ⟨h, e⟩ | ⟨h, e⟩ <;> rw [e]
  · have := ss_lt h; rw [ss_zero] at this; unfold sg; rw [if_pos this]
  · subst h; rfl
  · have := ss_lt h; rw [ss_zero] at this; unfold sg; rw [if_neg (by omega), if_pos this]
theorem sg_add_same {x y : Int} (h : sg x = 0 ∨ sg x = sg y) : sg (x + y) = sg y := by
  rcases sg_cases x with ⟨h1, e1⟩ | ⟨h1, e1⟩ | ⟨h1, e1⟩ <;> rcases sg_cases y with ⟨h2, e2⟩ | ⟨h2, e2⟩ | ⟨h2, e2⟩ <;> rw [e1, e2] at h <;> rw [e2] <;> unfold sg <;> first | omega | ((repeat' split) <;> omega)

/-- how Sign works it out -/
theorem rsign_same (p q d : Int) (h : sg p = 0 ∨ sg p = sg q * sg d) : rsign p q d = sg q * sg d := by
  have e : sg (ss q * d) = sg q * sg d := by rw [sg_mul, sg_ss]
  unfold rsign
  rw [sg_add_same (by rw [sg_ss, e]; exact h), e]
theorem rsign_none (p q d : Int) (h : sg q * sg d = 0) : rsign p q d = sg p := by
  have e : sg (ss q * d) = 0 := by rw [sg_mul, sg_ss, h]
  unfold rsign
  rw [Int.add_comm, sg_add_same (.inl e), sg_ss]
theorem rsign_apart (p q d : Int) (hd : 0 ≤ d) (h0 : sg p ≠ 0) (h1 : sg p ≠ sg q * sg d) (h2 : sg q * sg d ≠ 0) : rsign p q d = sg p * cmp (p * p) (q * q * d) := by
  have hd1 : sg d = 1 := by
    rcases sg_cases d with ⟨h, e⟩ | ⟨h, e⟩ | ⟨h, e⟩
    · omega
    · rw [e] at h2; simp at h2
    · exact e
  rw [hd1, Int.mul_one] at h1 h2
  unfold rsign
  rw [ss_sg p, ss_sg q, Int.mul_assoc (sg q)]
  generalize p * p = x
  generalize q * q * d = y
  rcases sg_cases p with ⟨_, e1⟩ | ⟨_, e1⟩ | ⟨_, e1⟩ <;> rcases sg_cases q with ⟨_, e2⟩ | ⟨_, e2⟩ | ⟨_, e2⟩ <;> simp only [e1, e2] at h0 h1 h2 ⊢ <;> first | omega | skip
  · unfold sg cmp; (repeat' split) <;> omega
  · unfold sg cmp; (repeat' split) <;> omega
theorem rsign_bd (p q d : Int) : -1 ≤ rsign p q d ∧ rsign p q d ≤ 1 := sg_bd _

def ceilr (n : Int) : Int := if root n * root n < n then root n + 1 else root n
theorem sq_le32 (r : Int) (h0 : 0 ≤ r) (h1 : r ≤ 4294967295) : 0 ≤ r * r ∧ r * r ≤ 18446744065119617025 := by
  refine ⟨Int.mul_nonneg h0 h0, ?_⟩
  have : r * r ≤ 4294967295 * r := Int.mul_le_mul_of_nonneg_right h1 h0
  omega
theorem sg_mul_bd (x y : Int) : -1 ≤ sg x * sg y ∧ sg x * sg y ≤ 1 := by rw [← sg_mul]; exact sg_bd _
theorem cmp_bd (x y : Int) : -1 ≤ cmp x y ∧ cmp x y ≤ 1 := by unfold cmp; (repeat' split) <;> omega
theorem sg_cmp_bd (v x y : Int) : -1 ≤ sg v * cmp x y ∧ sg v * cmp x y ≤ 1 := by
  have h := cmp_bd x y
  rcases sg_cases v with ⟨_, e⟩ | ⟨_, e⟩ | ⟨_, e⟩ <;> rw [e] <;> omega
/-- are q and d as Sign has them? -/
def okq (q d : Int) : Prop := -2147483648 ≤ q ∧ q ≤ 2147483648 ∧ 0 ≤ d ∧ d ≤ 2147483648
theorem sq_le31 (q : Int) (h : -2147483648 ≤ q ∧ q ≤ 2147483648) : 0 ≤ q * q ∧ q * q ≤ 4611686018427387904 := by
  have e : q * q = mag q * mag q := by unfold mag; split; exact (Int.neg_mul_neg q q).symm; rfl
  have h1 : mag q ≤ 2147483648 := by unfold mag; split <;> omega
  rw [e]
  refine ⟨Int.mul_nonneg (mag_nn q) (mag_nn q), ?_⟩
  have : mag q * mag q ≤ 2147483648 * mag q := Int.mul_le_mul_of_nonneg_right h1 (mag_nn q)
  omega

/-- the greatest whole number whose square, with its sign, isn't above T, by its first k of 48 bits -/
def srtTo (T : Int) : Nat → Int
  | 0 => -140737488355328
  | k + 1 => if ss (srtTo T k + 2 ^ (47 - k)) ≤ T then srtTo T k + 2 ^ (47 - k) else srtTo T k
def srt (T : Int) : Int := srtTo T 48
theorem srtTo_spec (T : Int) (h0 : ss (-140737488355328) ≤ T) (h1 : T < ss 140737488355328) (k : Nat) (hk : k ≤ 48) :
    ∃ R : Int, srtTo T k = -140737488355328 + R * 2 ^ (48 - k) ∧ 0 ≤ R ∧ R < 2 ^ k ∧ ss (srtTo T k) ≤ T ∧ T < ss (srtTo T k + 2 ^ (48 - k)) := by
  induction k with
  | zero => exact ⟨0, by simp [srtTo], by omega, by simp, h0, h1⟩
  | succ k ih =>
    obtain ⟨R, e, r0, r1, h2, h3⟩ := ih (by omega)
    have ep : (2 : Int) ^ (48 - k) = 2 * 2 ^ (47 - k) := by rw [show 48 - k = (47 - k) + 1 by omega, Int.pow_succ]; omega
    have e32 : 48 - (k + 1) = 47 - k := by omega
    have ek : (2 : Int) ^ (k + 1) = 2 * 2 ^ k := by rw [Int.pow_succ]; omega
    by_cases c : ss (srtTo T k + 2 ^ (47 - k)) ≤ T
    · have er : srtTo T (k + 1) = srtTo T k + 2 ^ (47 - k) := by show (if _ then _ else _) = _; rw [if_pos c]
      refine ⟨2 * R + 1, ?_, by omega, by omega, by rw [er]; exact c, ?_⟩
      · rw [er, e, ep, e32, Int.add_mul, Int.mul_comm 2 R, Int.mul_assoc]; omega
      · rw [er, e32]
        rw [ep] at h3
        have : srtTo T k + 2 ^ (47 - k) + 2 ^ (47 - k) = srtTo T k + 2 * 2 ^ (47 - k) := by omega
        rw [this]; exact h3
    · have er : srtTo T (k + 1) = srtTo T k := by show (if _ then _ else _) = _; rw [if_neg c]
      refine ⟨2 * R, ?_, by omega, by omega, by rw [er]; exact h2, ?_⟩
      · rw [er, e, ep, e32, Int.mul_comm 2 R, Int.mul_assoc]
      · rw [er, e32]; omega
theorem srtTo_bd (T : Int) (h0 : ss (-140737488355328) ≤ T) (h1 : T < ss 140737488355328) (k : Nat) (hk : k ≤ 47) :
    -140737488355328 ≤ srtTo T k ∧ srtTo T k + 2 ^ (47 - k) ≤ 140737488355327 := by
  obtain ⟨R, e, r0, r1, _, _⟩ := srtTo_spec T h0 h1 k (by omega)
  have hp : (0 : Int) < 2 ^ (47 - k) := Int.pow_pos (by decide)
  have ep : (2 : Int) ^ (48 - k) = 2 * 2 ^ (47 - k) := by rw [show 48 - k = (47 - k) + 1 by omega, Int.pow_succ]; omega
  have h48 : (2 : Int) ^ k * 2 ^ (48 - k) = 281474976710656 := by rw [← Int.pow_add, show k + (48 - k) = 48 by omega]; decide
  have h2 : 0 ≤ R * 2 ^ (48 - k) := Int.mul_nonneg r0 (by omega)
  have h3 : (R + 1) * 2 ^ (48 - k) ≤ 2 ^ k * 2 ^ (48 - k) := Int.mul_le_mul_of_nonneg_right (by omega) (by omega)
  rw [Int.add_mul, Int.one_mul, h48] at h3
  rw [e]
  omega
theorem srt_spec (T : Int) (h0 : ss (-140737488355328) ≤ T) (h1 : T < ss 140737488355328) : ss (srt T) ≤ T ∧ T < ss (srt T + 1) ∧ -140737488355328 ≤ srt T ∧ srt T < 140737488355328 := by
  obtain ⟨R, e, r0, r1, h2, h3⟩ := srtTo_spec T h0 h1 48 (by omega)
  rw [show 48 - 48 = 0 by omega, Int.pow_zero] at e h3
  have e2 : srt T = srtTo T 48 := rfl
  rw [e2]
  have : (2 : Int) ^ 48 = 281474976710656 := by decide
  exact ⟨h2, h3, by omega, by omega⟩
/-- q times the root of d lies within -2^47 and 2^47 -/
theorem T_bd (q d : Int) (h : okq q d) : ss (-140737488355328) ≤ ss q * d ∧ ss q * d < ss 140737488355328 := by
  obtain ⟨h1, h2, h3, h4⟩ := h
  have hq := sq_le31 q ⟨h1, h2⟩
  have e1 : ss (-140737488355328) = -19807040628566084398385987584 := by decide
  have e2 : ss 140737488355328 = 19807040628566084398385987584 := by decide
  rw [e1, e2]
  have hy : 0 ≤ (q * q) * d ∧ (q * q) * d ≤ 9903520314283042199192993792 := by
    refine ⟨Int.mul_nonneg hq.1 h3, ?_⟩
    have a1 : (q * q) * d ≤ 4611686018427387904 * d := Int.mul_le_mul_of_nonneg_right hq.2 h3
    omega
  have e3 : ss q * d = sg q * (q * q * d) := by rw [ss_sg, Int.mul_assoc]
  rw [e3]
  generalize q * q * d = y at *
  rcases sg_cases q with ⟨_, e⟩ | ⟨_, e⟩ | ⟨_, e⟩ <;> rw [e] <;> omega
theorem cut_iff (n q d : Int) : 0 ≤ rsign (-n) q d ↔ ss n ≤ ss q * d := by
  unfold rsign
  rw [sg_nonneg, ss_flip]
  omega
/-- Go's quotient and remainder make the floor -/
theorem floor_of_quot (p m : Int) (hm : 0 < m) : (if p.tmod m < 0 then p.tdiv m - 1 else p.tdiv m) = p / m := by
  by_cases hp : 0 ≤ p
  · rw [if_neg (by have := Int.tmod_nonneg m hp; omega), Int.tdiv_eq_ediv_of_nonneg hp]
  · have e1 := Int.mul_tdiv_add_tmod p m
    have e2 := Int.mul_ediv_add_emod p m
    have h1 := Int.emod_nonneg p (show m ≠ 0 by omega)
    have h2 := Int.emod_lt_of_pos p hm
    have h3 : p.tmod m = -((-p) % m) := by
      rw [← Int.neg_neg p, Int.neg_tmod, Int.tmod_eq_emod_of_nonneg (by omega)]; simp
    have h4 := Int.emod_nonneg (-p) (show m ≠ 0 by omega)
    have h5 := Int.emod_lt_of_pos (-p) hm
    split
    · have : m * (p.tdiv m - 1 - p / m) = p % m - p.tmod m - m := by rw [Int.mul_sub, Int.mul_sub]; omega
      have hlt : p % m - p.tmod m - m < m := by omega
      have hgt : -m < p % m - p.tmod m - m := by omega
      have a : p.tdiv m - 1 - p / m < 1 := by
        apply Int.lt_of_mul_lt_mul_left (a := m) _ (by omega); omega
      have b : -1 < p.tdiv m - 1 - p / m := by
        apply Int.lt_of_mul_lt_mul_left (a := m) _ (by omega); omega
      omega
    · have : m * (p.tdiv m - p / m) = p % m - p.tmod m := by rw [Int.mul_sub]; omega
      have a : p.tdiv m - p / m < 1 := by
        apply Int.lt_of_mul_lt_mul_left (a := m) _ (by omega); omega
      have b : -1 < p.tdiv m - p / m := by
        apply Int.lt_of_mul_lt_mul_left (a := m) _ (by omega); omega
      omega

theorem ediv_bd (x m : Int) (hm : 1 ≤ m) : -mag x ≤ x / m ∧ x / m ≤ mag x ∧ (x < 0 → x / m < 0) := by
  have h0 := mag_nn x
  have h1 : mag x ≤ mag x * m := by
    have := Int.mul_le_mul_of_nonneg_left hm h0
    omega
  refine ⟨?_, ?_, fun h => Int.ediv_neg_of_neg_of_pos h (by omega)⟩
  · apply (Int.le_ediv_iff_mul_le (by omega)).2
    rw [Int.neg_mul]
    unfold mag at *; split at * <;> omega
  · have : x / m < mag x + 1 := by
      apply (Int.ediv_lt_iff_lt_mul (by omega)).2
      rw [Int.add_mul]
      unfold mag at *; split at * <;> omega
    omega
theorem tdiv_bd (x m : Int) (hm : 1 ≤ m) : -mag x ≤ x.tdiv m ∧ x.tdiv m ≤ mag x ∧ (x.tmod m < 0 → -mag x < x.tdiv m) := by
  have h := ediv_bd x m hm
  have hf := floor_of_quot x m (by omega)
  have h0 := mag_nn x
  by_cases c : x.tmod m < 0
  · rw [if_pos c] at hf
    have hx : x < 0 := by
      apply Int.not_le.1
      intro hx
      have := Int.tmod_nonneg m hx
      omega
    have := h.2.2 hx
    omega
  · rw [if_neg c] at hf
    omega

theorem tmod_bd (x m : Int) (hm : 0 < m) : -m < x.tmod m ∧ x.tmod m < m := by
  by_cases h : 0 ≤ x
  · have h1 := Int.tmod_nonneg m h
    have h2 := Int.tmod_lt_of_pos x hm
    omega
  · have h1 := Int.tmod_nonneg m (show 0 ≤ -x by omega)
    have h2 := Int.tmod_lt_of_pos (-x) hm
    rw [Int.neg_tmod] at h1 h2
    omega

theorem mag_mul (x y : Int) : mag (x * y) = mag x * mag y := by
  have hx := mag_nn x
  have hy := mag_nn y
  have h0 : 0 ≤ mag x * mag y := Int.mul_nonneg hx hy
  have e : x * y = mag x * mag y ∨ x * y = -(mag x * mag y) := by
    unfold mag
    split <;> split <;> simp [Int.neg_mul, Int.mul_neg]
  rcases e with e | e
  · rw [e, mag_pos h0]
  · rw [e]
    by_cases z : mag x * mag y = 0
    · rw [z]; rfl
    · rw [mag_neg (by omega), Int.neg_neg]
theorem ss_mul (x y : Int) (hy : 0 ≤ y) : ss x * (y * y) = ss (x * y) := by
  unfold ss
  rw [mag_mul, mag_pos hy, Int.mul_assoc, Int.mul_assoc, ← Int.mul_assoc y, Int.mul_comm y (mag x), Int.mul_assoc (mag x)]
theorem sg_diff (x y : Int) : sg (ss x - ss y) = sg (x - y) := by
  rcases Int.lt_trichotomy x y with h | h | h
  · have := ss_lt h; unfold sg; rw [if_pos (by omega), if_pos (by omega)]
  · subst h; simp
  · have := ss_lt h; unfold sg; rw [if_neg (show ¬ ss x - ss y < 0 by omega), if_neg (show ¬ x - y < 0 by omega), if_pos (show 0 < ss x - ss y by omega), if_pos (show 0 < x - y by omega)]
end Go.Proofs.Ytnienpalbfgflaa.Pl
