/- Plain facts on the bit operations of the model: masks, joins, complements. · The walks of package wide: what each of its functions returns. · Plain facts on roots of whole numbers, and on numbers with one root in them. · The walks of package root: Floor, Ceil, sign, may, Sign. · The walk of wide.parts: a share by its bits. · The walks of wide.more, wide.signed and wide.under. · The walk of wide.MulDiv. · The walks of package fix: From, Add, Sub, Mul, Div. · Plain facts on the bit operations of the model: one bit of a number. · The walks of package fix: From, near, Floor, Ceil, Round, Trunc, Whole, Sqrt. · Stands for XF1 in this seat. · The walks of package obj at numbers: size, numbers, Less, Same, Num, Type. · The walks of package obj at any object: size, numbers, Less. · The walk of tympanref10.May, whatever the object (printed by wip/gen_rmay.py). · tympanref10.May, whatever the object (printed by wip/gen_rmay2.py). · The walks of the reference's stack: Peek, ToMark, Pop. · The walk of the reference's Become. · The walk of the reference's Dup. · The walk of the reference's Push. · The walk of the reference's Roll. · Each method of the stack, and of the reference's, by one plain function. · The walks of hand.Is, Whole, Fixed, Truth, Room. · Blocks of our own, and what they hold (for the seats that have no bow). -/
import Derived.WalkKit
import Derived.Lib.Hide
import Derived.Test.YtfmmomdmemcbbaaM3
import Derived.Test.YtfmmomdmemcbbaaM1
import Derived.Test.YtfmmomdmemcbbaaRows
import Derived.Test.YtfmmomdmemcbbaaM2
namespace Go.Proofs.Ytfmmomdmemcbbaa.Pl
set_option linter.unusedVariables false
open Go

theorem toNat_ofInt64 (x : Int) : ((BitVec.ofInt 64 x).toNat : Int) = x % 18446744073709551616 := by
  rw [BitVec.toNat_ofInt]; omega

/-- 'x & (2^k - 1)' -/
theorem and_mask_u64 (k : Nat) (hk : k ≤ 63) (x : Int) : bits .and .u64 x (2 ^ k - 1) = x % 2 ^ k := by
  have hp : (2 : Int) ^ k ≤ 2 ^ 63 := by
    have := Nat.pow_le_pow_right (n := 2) (by decide) hk
    exact_mod_cast this
  have hp0 : (0 : Int) < 2 ^ k := Int.pow_pos (by decide)
  have hn : ((2 : Nat) ^ k : Nat) = ((2 : Int) ^ k).toNat := by
    have : ((2 ^ k : Nat) : Int) = (2 : Int) ^ k := by simp
    omega
  have h1 : (BitVec.ofInt 64 ((2 : Int) ^ k - 1)).toNat = 2 ^ k - 1 := by
    have := toNat_ofInt64 ((2 : Int) ^ k - 1)
    have e2 : ((2 : Int) ^ k - 1) % 18446744073709551616 = 2 ^ k - 1 := Int.emod_eq_of_lt (by omega) (by omega)
    rw [e2] at this
    have : ((2 ^ k : Nat) : Int) = (2 : Int) ^ k := by simp
    have hpos : 0 < (2:Nat) ^ k := Nat.pow_pos (by decide)
    omega
  show IntKind.u64.wrap ((BitVec.ofInt 64 x &&& BitVec.ofInt 64 ((2 : Int) ^ k - 1)).toNat : Int) = _
  rw [BitVec.toNat_and, h1, Nat.and_two_pow_sub_one_eq_mod, IntKind.wrap_u64]
  have h2 := toNat_ofInt64 x
  have h3 : (((BitVec.ofInt 64 x).toNat % 2 ^ k : Nat) : Int) = x % 2 ^ k := by
    rw [Int.natCast_emod, h2]
    have : ((2 ^ k : Nat) : Int) = (2 : Int) ^ k := by simp
    rw [this]
    exact Int.emod_emod_of_dvd x (by
      have : (18446744073709551616 : Int) = 2 ^ k * 2 ^ (64 - k) := by
        rw [← Int.pow_add, show k + (64 - k) = 64 by omega]; decide
      rw [this]; exact Int.dvd_mul_right _ _)
  rw [h3]
  have := Int.emod_nonneg x (show (2 : Int) ^ k ≠ 0 by omega)
  have := Int.emod_lt_of_pos x hp0
  omega
theorem and_32_u64 (x : Int) : bits .and .u64 x 4294967295 = x % 4294967296 := and_mask_u64 32 (by decide) x
theorem and_1_u64 (x : Int) : bits .and .u64 x 1 = x % 2 := and_mask_u64 1 (by decide) x

/-- '^x' of 64 bits without a sign -/
theorem xor_max_u64 (x : Int) : bits .xor .u64 IntKind.u64.max x = 18446744073709551615 - x % 18446744073709551616 := by
  have h1 := toNat_ofInt64 x
  show IntKind.u64.wrap ((BitVec.ofInt 64 IntKind.u64.max ^^^ BitVec.ofInt 64 x).toNat : Int) = _
  have e : BitVec.ofInt 64 IntKind.u64.max = BitVec.allOnes 64 := by decide
  rw [e, BitVec.allOnes_xor, BitVec.toNat_not, IntKind.wrap_u64]
  have := (BitVec.ofInt 64 x).isLt
  omega
theorem u64_signed : IntKind.u64.signed = false := rfl

/-- '(x << k) | y', y below 2^k -/
theorem or_shifted_u64 (k : Nat) (x y : Int) (hy0 : 0 ≤ y) (hy : y < 2 ^ k) (hx0 : 0 ≤ x) (hx : x * 2 ^ k + y < 18446744073709551616) :
    bits .or .u64 (x * 2 ^ k) y = x * 2 ^ k + y := by
  have hp0 : (0 : Int) < 2 ^ k := Int.pow_pos (by decide)
  have hxp : 0 ≤ x * 2 ^ k := Int.mul_nonneg hx0 (by omega)
  obtain ⟨X, rfl⟩ := Int.eq_ofNat_of_zero_le hx0
  obtain ⟨Y, rfl⟩ := Int.eq_ofNat_of_zero_le hy0
  have e : ((X : Int) * 2 ^ k) = ((X * 2 ^ k : Nat) : Int) := by simp
  have hY : Y < 2 ^ k := by
    have : ((2 ^ k : Nat) : Int) = (2 : Int) ^ k := by simp
    omega
  rw [e] at hx hxp ⊢
  rw [bits_or_u64_nat _ _ (by omega) (by omega), Nat.mul_comm, ← Nat.two_pow_add_eq_or_of_lt hY]
  simp
attribute [go_sem] and_32_u64 and_1_u64 xor_max_u64 u64_signed
end Go.Proofs.Ytfmmomdmemcbbaa.Pl

namespace Go.Proofs.Ytfmmomdmemcbbaa
set_option linter.unusedVariables false
open Go.RowKit

theorem size_any (v : Int) (hv : -9223372036854775808 ≤ v ∧ v ≤ 9223372036854775807) (w : World) :
    Calls Try.prog 76 #[.int .i64 v] w fun e w' => e = .returned (.int .u64 (Pl.mag v)) ∧ w = w' := by
  by_cases h : v < 0
  · go_enter Try.func76, Try.ntmps76
    go_wp2
    go_ret
    exact ⟨ret_int (by unfold Pl.mag; rw [if_pos h]; omega), rfl⟩
  · go_enter Try.func76, Try.ntmps76
    go_wp2
    go_ret
    exact ⟨ret_int (by unfold Pl.mag; rw [if_neg (by omega)]), rfl⟩

theorem product_any (a b : Int) (ha : 0 ≤ a ∧ a ≤ 18446744073709551615) (hb : 0 ≤ b ∧ b ≤ 18446744073709551615) (w : World) :
    Calls Try.prog 75 #[.int .u64 a, .int .u64 b] w fun e w' => e = .returned (.tuple #[.int .u64 (a * b / 18446744073709551616), .int .u64 (a * b % 18446744073709551616)]) ∧ Grown w w' := by
  have hm := Pl.and_32_u64
  have p0 := Pl.mul_lt32 (a % 4294967296) (b % 4294967296) (by omega) (by omega) (by omega) (by omega)
  have p1 := Pl.mul_lt32 (a / 4294967296) (b % 4294967296) (by omega) (by omega) (by omega) (by omega)
  have p2 := Pl.mul_lt32 (a % 4294967296) (b / 4294967296) (by omega) (by omega) (by omega) (by omega)
  have p3 := Pl.mul_lt32 (a / 4294967296) (b / 4294967296) (by omega) (by omega) (by omega) (by omega)
  go_enter Try.func75, Try.ntmps75
  go_wp2
  go_quiet (fail)
  go_wp2
  go_ret2
  clear hm
  refine ⟨ret2_int ?_ ?_, grown_drewN ((Grown.refl w).alloc _ _) _⟩
  · exact (Pl.prod_parts a b _ rfl).1
  · rw [← (Pl.prod_parts a b _ rfl).2]
    rw [IntKind.wrap_u64]
    generalize a % 4294967296 * (b % 4294967296) = q0
    generalize (q0 / 4294967296 + a / 4294967296 * (b % 4294967296) % 4294967296 + a % 4294967296 * (b / 4294967296) % 4294967296) = m
    have e : m * 4294967296 % 18446744073709551616 = (m % 4294967296) * 2 ^ 32 := by omega
    rw [e]
    exact Pl.or_shifted_u64 32 _ _ (by omega) (by omega) (by omega) (by omega)

end Go.Proofs.Ytfmmomdmemcbbaa

namespace Go.Proofs.Ytfmmomdmemcbbaa.Pl
set_option linter.unusedVariables false

/-- the root of n by its first k of 32 bits -/
def rootTo (n : Int) : Nat → Int
  | 0 => 0
  | k + 1 => if (rootTo n k + 2 ^ (31 - k)) * (rootTo n k + 2 ^ (31 - k)) ≤ n then rootTo n k + 2 ^ (31 - k) else rootTo n k
/-- the greatest whole number whose square isn't above n -/
def root (n : Int) : Int := rootTo n 32

theorem rootTo_spec (n : Int) (h0 : 0 ≤ n) (h1 : n < 18446744073709551616) (k : Nat) (hk : k ≤ 32) :
    ∃ R : Int, rootTo n k = R * 2 ^ (32 - k) ∧ 0 ≤ R ∧ R < 2 ^ k ∧ rootTo n k * rootTo n k ≤ n ∧ n < (rootTo n k + 2 ^ (32 - k)) * (rootTo n k + 2 ^ (32 - k)) := by
  induction k with
  | zero => exact ⟨0, by simp [rootTo], by omega, by simp, by simpa [rootTo] using h0, by simp [rootTo]; omega⟩
  | succ k ih =>
    obtain ⟨R, e, r0, r1, h2, h3⟩ := ih (by omega)
    have ep : (2 : Int) ^ (32 - k) = 2 * 2 ^ (31 - k) := by rw [show 32 - k = (31 - k) + 1 by omega, Int.pow_succ]; omega
    have e32 : 32 - (k + 1) = 31 - k := by omega
    have ek : (2 : Int) ^ (k + 1) = 2 * 2 ^ k := by rw [Int.pow_succ]; omega
    have hp : (0 : Int) < 2 ^ (31 - k) := Int.pow_pos (by decide)
    by_cases c : (rootTo n k + 2 ^ (31 - k)) * (rootTo n k + 2 ^ (31 - k)) ≤ n
    · have er : rootTo n (k + 1) = rootTo n k + 2 ^ (31 - k) := by show (if _ then _ else _) = _; rw [if_pos c]
      refine ⟨2 * R + 1, ?_, by omega, by omega, by rw [er]; exact c, ?_⟩
      · rw [er, e, ep, e32, Int.add_mul, Int.mul_comm 2 R, Int.mul_assoc]; omega
      · rw [er, e32]
        rw [ep] at h3
        have : rootTo n k + 2 ^ (31 - k) + 2 ^ (31 - k) = rootTo n k + 2 * 2 ^ (31 - k) := by omega
        rw [this]; exact h3
    · have er : rootTo n (k + 1) = rootTo n k := by show (if _ then _ else _) = _; rw [if_neg c]
      refine ⟨2 * R, ?_, by omega, by omega, by rw [er]; exact h2, ?_⟩
      · rw [er, e, ep, e32, Int.mul_comm 2 R, Int.mul_assoc]
      · rw [er, e32]; omega
theorem rootTo_bd (n : Int) (h0 : 0 ≤ n) (h1 : n < 18446744073709551616) (k : Nat) (hk : k ≤ 31) :
    0 ≤ rootTo n k ∧ rootTo n k + 2 ^ (31 - k) ≤ 4294967295 ∧ 0 ≤ (rootTo n k + 2 ^ (31 - k)) * (rootTo n k + 2 ^ (31 - k)) ∧ (rootTo n k + 2 ^ (31 - k)) * (rootTo n k + 2 ^ (31 - k)) ≤ 18446744065119617025 := by
  obtain ⟨R, e, r0, r1, _, _⟩ := rootTo_spec n h0 h1 k (by omega)
  have hp : (0 : Int) < 2 ^ (31 - k) := Int.pow_pos (by decide)
  have hp' : (0 : Int) < 2 ^ (32 - k) := Int.pow_pos (by decide)
  have ep : (2 : Int) ^ (32 - k) = 2 * 2 ^ (31 - k) := by rw [show 32 - k = (31 - k) + 1 by omega, Int.pow_succ]; omega
  have hr : 0 ≤ rootTo n k := by rw [e]; exact Int.mul_nonneg r0 (by omega)
  have h32 : (2 : Int) ^ k * 2 ^ (32 - k) = 4294967296 := by rw [← Int.pow_add, show k + (32 - k) = 32 by omega]; decide
  have hle : rootTo n k + 2 ^ (32 - k) ≤ 4294967296 := by
    have : (R + 1) * 2 ^ (32 - k) ≤ 2 ^ k * 2 ^ (32 - k) := Int.mul_le_mul_of_nonneg_right (by omega) (by omega)
    rw [Int.add_mul, Int.one_mul, h32] at this
    rw [e]; exact this
  have ht : rootTo n k + 2 ^ (31 - k) ≤ 4294967295 := by omega
  refine ⟨hr, ht, Int.mul_nonneg (by omega) (by omega), ?_⟩
  have h2 : (rootTo n k + 2 ^ (31 - k)) * (rootTo n k + 2 ^ (31 - k)) ≤ 4294967295 * (rootTo n k + 2 ^ (31 - k)) := Int.mul_le_mul_of_nonneg_right ht (by omega)
  omega
theorem root_spec (n : Int) (h0 : 0 ≤ n) (h1 : n < 18446744073709551616) : 0 ≤ root n ∧ root n ≤ 4294967295 ∧ root n * root n ≤ n ∧ n < (root n + 1) * (root n + 1) := by
  obtain ⟨R, e, r0, r1, h2, h3⟩ := rootTo_spec n h0 h1 32 (by omega)
  rw [show 32 - 32 = 0 by omega, Int.pow_zero] at e h3
  have e2 : root n = rootTo n 32 := rfl
  rw [e2]
  have : (2 : Int) ^ 32 = 4294967296 := by decide
  exact ⟨by omega, by omega, h2, h3⟩

/-- a square from 0 on rises -/
theorem sq_lt {a b : Int} (ha : 0 ≤ a) (h : a < b) : a * a < b * b := by
  have h1 : a * a ≤ a * b := Int.mul_le_mul_of_nonneg_left (by omega) ha
  have h2 : a * b < b * b := Int.mul_lt_mul_of_pos_right h (by omega)
  omega
/-- a root is the only one -/
theorem root_unique {n r s : Int} (hr : 0 ≤ r) (hs : 0 ≤ s) (h1 : r * r ≤ n) (h2 : n < (r + 1) * (r + 1)) (h3 : s * s ≤ n) (h4 : n < (s + 1) * (s + 1)) : r = s := by
  by_cases a : r < s
  · by_cases e : r + 1 = s
    · rw [e] at h2; omega
    · have := sq_lt (a := r + 1) (b := s) (by omega) (by omega); omega
  · by_cases b : s < r
    · by_cases e : s + 1 = r
      · rw [e] at h4; omega
      · have := sq_lt (a := s + 1) (b := r) (by omega) (by omega); omega
    · omega

/-- the sign of a number -/
def sg (v : Int) : Int := if v < 0 then -1 else if 0 < v then 1 else 0
/-- the square of a number, with its sign -/
def ss (v : Int) : Int := v * mag v
theorem ss_pos {v : Int} (h : 0 ≤ v) : ss v = v * v := by unfold ss; rw [mag_pos h]
theorem ss_neg {v : Int} (h : v ≤ 0) : ss v = -(v * v) := by
  unfold ss
  by_cases e : v = 0
  · subst e; rfl
  · rw [mag_neg (by omega), Int.mul_neg]
theorem ss_flip (v : Int) : ss (-v) = -ss v := by
  by_cases h : 0 ≤ v
  · rw [ss_pos h, ss_neg (by omega), Int.neg_mul_neg]
  · rw [ss_neg (by omega : v ≤ 0), ss_pos (by omega), Int.neg_mul_neg, Int.neg_neg]
theorem ss_lt {a b : Int} (h : a < b) : ss a < ss b := by
  by_cases ha : 0 ≤ a
  · rw [ss_pos ha, ss_pos (by omega)]; exact sq_lt ha h
  · by_cases hb : 0 ≤ b
    · rw [ss_neg (by omega : a ≤ 0), ss_pos hb]
      have h1 : 0 < a * a := Int.mul_pos_of_neg_of_neg (by omega) (by omega)
      have h2 : 0 ≤ b * b := Int.mul_nonneg hb hb
      omega
    · rw [ss_neg (by omega : a ≤ 0), ss_neg (by omega : b ≤ 0)]
      have := sq_lt (a := -b) (b := -a) (by omega) (by omega)
      rw [Int.neg_mul_neg, Int.neg_mul_neg] at this
      omega
theorem ss_le {a b : Int} (h : a ≤ b) : ss a ≤ ss b := by
  by_cases e : a = b
  · rw [e]; exact Int.le_refl _
  · have := ss_lt (a := a) (b := b) (by omega); omega
theorem ss_le_iff {a b : Int} : ss a ≤ ss b ↔ a ≤ b := by
  constructor
  · intro h
    by_cases c : a ≤ b
    · exact c
    · have := ss_lt (a := b) (b := a) (by omega); omega
  · exact ss_le
theorem ss_zero : ss 0 = 0 := rfl
/-- the sign of p + q times the root of d -/
def rsign (p q d : Int) : Int := sg (ss p + ss q * d)
theorem sg_bd (v : Int) : -1 ≤ sg v ∧ sg v ≤ 1 := by unfold sg; split <;> (try split) <;> omega
theorem sg_neg (v : Int) : sg (-v) = -sg v := by unfold sg; (repeat' split) <;> omega
theorem sg_mono {u v : Int} (h : u ≤ v) : sg u ≤ sg v := by unfold sg; (repeat' split) <;> omega
theorem sg_nonneg {v : Int} : 0 ≤ sg v ↔ 0 ≤ v := by unfold sg; (repeat' split) <;> omega

theorem sg_cases (v : Int) : (v < 0 ∧ sg v = -1) ∨ (v = 0 ∧ sg v = 0) ∨ (0 < v ∧ sg v = 1) := by
  unfold sg
  rcases Int.lt_trichotomy v 0 with h | h | h
  · exact .inl ⟨h, by rw [if_pos h]⟩
  · subst h; exact .inr (.inl ⟨rfl, rfl⟩)
  · exact .inr (.inr ⟨h, by rw [if_neg (by omega), if_pos h]⟩)
theorem sg_mul (x y : Int) : sg (x * y) = sg x * sg y := by
  rcases sg_cases x with ⟨h1, e1⟩ | ⟨h1, e1⟩ | ⟨h1, e1⟩ <;> rcases sg_cases y with ⟨h2, e2⟩ | ⟨h2, e2⟩ | ⟨h2, e2⟩ <;> rw [e1, e2]
  · have := Int.mul_pos_of_neg_of_neg h1 h2; unfold sg; rw [if_neg (by omega), if_pos this]; rfl
  · subst h2; simp [sg]
  · have := Int.mul_neg_of_neg_of_pos h1 h2; unfold sg; rw [if_pos this]; rfl
  · subst h1; simp [sg]
  · subst h1; simp [sg]
  · subst h1; simp [sg]
  · have := Int.mul_neg_of_pos_of_neg h1 h2; unfold sg; rw [if_pos this]; rfl
  · subst h2; simp [sg]
  · have := Int.mul_pos h1 h2; unfold sg; rw [if_neg (by omega), if_pos this]; rfl
theorem ss_sg (v : Int) : ss v = sg v * (v * v) := by
  rcases sg_cases v with ⟨h, e⟩ | ⟨h, e⟩ | ⟨h, e⟩ <;> rw [e]
  · rw [ss_neg (by omega)]; omega
  · subst h; rfl
  · rw [ss_pos (by omega)]; omega
theorem sg_ss (v : Int) : sg (ss v) = sg v := by
  rcases sg_cases v with ⟨h, e⟩ | ⟨h, e⟩ | ⟨h, e⟩ <;> rw [e]
  · have := ss_lt h; rw [ss_zero] at this; unfold sg; rw [if_pos this]
  · subst h; rfl
  · have := ss_lt h; rw [ss_zero] at this; unfold sg; rw [if_neg (by omega), if_pos this]
theorem sg_add_same {x y : Int} (h : sg x = 0 ∨ sg x = sg y) : sg (x + y) = sg y := by
  rcases sg_cases x with ⟨h1, e1⟩ | ⟨h1, e1⟩ | ⟨h1, e1⟩ <;> rcases sg_cases y with ⟨h2, e2⟩ | ⟨h2, e2⟩ | ⟨h2, e2⟩ <;> rw [e1, e2] at h <;> rw [e2] <;> unfold sg <;> first | omega | ((repeat' split) <;> omega)

/-- how Sign works it out -/
theorem rsign_same (p q d : Int) (h : sg p = 0 ∨ sg p = sg q * sg d) : rsign p q d = sg q * sg d := by
  have e : sg (ss q * d) = sg q * sg d := by rw [sg_mul, sg_ss]
  unfold rsign
  rw [sg_add_same (by rw [sg_ss, e]; exact h), e]
theorem rsign_none (p q d : Int) (h : sg q * sg d = 0) : rsign p q d = sg p := by
  have e : sg (ss q * d) = 0 := by rw [sg_mul, sg_ss, h]
  unfold rsign
  rw [Int.add_comm, sg_add_same (.inl e), sg_ss]
theorem rsign_apart (p q d : Int) (hd : 0 ≤ d) (h0 : sg p ≠ 0) (h1 : sg p ≠ sg q * sg d) (h2 : sg q * sg d ≠ 0) : rsign p q d = sg p * cmp (p * p) (q * q * d) := by
  have hd1 : sg d = 1 := by
    rcases sg_cases d with ⟨h, e⟩ | ⟨h, e⟩ | ⟨h, e⟩
    · omega
    · rw [e] at h2; simp at h2
    · exact e
  rw [hd1, Int.mul_one] at h1 h2
  unfold rsign
  rw [ss_sg p, ss_sg q, Int.mul_assoc (sg q)]
  generalize p * p = x
  generalize q * q * d = y
  rcases sg_cases p with ⟨_, e1⟩ | ⟨_, e1⟩ | ⟨_, e1⟩ <;> rcases sg_cases q with ⟨_, e2⟩ | ⟨_, e2⟩ | ⟨_, e2⟩ <;> simp only [e1, e2] at h0 h1 h2 ⊢ <;> first | omega | skip
  · unfold sg cmp; (repeat' split) <;> omega
  · unfold sg cmp; (repeat' split) <;> omega
theorem rsign_bd (p q d : Int) : -1 ≤ rsign p q d ∧ rsign p q d ≤ 1 := sg_bd _

def ceilr (n : Int) : Int := if root n * root n < n then root n + 1 else root n
theorem sq_le32 (r : Int) (h0 : 0 ≤ r) (h1 : r ≤ 4294967295) : 0 ≤ r * r ∧ r * r ≤ 18446744065119617025 := by
  refine ⟨Int.mul_nonneg h0 h0, ?_⟩
  have : r * r ≤ 4294967295 * r := Int.mul_le_mul_of_nonneg_right h1 h0
  omega
theorem sg_mul_bd (x y : Int) : -1 ≤ sg x * sg y ∧ sg x * sg y ≤ 1 := by rw [← sg_mul]; exact sg_bd _
theorem cmp_bd (x y : Int) : -1 ≤ cmp x y ∧ cmp x y ≤ 1 := by unfold cmp; (repeat' split) <;> omega
theorem sg_cmp_bd (v x y : Int) : -1 ≤ sg v * cmp x y ∧ sg v * cmp x y ≤ 1 := by
  have h := cmp_bd x y
  rcases sg_cases v with ⟨_, e⟩ | ⟨_, e⟩ | ⟨_, e⟩ <;> rw [e] <;> omega
/-- are q and d as Sign has them? -/
def okq (q d : Int) : Prop := -2147483648 ≤ q ∧ q ≤ 2147483648 ∧ 0 ≤ d ∧ d ≤ 2147483648
theorem sq_le31 (q : Int) (h : -2147483648 ≤ q ∧ q ≤ 2147483648) : 0 ≤ q * q ∧ q * q ≤ 4611686018427387904 := by
  have e : q * q = mag q * mag q := by unfold mag; split; exact (Int.neg_mul_neg q q).symm; rfl
  have h1 : mag q ≤ 2147483648 := by unfold mag; split <;> omega
  rw [e]
  refine ⟨Int.mul_nonneg (mag_nn q) (mag_nn q), ?_⟩
  have : mag q * mag q ≤ 2147483648 * mag q := Int.mul_le_mul_of_nonneg_right h1 (mag_nn q)
  omega

/-- the greatest whole number whose square, with its sign, isn't above T, by its first k of 48 bits -/
def srtTo (T : Int) : Nat → Int
  | 0 => -140737488355328
  | k + 1 => if ss (srtTo T k + 2 ^ (47 - k)) ≤ T then srtTo T k + 2 ^ (47 - k) else srtTo T k
def srt (T : Int) : Int := srtTo T 48
theorem srtTo_spec (T : Int) (h0 : ss (-140737488355328) ≤ T) (h1 : T < ss 140737488355328) (k : Nat) (hk : k ≤ 48) :
    ∃ R : Int, srtTo T k = -140737488355328 + R * 2 ^ (48 - k) ∧ 0 ≤ R ∧ R < 2 ^ k ∧ ss (srtTo T k) ≤ T ∧ T < ss (srtTo T k + 2 ^ (48 - k)) := by
  induction k with
  | zero => exact ⟨0, by simp [srtTo], by omega, by simp, h0, h1⟩
  | succ k ih =>
    obtain ⟨R, e, r0, r1, h2, h3⟩ := ih (by omega)
    have ep : (2 : Int) ^ (48 - k) = 2 * 2 ^ (47 - k) := by rw [show 48 - k = (47 - k) + 1 by omega, Int.pow_succ]; omega
    have e32 : 48 - (k + 1) = 47 - k := by omega
    have ek : (2 : Int) ^ (k + 1) = 2 * 2 ^ k := by rw [Int.pow_succ]; omega
    by_cases c : ss (srtTo T k + 2 ^ (47 - k)) ≤ T
    · have er : srtTo T (k + 1) = srtTo T k + 2 ^ (47 - k) := by show (if _ then _ else _) = _; rw [if_pos c]
      refine ⟨2 * R + 1, ?_, by omega, by omega, by rw [er]; exact c, ?_⟩
      · rw [er, e, ep, e32, Int.add_mul, Int.mul_comm 2 R, Int.mul_assoc]; omega
      · rw [er, e32]
        rw [ep] at h3
        have : srtTo T k + 2 ^ (47 - k) + 2 ^ (47 - k) = srtTo T k + 2 * 2 ^ (47 - k) := by omega
        rw [this]; exact h3
    · have er : srtTo T (k + 1) = srtTo T k := by show (if _ then _ else _) = _; rw [if_neg c]
      refine ⟨2 * R, ?_, by omega, by omega, by rw [er]; exact h2, ?_⟩
      · rw [er, e, ep, e32, Int.mul_comm 2 R, Int.mul_assoc]
      · rw [er, e32]; omega
theorem srtTo_bd (T : Int) (h0 : ss (-140737488355328) ≤ T) (h1 : T < ss 140737488355328) (k : Nat) (hk : k ≤ 47) :
    -140737488355328 ≤ srtTo T k ∧ srtTo T k + 2 ^ (47 - k) ≤ 140737488355327 := by
  obtain ⟨R, e, r0, r1, _, _⟩ := srtTo_spec T h0 h1 k (by omega)
  have hp : (0 : Int) < 2 ^ (47 - k) := Int.pow_pos (by decide)
  have ep : (2 : Int) ^ (48 - k) = 2 * 2 ^ (47 - k) := by rw [show 48 - k = (47 - k) + 1 by omega, Int.pow_succ]; omega
  have h48 : (2 : Int) ^ k * 2 ^ (48 - k) = 281474976710656 := by rw [← Int.pow_add, show k + (48 - k) = 48 by omega]; decide
  have h2 : 0 ≤ R * 2 ^ (48 - k) := Int.mul_nonneg r0 (by omega)
  have h3 : (R + 1) * 2 ^ (48 - k) ≤ 2 ^ k * 2 ^ (48 - k) := Int.mul_le_mul_of_nonneg_right (by omega) (by omega)
  rw [Int.add_mul, Int.one_mul, h48] at h3
  rw [e]
  omega
theorem srt_spec (T : Int) (h0 : ss (-140737488355328) ≤ T) (h1 : T < ss 140737488355328) : ss (srt T) ≤ T ∧ T < ss (srt T + 1) ∧ -140737488355328 ≤ srt T ∧ srt T < 140737488355328 := by
  obtain ⟨R, e, r0, r1, h2, h3⟩ := srtTo_spec T h0 h1 48 (by omega)
  rw [show 48 - 48 = 0 by omega, Int.pow_zero] at e h3
  have e2 : srt T = srtTo T 48 := rfl
  rw [e2]
  have : (2 : Int) ^ 48 = 281474976710656 := by decide
  exact ⟨h2, h3, by omega, by omega⟩
/-- q times the root of d lies within -2^47 and 2^47 -/
theorem T_bd (q d : Int) (h : okq q d) : ss (-140737488355328) ≤ ss q * d ∧ ss q * d < ss 140737488355328 := by
  obtain ⟨h1, h2, h3, h4⟩ := h
  have hq := sq_le31 q ⟨h1, h2⟩
  have e1 : ss (-140737488355328) = -19807040628566084398385987584 := by decide
  have e2 : ss 140737488355328 = 19807040628566084398385987584 := by decide
  rw [e1, e2]
  have hy : 0 ≤ (q * q) * d ∧ (q * q) * d ≤ 9903520314283042199192993792 := by
    refine ⟨Int.mul_nonneg hq.1 h3, ?_⟩
    have a1 : (q * q) * d ≤ 4611686018427387904 * d := Int.mul_le_mul_of_nonneg_right hq.2 h3
    omega
  have e3 : ss q * d = sg q * (q * q * d) := by rw [ss_sg, Int.mul_assoc]
  rw [e3]
  generalize q * q * d = y at *
  rcases sg_cases q with ⟨_, e⟩ | ⟨_, e⟩ | ⟨_, e⟩ <;> rw [e] <;> omega
theorem cut_iff (n q d : Int) : 0 ≤ rsign (-n) q d ↔ ss n ≤ ss q * d := by
  unfold rsign
  rw [sg_nonneg, ss_flip]
  omega
/-- Go's quotient and remainder make the floor -/
theorem floor_of_quot (p m : Int) (hm : 0 < m) : (if p.tmod m < 0 then p.tdiv m - 1 else p.tdiv m) = p / m := by
  by_cases hp : 0 ≤ p
  · rw [if_neg (by have := Int.tmod_nonneg m hp; omega), Int.tdiv_eq_ediv_of_nonneg hp]
  · have e1 := Int.mul_tdiv_add_tmod p m
    have e2 := Int.mul_ediv_add_emod p m
    have h1 := Int.emod_nonneg p (show m ≠ 0 by omega)
    have h2 := Int.emod_lt_of_pos p hm
    have h3 : p.tmod m = -((-p) % m) := by
      rw [← Int.neg_neg p, Int.neg_tmod, Int.tmod_eq_emod_of_nonneg (by omega)]; simp
    have h4 := Int.emod_nonneg (-p) (show m ≠ 0 by omega)
    have h5 := Int.emod_lt_of_pos (-p) hm
    split
    · have : m * (p.tdiv m - 1 - p / m) = p % m - p.tmod m - m := by rw [Int.mul_sub, Int.mul_sub]; omega
      have hlt : p % m - p.tmod m - m < m := by omega
      have hgt : -m < p % m - p.tmod m - m := by omega
      have a : p.tdiv m - 1 - p / m < 1 := by
        apply Int.lt_of_mul_lt_mul_left (a := m) _ (by omega); omega
      have b : -1 < p.tdiv m - 1 - p / m := by
        apply Int.lt_of_mul_lt_mul_left (a := m) _ (by omega); omega
      omega
    · have : m * (p.tdiv m - p / m) = p % m - p.tmod m := by rw [Int.mul_sub]; omega
      have a : p.tdiv m - p / m < 1 := by
        apply Int.lt_of_mul_lt_mul_left (a := m) _ (by omega); omega
      have b : -1 < p.tdiv m - p / m := by
        apply Int.lt_of_mul_lt_mul_left (a := m) _ (by omega); omega
      omega

theorem ediv_bd (x m : Int) (hm : 1 ≤ m) : -mag x ≤ x / m ∧ x / m ≤ mag x ∧ (x < 0 → x / m < 0) := by
  have h0 := mag_nn x
  have h1 : mag x ≤ mag x * m := by
    have := Int.mul_le_mul_of_nonneg_left hm h0
    omega
  refine ⟨?_, ?_, fun h => Int.ediv_neg_of_neg_of_pos h (by omega)⟩
  · apply (Int.le_ediv_iff_mul_le (by omega)).2
    rw [Int.neg_mul]
    unfold mag at *; split at * <;> omega
  · have : x / m < mag x + 1 := by
      apply (Int.ediv_lt_iff_lt_mul (by omega)).2
      rw [Int.add_mul]
      unfold mag at *; split at * <;> omega
    omega
theorem tdiv_bd (x m : Int) (hm : 1 ≤ m) : -mag x ≤ x.tdiv m ∧ x.tdiv m ≤ mag x ∧ (x.tmod m < 0 → -mag x < x.tdiv m) := by
  have h := ediv_bd x m hm
  have hf := floor_of_quot x m (by omega)
  have h0 := mag_nn x
  by_cases c : x.tmod m < 0
  · rw [if_pos c] at hf
    have hx : x < 0 := by
      apply Int.not_le.1
      intro hx
      have := Int.tmod_nonneg m hx
      omega
    have := h.2.2 hx
    omega
  · rw [if_neg c] at hf
    omega

theorem tmod_bd (x m : Int) (hm : 0 < m) : -m < x.tmod m ∧ x.tmod m < m := by
  by_cases h : 0 ≤ x
  · have h1 := Int.tmod_nonneg m h
    have h2 := Int.tmod_lt_of_pos x hm
    omega
  · have h1 := Int.tmod_nonneg m (show 0 ≤ -x by omega)
    have h2 := Int.tmod_lt_of_pos (-x) hm
    rw [Int.neg_tmod] at h1 h2
    omega

theorem mag_mul (x y : Int) : mag (x * y) = mag x * mag y := by
  have hx := mag_nn x
  have hy := mag_nn y
  have h0 : 0 ≤ mag x * mag y := Int.mul_nonneg hx hy
  have e : x * y = mag x * mag y ∨ x * y = -(mag x * mag y) := by
    unfold mag
    split <;> split <;> simp [Int.neg_mul, Int.mul_neg]
  rcases e with e | e
  · rw [e, mag_pos h0]
  · rw [e]
    by_cases z : mag x * mag y = 0
    · rw [z]; rfl
    · rw [mag_neg (by omega), Int.neg_neg]
theorem ss_mul (x y : Int) (hy : 0 ≤ y) : ss x * (y * y) = ss (x * y) := by
  unfold ss
  rw [mag_mul, mag_pos hy, Int.mul_assoc, Int.mul_assoc, ← Int.mul_assoc y, Int.mul_comm y (mag x), Int.mul_assoc (mag x)]
theorem sg_diff (x y : Int) : sg (ss x - ss y) = sg (x - y) := by
  rcases Int.lt_trichotomy x y with h | h | h
  · have := ss_lt h; unfold sg; rw [if_pos (by omega), if_pos (by omega)]
  · subst h; simp
  · have := ss_lt h; unfold sg; rw [if_neg (show ¬ ss x - ss y < 0 by omega), if_neg (show ¬ x - y < 0 by omega), if_pos (show 0 < ss x - ss y by omega), if_pos (show 0 < x - y by omega)]
end Go.Proofs.Ytfmmomdmemcbbaa.Pl

namespace Go.Proofs.Ytfmmomdmemcbbaa
set_option linter.unusedVariables false
open Go.RowKit

theorem root_floor (n : Int) (hn : 0 ≤ n ∧ n ≤ 18446744073709551615) (w : World) :
    Calls Try.prog 30 #[.int .u64 n] w fun e w' => e = .returned (.int .u64 (Pl.root n)) ∧ w = w' := by
  go_enter Try.func30, Try.ntmps30
  go_wp2
  go_loop [3, 6] (fun r i => ∃ k : Nat, k ≤ 32 ∧ i = .int .i64 (k : Int) ∧ r = .int .u64 (Pl.rootTo n k)) (fun _ i => (32 - intOf i).toNat)
  case atStart => exact ⟨0, by omega, rfl, rfl⟩
  case round =>
    obtain ⟨k, hk, rfl, rfl⟩ := hrel
    by_cases hlt : k < 32
    · have hb := Pl.rootTo_bd n hn.1 (by omega) k (by omega)
      have hw := Pl.pow_lt64 (31 - k) (by omega)
      have he : (31 - (k : Int)).toNat = 31 - k := by omega
      have hor : bits .or .u64 (Pl.rootTo n k) (2 ^ (31 - k)) = Pl.rootTo n k + 2 ^ (31 - k) := by
        obtain ⟨R, e, r0, r1, _, _⟩ := Pl.rootTo_spec n hn.1 (by omega) k (by omega)
        have ep : (2 : Int) ^ (32 - k) = 2 * 2 ^ (31 - k) := by rw [show 32 - k = (31 - k) + 1 by omega, Int.pow_succ]; omega
        rw [e] at hb ⊢
        exact Pl.or_shifted_u64 (32 - k) R _ (by omega) (by omega) r0 (by omega)
      have hs : Pl.rootTo n (k + 1) = if (Pl.rootTo n k + 2 ^ (31 - k)) * (Pl.rootTo n k + 2 ^ (31 - k)) ≤ n then Pl.rootTo n k + 2 ^ (31 - k) else Pl.rootTo n k := rfl
      have HS := Lib.hid hs; clear hs
      by_cases c : (Pl.rootTo n k + 2 ^ (31 - k)) * (Pl.rootTo n k + 2 ^ (31 - k)) ≤ n
      · go_wp2
        go_round
        case rel => exact ⟨k + 1, by omega, by go_num, by rw [HS.out, if_pos (by assumption)]⟩
        case measure => simp [intOf] <;> omega
      · go_wp2
        go_round
        case rel => exact ⟨k + 1, by omega, by go_num, by rw [HS.out, if_neg (by omega)]⟩
        case measure => simp [intOf] <;> omega
    · obtain rfl : k = 32 := by omega
      go_wp2
      go_ret
      exact ⟨rfl, rfl⟩

end Go.Proofs.Ytfmmomdmemcbbaa

namespace Go.Proofs.Ytfmmomdmemcbbaa
set_option linter.unusedVariables false
open Go.RowKit

theorem parts_core (a b d P D : Int) (ha : -9223372036854775808 ≤ a ∧ a ≤ 9223372036854775807) (hb : -9223372036854775808 ≤ b ∧ b ≤ 9223372036854775807)
    (hd : -9223372036854775808 ≤ d ∧ d ≤ 9223372036854775807) (HP : Hid (Pl.mag a * Pl.mag b = P)) (HD : Hid (Pl.mag d = D)) (hlt : P / 18446744073709551616 < D) (w : World) :
    Calls Try.prog 44 #[.int .i64 a, .int .i64 b, .int .i64 d] w fun e w' =>
      e = .returned (.tuple #[.int .u64 (P / D), .int .u64 (P % D), .int .u64 D, .bool true]) ∧ Grown w w' := by
  have ma := Pl.mag_nn a
  have mb := Pl.mag_nn b
  have ma' := Pl.mag_le a ha.1 ha.2
  have mb' := Pl.mag_le b hb.1 hb.2
  have hP := Pl.mul_le126 _ _ ma ma' mb mb'
  rw [HP.out] at hP
  have md := Pl.mag_nn d
  have md' := Pl.mag_le d hd.1 hd.2
  rw [HD.out] at md md'
  go_enter Try.func44, Try.ntmps44
  go_wp2_with fail
  refine (size_any a ha _).mono ?_
  rintro e w1 ⟨rfl, rfl⟩
  go_wp2_with fail
  refine (size_any b hb _).mono ?_
  rintro e w1 ⟨rfl, rfl⟩
  go_wp2_with fail
  refine (product_any _ _ (by omega) (by omega) _).mono ?_
  rintro e w1 ⟨rfl, g1⟩
  rw [HP.out]
  go_wp2_with fail
  refine (size_any d hd _).mono ?_
  rintro e w2 ⟨rfl, rfl⟩
  rw [HD.out]
  clear ma mb ma' mb'
  go_wp2
  go_loop [6, 7, 11] (fun q r i => ∃ (j : Nat) (Q R : Int), j ≤ 64 ∧ 0 ≤ Q ∧ 0 ≤ R ∧ R < D ∧ Hid (P / 2 ^ j = Q * D + R) ∧ i = .int .i64 ((j : Int) - 1) ∧ q = .int .u64 (Q * 2 ^ j) ∧ r = .int .u64 R)
    (fun _ _ i => (intOf i + 1).toNat)
  case atStart => exact ⟨64, 0, P / 18446744073709551616, by omega, by omega, by omega, hlt, (by show P / 18446744073709551616 = 0 * D + _; omega), rfl, rfl, rfl⟩
  case round =>
    obtain ⟨j, Q, R, hj, hQ, hR, hRD, HI, rfl, rfl, rfl⟩ := hrel
    by_cases h0 : 1 ≤ j
    · obtain ⟨m, rfl⟩ : ∃ m, j = m + 1 := ⟨j - 1, by omega⟩
      rw [show (((m + 1 : Nat) : Int) - 1) = (m : Int) from by omega]
      have hbit := Pl.bit_step P m (by omega)
      have hb0 : 0 ≤ P % 18446744073709551616 / 2 ^ m % 2 ∧ P % 18446744073709551616 / 2 ^ m % 2 ≤ 1 := by omega
      have hor : bits .or .u64 (R * 2) (P % 18446744073709551616 / 2 ^ m % 2) = R * 2 + P % 18446744073709551616 / 2 ^ m % 2 :=
        Pl.or_shifted_u64 1 R _ (by omega) (by omega) (by omega) (by omega)
      have HB := Lib.hid hbit; clear hbit
      have ht : (R / 9223372036854775808 == 1) = false := by rw [beq_eq_false_iff_ne]; omega
      by_cases hge : D ≤ R * 2 + P % 18446744073709551616 / 2 ^ m % 2
      · have hI : P / 2 ^ m = (2 * Q + 1) * D + (R * 2 + P % 18446744073709551616 / 2 ^ m % 2 - D) := by
          rw [HB.out, HI.out, Int.add_mul, Int.mul_assoc]; omega
        have hQ' := Pl.share_lt P D (2 * Q + 1) _ m (by omega) (by omega) hI (by omega) hlt
        have hp := Pl.pow_lt64 m (by omega)
        have eQ : Q * 2 ^ (m + 1) + 2 ^ m = (2 * Q + 1) * 2 ^ m := by rw [Int.pow_succ, Int.add_mul, Int.mul_comm (2 : Int) Q, Int.mul_assoc, Int.mul_comm (2 ^ m : Int) 2]; omega
        have hqor : bits .or .u64 (Q * 2 ^ (m + 1)) (IntKind.u64.wrap (2 ^ m)) = (2 * Q + 1) * 2 ^ m := by
          have hw : IntKind.u64.wrap (2 ^ m) = 2 ^ m := by rw [IntKind.wrap_u64]; omega
          rw [hw, Pl.or_shifted_u64 (m + 1) Q (2 ^ m) (by omega) (by rw [Int.pow_succ]; omega) hQ (by omega)]
          exact eQ
        have HI' := Lib.hid hI; clear hI eQ hp hQ'
        go_wp2
        go_round
        case rel => exact ⟨m, 2 * Q + 1, _, by omega, by omega, by omega, by omega, HI', rfl, rfl, rfl⟩
        case measure => simp [intOf] <;> omega
      · have hI : P / 2 ^ m = (2 * Q) * D + (R * 2 + P % 18446744073709551616 / 2 ^ m % 2) := by
          rw [HB.out, HI.out, Int.mul_assoc]; omega
        have HI' := Lib.hid hI; clear hI
        have eQ : Q * 2 ^ (m + 1) = 2 * Q * 2 ^ m := by rw [Int.pow_succ, Int.mul_comm (2 : Int) Q, Int.mul_assoc, Int.mul_comm (2 ^ m : Int) 2]
        have EQ := Lib.hid eQ; clear eQ
        go_wp2
        go_round
        case rel => exact ⟨m, 2 * Q, _, by omega, by omega, by omega, by omega, HI', rfl, by rw [EQ.out], rfl⟩
        case measure => simp [intOf] <;> omega
    · obtain rfl : j = 0 := by omega
      have hI := HI.out
      rw [Int.pow_zero, Int.ediv_one] at hI
      have e1 : P / D = Q := by rw [hI, Int.mul_comm, Int.mul_add_ediv_left _ _ (by omega), Int.ediv_eq_zero_of_lt hR hRD]; omega
      have e2 : P % D = R := by rw [hI, Int.mul_comm, Int.mul_add_emod_self_left, Int.emod_eq_of_lt hR hRD]
      have E1 := Lib.hid e1
      have E2 := Lib.hid e2
      clear e1 e2 hI
      go_wp2
      refine bodyPost_ret (v := .tuple #[.int .u64 Q, .int .u64 R, .int .u64 D, .bool true]) (by simp [results, Try.results44, go_sem]) rfl ⟨by rw [E1.out, E2.out], g1⟩

/-- what 'parts' tells of a share that is too great -/
theorem parts_no (a b d P D : Int) (ha : -9223372036854775808 ≤ a ∧ a ≤ 9223372036854775807) (hb : -9223372036854775808 ≤ b ∧ b ≤ 9223372036854775807)
    (hd : -9223372036854775808 ≤ d ∧ d ≤ 9223372036854775807) (HP : Hid (Pl.mag a * Pl.mag b = P)) (HD : Hid (Pl.mag d = D)) (hlt : D ≤ P / 18446744073709551616) (w : World) :
    Calls Try.prog 44 #[.int .i64 a, .int .i64 b, .int .i64 d] w fun e w' =>
      e = .returned (.tuple #[.int .u64 0, .int .u64 0, .int .u64 0, .bool false]) ∧ Grown w w' := by
  have ma := Pl.mag_nn a
  have mb := Pl.mag_nn b
  have ma' := Pl.mag_le a ha.1 ha.2
  have mb' := Pl.mag_le b hb.1 hb.2
  go_enter Try.func44, Try.ntmps44
  go_wp2_with fail
  refine (size_any a ha _).mono ?_
  rintro e w1 ⟨rfl, rfl⟩
  go_wp2_with fail
  refine (size_any b hb _).mono ?_
  rintro e w1 ⟨rfl, rfl⟩
  go_wp2_with fail
  refine (product_any _ _ (by omega) (by omega) _).mono ?_
  rintro e w1 ⟨rfl, g1⟩
  rw [HP.out]
  go_wp2_with fail
  refine (size_any d hd _).mono ?_
  rintro e w2 ⟨rfl, rfl⟩
  rw [HD.out]
  go_wp2
  exact bodyPost_ret (v := .tuple #[.int .u64 0, .int .u64 0, .int .u64 0, .bool false]) (by simp [results, Try.results44, go_sem]) rfl ⟨rfl, g1⟩
end Go.Proofs.Ytfmmomdmemcbbaa

namespace Go.Proofs.Ytfmmomdmemcbbaa
set_option linter.unusedVariables false
open Go.RowKit

theorem more_stay (q : Int) (w : World) :
    Calls Try.prog 45 #[.int .u64 q, .bool false] w fun e w' => e = .returned (.tuple #[.int .u64 q, .bool true]) ∧ w = w' := by
  go_enter Try.func45, Try.ntmps45
  go_wp2
  go_ret2
  exact ⟨rfl, rfl⟩
theorem more_up (q : Int) (h : 0 ≤ q ∧ q < 18446744073709551615) (w : World) :
    Calls Try.prog 45 #[.int .u64 q, .bool true] w fun e w' => e = .returned (.tuple #[.int .u64 (q + 1), .bool true]) ∧ w = w' := by
  have h1 : (q + 1 != 0) = true := by rw [bne_iff_ne]; omega
  go_enter Try.func45, Try.ntmps45
  go_wp2
  go_ret2
  exact ⟨rfl, rfl⟩
theorem more_over (w : World) :
    Calls Try.prog 45 #[.int .u64 18446744073709551615, .bool true] w fun e w' => e = .returned (.tuple #[.int .u64 0, .bool false]) ∧ w = w' := by
  go_enter Try.func45, Try.ntmps45
  go_wp2
  go_ret2
  exact ⟨rfl, rfl⟩

theorem signed_below (q : Int) (h : 0 ≤ q ∧ q ≤ 9223372036854775808) (w : World) :
    Calls Try.prog 46 #[.int .u64 q, .bool true] w fun e w' => e = .returned (.tuple #[.int .i64 (-q), .bool true]) ∧ w = w' := by
  go_enter Try.func46, Try.ntmps46
  go_wp2
  go_ret2
  exact ⟨ret_ib (by simp only [wrap64, IntKind.wrap_u64]; omega) rfl, rfl⟩
theorem signed_above (q : Int) (h : 0 ≤ q ∧ q < 9223372036854775808) (w : World) :
    Calls Try.prog 46 #[.int .u64 q, .bool false] w fun e w' => e = .returned (.tuple #[.int .i64 q, .bool true]) ∧ w = w' := by
  go_enter Try.func46, Try.ntmps46
  go_wp2
  go_ret2
  exact ⟨rfl, rfl⟩
theorem signed_no (q : Int) (s : Bool) (h : if s then 9223372036854775808 < q else 9223372036854775808 ≤ q) (w : World) :
    Calls Try.prog 46 #[.int .u64 q, .bool s] w fun e w' => e = .returned (.tuple #[.int .i64 0, .bool false]) ∧ w = w' := by
  cases s <;> simp only [if_true, Bool.false_eq_true, if_false] at h
  all_goals
    go_enter Try.func46, Try.ntmps46
    go_wp2
    go_ret2
    exact ⟨rfl, rfl⟩
theorem under_any (a b d : Int) (w : World) :
    Calls Try.prog 47 #[.int .i64 a, .int .i64 b, .int .i64 d] w fun e w' => e = .returned (.bool (Pl.sgn3 a b d)) ∧ w = w' := by
  cases sa : decide (a < 0) <;> cases sb : decide (b < 0) <;> cases sd : decide (d < 0)
  all_goals
    have K : Pl.sgn3 a b d = ((decide (a < 0) != decide (b < 0)) != decide (d < 0)) := rfl
    rw [sa, sb, sd] at K
    simp at K
    go_enter Try.func47, Try.ntmps47
    go_wp2
    go_ret
    exact ⟨ret_bool (by rw [K]), rfl⟩
end Go.Proofs.Ytfmmomdmemcbbaa

namespace Go.Proofs.Ytfmmomdmemcbbaa
set_option linter.unusedVariables false
open Go.RowKit

theorem muldiv_no0 (a b d : Int) (ha : Pl.i64 a) (hb : Pl.i64 b) (hd : Pl.i64 d) (h : Pl.mag d ≤ Pl.mag a * Pl.mag b / 18446744073709551616) (w : World) :
    Calls Try.prog 28 #[.int .i64 a, .int .i64 b, .int .i64 d] w fun e w' => e = .returned (.tuple #[.int .i64 0, .bool false]) ∧ Grown w w' := by
  go_enter Try.func28, Try.ntmps28
  go_wp2_with fail
  refine (parts_no a b d _ _ ha hb hd (Lib.hid rfl) (Lib.hid rfl) h _).mono ?_
  rintro e w1 ⟨rfl, g1⟩
  go_wp2
  go_ret2
  exact ⟨rfl, g1⟩

theorem muldiv_core (a b d P D n v : Int) (up s t : Bool) (ha : Pl.i64 a) (hb : Pl.i64 b) (hd : Pl.i64 d) (HP : Hid (Pl.mag a * Pl.mag b = P)) (HD : Hid (Pl.mag d = D)) (hP : 0 ≤ P) (hD : 0 < D) (hD' : D ≤ 9223372036854775808)
    (hlt : P / 18446744073709551616 < D) (hup : Hid (up = decide (D - P % D < P % D ∨ (P % D = D - P % D ∧ P / D % 2 = 1))))
    (hmore : ∀ w, Calls Try.prog 45 #[.int .u64 (P / D), .bool up] w fun e w' => e = .returned (.tuple #[.int .u64 n, .bool s]) ∧ w = w')
    (hsig : s = true → ∀ w, Calls Try.prog 46 #[.int .u64 n, .bool (Pl.sgn3 a b d)] w fun e w' => e = .returned (.tuple #[.int .i64 v, .bool t]) ∧ w = w')
    (hno : s = false → v = 0 ∧ t = false) (w : World) :
    Calls Try.prog 28 #[.int .i64 a, .int .i64 b, .int .i64 d] w fun e w' => e = .returned (.tuple #[.int .i64 v, .bool t]) ∧ Grown w w' := by
  have hr0 := Int.emod_nonneg P (show D ≠ 0 by omega)
  have hr1 := Int.emod_lt_of_pos P hD
  have hq0 : 0 ≤ P / D := Int.ediv_nonneg hP (by omega)
  have hq1 : P / D < 18446744073709551616 := (Int.ediv_lt_iff_lt_mul hD).2 (by omega)
  have HM := Lib.hid hmore; clear hmore
  have HS := Lib.hid hsig; clear hsig
  have HPC := fun w => parts_core a b d P D ha hb hd HP HD hlt w
  have HC := Lib.hid HPC; clear HPC
  generalize P / D = q at *
  generalize P % D = r at *
  clear hlt hP ha hb hd
  have hcase : (up = true ∧ D - r < r) ∨ (up = true ∧ ¬ D - r < r ∧ r = D - r ∧ q % 2 = 1) ∨ (up = false ∧ ¬ D - r < r ∧ r = D - r ∧ ¬ q % 2 = 1) ∨ (up = false ∧ ¬ D - r < r ∧ r ≠ D - r) := by
    have := hup.out
    by_cases c1 : D - r < r
    · simp [c1] at this; simp [this, c1]
    · by_cases c2 : r = D - r
      · by_cases c3 : q % 2 = 1
        · have e : up = true := by rw [this, decide_eq_true_eq]; exact .inr ⟨c2, c3⟩
          exact .inr (.inl ⟨e, c1, c2, c3⟩)
        · have e : up = false := by rw [this, decide_eq_false_iff_not]; rintro (h | h); exact c1 h; exact c3 h.2
          exact .inr (.inr (.inl ⟨e, c1, c2, c3⟩))
      · have e : up = false := by rw [this, decide_eq_false_iff_not]; rintro (h | h); exact c1 h; exact c2 h.1
        exact .inr (.inr (.inr ⟨e, c1, c2⟩))
  clear hup
  cases s
  · obtain ⟨rfl, rfl⟩ := hno rfl
    clear hno
    rcases hcase with ⟨rfl, c1⟩ | ⟨rfl, c1, c2, c3⟩ | ⟨rfl, c1, c2, c3⟩ | ⟨rfl, c1, c2⟩
    case' inl => have c1' : decide (D - r < r) = true := decide_eq_true c1
    case' inr.inl => have c1' : decide (D - r < r) = false := decide_eq_false c1; have c2' : (r == D - r) = true := beq_iff_eq.2 c2; have c3' : (q % 2 == 1) = true := beq_iff_eq.2 c3; clear c2 c3
    case' inr.inr.inl => have c1' : decide (D - r < r) = false := decide_eq_false c1; have c2' : (r == D - r) = true := beq_iff_eq.2 c2; have c3' : (q % 2 == 1) = false := beq_eq_false_iff_ne.2 c3; clear c2 c3
    case' inr.inr.inr => have c1' : decide (D - r < r) = false := decide_eq_false c1; have c2' : (r == D - r) = false := beq_eq_false_iff_ne.2 c2; clear c2
    all_goals
      go_enter Try.func28, Try.ntmps28
      go_wp2_with fail
      refine (HC.out _).mono ?_
      rintro e w1 ⟨rfl, g1⟩
      go_wp2_with fail
      refine (HM.out _).mono ?_
      rintro e w2 ⟨rfl, rfl⟩
      go_wp2
      go_ret2
      exact ⟨ret_ib rfl rfl, g1⟩
  · clear hno
    have HS' := Lib.hid (HS.out rfl); clear HS
    rcases hcase with ⟨rfl, c1⟩ | ⟨rfl, c1, c2, c3⟩ | ⟨rfl, c1, c2, c3⟩ | ⟨rfl, c1, c2⟩
    case' inl => have c1' : decide (D - r < r) = true := decide_eq_true c1
    case' inr.inl => have c1' : decide (D - r < r) = false := decide_eq_false c1; have c2' : (r == D - r) = true := beq_iff_eq.2 c2; have c3' : (q % 2 == 1) = true := beq_iff_eq.2 c3; clear c2 c3
    case' inr.inr.inl => have c1' : decide (D - r < r) = false := decide_eq_false c1; have c2' : (r == D - r) = true := beq_iff_eq.2 c2; have c3' : (q % 2 == 1) = false := beq_eq_false_iff_ne.2 c3; clear c2 c3
    case' inr.inr.inr => have c1' : decide (D - r < r) = false := decide_eq_false c1; have c2' : (r == D - r) = false := beq_eq_false_iff_ne.2 c2; clear c2
    all_goals
      go_enter Try.func28, Try.ntmps28
      go_wp2_with fail
      refine (HC.out _).mono ?_
      rintro e w1 ⟨rfl, g1⟩
      go_wp2_with fail
      refine (HM.out _).mono ?_
      rintro e w2 ⟨rfl, rfl⟩
      go_wp2_with fail
      refine (under_any _ _ _ _).mono ?_
      rintro e w2 ⟨rfl, rfl⟩
      go_wp2_with fail
      refine (HS'.out _).mono ?_
      rintro e w2 ⟨rfl, rfl⟩
      go_wp2
      go_ret2
      exact ⟨ret_ib rfl rfl, g1⟩

theorem muldiv_ok (a b d : Int) (ha : Pl.i64 a) (hb : Pl.i64 b) (hd : Pl.i64 d) (h0 : d ≠ 0) (h : Pl.i64 (Pl.share a b d)) (w : World) :
    Calls Try.prog 28 #[.int .i64 a, .int .i64 b, .int .i64 d] w fun e w' => e = .returned (.tuple #[.int .i64 (Pl.share a b d), .bool true]) ∧ Grown w w' := by
  have hlt := Pl.share_fits a b d ha hb hd h0 h
  have hD := Pl.mag_lt d h0
  have hD' := Pl.mag_le d hd.1 hd.2
  have hP : 0 ≤ Pl.mag a * Pl.mag b := Int.mul_nonneg (Pl.mag_nn a) (Pl.mag_nn b)
  have hq0 : 0 ≤ Pl.mag a * Pl.mag b / Pl.mag d := Int.ediv_nonneg hP (by omega)
  have hs : Pl.share a b d = if Pl.sgn3 a b d = true then -Pl.near (Pl.mag a * Pl.mag b) (Pl.mag d) else Pl.near (Pl.mag a * Pl.mag b) (Pl.mag d) := rfl
  have hb := Pl.near_bd _ _ hP hD
  unfold Pl.i64 at h
  refine muldiv_core a b d _ _ (Pl.near (Pl.mag a * Pl.mag b) (Pl.mag d)) _ (decide (Pl.mag d - Pl.mag a * Pl.mag b % Pl.mag d < Pl.mag a * Pl.mag b % Pl.mag d ∨ (Pl.mag a * Pl.mag b % Pl.mag d = Pl.mag d - Pl.mag a * Pl.mag b % Pl.mag d ∧ Pl.mag a * Pl.mag b / Pl.mag d % 2 = 1))) true true ha (by assumption) hd (Lib.hid rfl) (Lib.hid rfl) hP hD hD' hlt (Lib.hid rfl) ?_ ?_ (fun h => by cases h) w
  · intro w
    unfold Pl.near
    split
    · rename_i hc
      rw [decide_eq_true hc]
      refine more_up _ ⟨hq0, ?_⟩ w
      unfold Pl.near at hb
      rw [if_pos hc] at hb
      have : Pl.near (Pl.mag a * Pl.mag b) (Pl.mag d) = Pl.mag a * Pl.mag b / Pl.mag d + 1 := by unfold Pl.near; rw [if_pos hc]
      split at hs <;> omega
    · rename_i hc
      rw [decide_eq_false hc]
      exact more_stay _ w
  · intro _ w
    cases hg : Pl.sgn3 a b d
    · simp only [hg, Bool.false_eq_true, if_false] at hs
      rw [hs]
      exact signed_above _ (by omega) w
    · simp only [hg, if_true] at hs
      rw [hs]
      exact signed_below _ (by omega) w

theorem muldiv_no (a b d : Int) (ha : Pl.i64 a) (hb : Pl.i64 b) (hd : Pl.i64 d) (h : d = 0 ∨ ¬ Pl.i64 (Pl.share a b d)) (w : World) :
    Calls Try.prog 28 #[.int .i64 a, .int .i64 b, .int .i64 d] w fun e w' => e = .returned (.tuple #[.int .i64 0, .bool false]) ∧ Grown w w' := by
  have hP : 0 ≤ Pl.mag a * Pl.mag b := Int.mul_nonneg (Pl.mag_nn a) (Pl.mag_nn b)
  by_cases h0 : d = 0
  · subst h0
    exact muldiv_no0 a b 0 ha hb hd (by show (0 : Int) ≤ _; omega) w
  · by_cases hlt : Pl.mag a * Pl.mag b / 18446744073709551616 < Pl.mag d
    · have h := h.resolve_left h0
      have hD := Pl.mag_lt d h0
      have hD' := Pl.mag_le d hd.1 hd.2
      have hq0 : 0 ≤ Pl.mag a * Pl.mag b / Pl.mag d := Int.ediv_nonneg hP (by omega)
      have hq1 : Pl.mag a * Pl.mag b / Pl.mag d < 18446744073709551616 := (Int.ediv_lt_iff_lt_mul hD).2 (by omega)
      have hs : Pl.share a b d = if Pl.sgn3 a b d = true then -Pl.near (Pl.mag a * Pl.mag b) (Pl.mag d) else Pl.near (Pl.mag a * Pl.mag b) (Pl.mag d) := rfl
      have hnb := Pl.near_bd _ _ hP hD
      unfold Pl.i64 at h
      have hup : Hid (decide (Pl.mag d - Pl.mag a * Pl.mag b % Pl.mag d < Pl.mag a * Pl.mag b % Pl.mag d ∨ (Pl.mag a * Pl.mag b % Pl.mag d = Pl.mag d - Pl.mag a * Pl.mag b % Pl.mag d ∧ Pl.mag a * Pl.mag b / Pl.mag d % 2 = 1)) = decide (Pl.mag d - Pl.mag a * Pl.mag b % Pl.mag d < Pl.mag a * Pl.mag b % Pl.mag d ∨ (Pl.mag a * Pl.mag b % Pl.mag d = Pl.mag d - Pl.mag a * Pl.mag b % Pl.mag d ∧ Pl.mag a * Pl.mag b / Pl.mag d % 2 = 1))) := Lib.hid rfl
      by_cases hc : Pl.mag d - Pl.mag a * Pl.mag b % Pl.mag d < Pl.mag a * Pl.mag b % Pl.mag d ∨ (Pl.mag a * Pl.mag b % Pl.mag d = Pl.mag d - Pl.mag a * Pl.mag b % Pl.mag d ∧ Pl.mag a * Pl.mag b / Pl.mag d % 2 = 1)
      · have hn : Pl.near (Pl.mag a * Pl.mag b) (Pl.mag d) = Pl.mag a * Pl.mag b / Pl.mag d + 1 := by unfold Pl.near; rw [if_pos hc]
        by_cases hov : Pl.mag a * Pl.mag b / Pl.mag d = 18446744073709551615
        · refine muldiv_core a b d _ _ 0 _ _ false false ha hb hd (Lib.hid rfl) (Lib.hid rfl) hP hD hD' hlt hup ?_ (fun h => by cases h) (fun _ => ⟨rfl, rfl⟩) w
          intro w
          rw [decide_eq_true hc, hov]
          exact more_over w
        · refine muldiv_core a b d _ _ (Pl.mag a * Pl.mag b / Pl.mag d + 1) _ _ true false ha hb hd (Lib.hid rfl) (Lib.hid rfl) hP hD hD' hlt hup ?_ ?_ (fun h => by cases h) w
          · intro w
            rw [decide_eq_true hc]
            exact more_up _ ⟨hq0, by omega⟩ w
          · intro _ w
            refine signed_no _ _ ?_ w
            cases hg : Pl.sgn3 a b d <;> simp only [hg, Bool.false_eq_true, if_false, if_true] at hs ⊢ <;> omega
      · have hn : Pl.near (Pl.mag a * Pl.mag b) (Pl.mag d) = Pl.mag a * Pl.mag b / Pl.mag d := by unfold Pl.near; rw [if_neg hc]
        refine muldiv_core a b d _ _ (Pl.mag a * Pl.mag b / Pl.mag d) _ _ true false ha hb hd (Lib.hid rfl) (Lib.hid rfl) hP hD hD' hlt hup ?_ ?_ (fun h => by cases h) w
        · intro w
          rw [decide_eq_false hc]
          exact more_stay _ w
        · intro _ w
          refine signed_no _ _ ?_ w
          cases hg : Pl.sgn3 a b d <;> simp only [hg, Bool.false_eq_true, if_false, if_true] at hs ⊢ <;> omega
    · exact muldiv_no0 a b d ha hb hd (by omega) w
end Go.Proofs.Ytfmmomdmemcbbaa

namespace Go.Proofs.Ytfmmomdmemcbbaa
set_option linter.unusedVariables false
open Go.RowKit

theorem fmay_yes (a : Int) (h : Pl.fx a) (w : World) : Calls Try.prog 29 #[.int .i64 a] w fun e w' => e = .returned (.bool true) ∧ w = w' := by
  obtain ⟨h1, h2⟩ := h
  go_enter Try.func29, Try.ntmps29
  go_wp2
  go_ret
  exact ⟨ret_bool (by first | rfl | (rw [decide_eq_true_eq]; omega)), rfl⟩
theorem fmay_no (a : Int) (h : ¬ Pl.fx a) (w : World) : Calls Try.prog 29 #[.int .i64 a] w fun e w' => e = .returned (.bool false) ∧ w = w' := by
  have hc : a < -1073741823 ∨ (-1073741823 ≤ a ∧ 1073741823 < a) := by unfold Pl.fx at h; omega
  clear h
  rcases hc with h1 | ⟨h1, h2⟩
  all_goals
    go_enter Try.func29, Try.ntmps29
    go_wp2
    go_ret
    exact ⟨ret_bool (by first | rfl | (rw [decide_eq_false_iff_not]; omega)), rfl⟩

/-- one of the two is no fix -/
theorem told_no (a b : Int) (f : Value) (h : ¬ (Pl.fx a ∧ Pl.fx b)) (w : World) :
    Calls Try.prog 73 #[.int .i64 a, .int .i64 b, f] w fun e w' => e = .returned (.tuple #[.int .i64 0, .bool false]) ∧ Grown w w' := by
  by_cases ha : Pl.fx a
  · have hb : ¬ Pl.fx b := fun hb => h ⟨ha, hb⟩
    go_enter Try.func73, Try.ntmps73
    go_wp2_with fail
    refine (fmay_yes a ha _).mono ?_
    rintro e w1 ⟨rfl, rfl⟩
    go_wp2_with fail
    refine (fmay_no b hb _).mono ?_
    rintro e w1 ⟨rfl, rfl⟩
    go_wp2_with fail
    go_ret2
    exact ⟨rfl, Grown.refl _⟩
  · go_enter Try.func73, Try.ntmps73
    go_wp2_with fail
    refine (fmay_no a ha _).mono ?_
    rintro e w1 ⟨rfl, rfl⟩
    go_wp2_with fail
    go_ret2
    exact ⟨rfl, Grown.refl _⟩
theorem told_yes_add (a b c : Int) (ha : Pl.fx a) (hb : Pl.fx b) (hc : Pl.fx c)
    (hF : ∀ w, Calls Try.prog 85 #[.int .i64 a, .int .i64 b] w fun e w' => e = .returned (.tuple #[.int .i64 c, .bool true]) ∧ Grown w w') (w : World) :
    Calls Try.prog 73 #[.int .i64 a, .int .i64 b, .func (.func 85) #[] #[]] w fun e w' => e = .returned (.tuple #[.int .i64 c, .bool true]) ∧ Grown w w' := by
  have HF := Lib.hid hF; clear hF
  go_enter Try.func73, Try.ntmps73
  go_wp2_with fail
  refine (fmay_yes a ha _).mono ?_
  rintro e w1 ⟨rfl, rfl⟩
  go_wp2_with fail
  refine (fmay_yes b hb _).mono ?_
  rintro e w1 ⟨rfl, rfl⟩
  go_wp2_with fail
  refine (HF.out _).mono ?_
  rintro e w2 ⟨rfl, g2⟩
  go_wp2_with fail
  refine (fmay_yes c hc _).mono ?_
  rintro e w1 ⟨rfl, rfl⟩
  go_wp2_with fail
  go_ret2
  exact ⟨rfl, g2⟩
/-- what is reckoned is none -/
theorem told_fail_add (a b c : Int) (ok : Bool) (ha : Pl.fx a) (hb : Pl.fx b) (hc : ok = true → ¬ Pl.fx c)
    (hF : ∀ w, Calls Try.prog 85 #[.int .i64 a, .int .i64 b] w fun e w' => e = .returned (.tuple #[.int .i64 c, .bool ok]) ∧ Grown w w') (w : World) :
    Calls Try.prog 73 #[.int .i64 a, .int .i64 b, .func (.func 85) #[] #[]] w fun e w' => e = .returned (.tuple #[.int .i64 0, .bool false]) ∧ Grown w w' := by
  have HF := Lib.hid hF; clear hF
  cases ok
  · clear hc
    go_enter Try.func73, Try.ntmps73
    go_wp2_with fail
    refine (fmay_yes a ha _).mono ?_
    rintro e w1 ⟨rfl, rfl⟩
    go_wp2_with fail
    refine (fmay_yes b hb _).mono ?_
    rintro e w1 ⟨rfl, rfl⟩
    go_wp2_with fail
    refine (HF.out _).mono ?_
    rintro e w2 ⟨rfl, g2⟩
    go_wp2_with fail
    go_ret2
    exact ⟨rfl, g2⟩
  · have hn := hc rfl
    clear hc
    go_enter Try.func73, Try.ntmps73
    go_wp2_with fail
    refine (fmay_yes a ha _).mono ?_
    rintro e w1 ⟨rfl, rfl⟩
    go_wp2_with fail
    refine (fmay_yes b hb _).mono ?_
    rintro e w1 ⟨rfl, rfl⟩
    go_wp2_with fail
    refine (HF.out _).mono ?_
    rintro e w2 ⟨rfl, g2⟩
    go_wp2_with fail
    refine (fmay_no c hn _).mono ?_
    rintro e w1 ⟨rfl, rfl⟩
    go_wp2_with fail
    go_ret2
    exact ⟨rfl, g2⟩

theorem told_yes_sub (a b c : Int) (ha : Pl.fx a) (hb : Pl.fx b) (hc : Pl.fx c)
    (hF : ∀ w, Calls Try.prog 86 #[.int .i64 a, .int .i64 b] w fun e w' => e = .returned (.tuple #[.int .i64 c, .bool true]) ∧ Grown w w') (w : World) :
    Calls Try.prog 73 #[.int .i64 a, .int .i64 b, .func (.func 86) #[] #[]] w fun e w' => e = .returned (.tuple #[.int .i64 c, .bool true]) ∧ Grown w w' := by
  have HF := Lib.hid hF; clear hF
  go_enter Try.func73, Try.ntmps73
  go_wp2_with fail
  refine (fmay_yes a ha _).mono ?_
  rintro e w1 ⟨rfl, rfl⟩
  go_wp2_with fail
  refine (fmay_yes b hb _).mono ?_
  rintro e w1 ⟨rfl, rfl⟩
  go_wp2_with fail
  refine (HF.out _).mono ?_
  rintro e w2 ⟨rfl, g2⟩
  go_wp2_with fail
  refine (fmay_yes c hc _).mono ?_
  rintro e w1 ⟨rfl, rfl⟩
  go_wp2_with fail
  go_ret2
  exact ⟨rfl, g2⟩
/-- what is reckoned is none -/
theorem told_fail_sub (a b c : Int) (ok : Bool) (ha : Pl.fx a) (hb : Pl.fx b) (hc : ok = true → ¬ Pl.fx c)
    (hF : ∀ w, Calls Try.prog 86 #[.int .i64 a, .int .i64 b] w fun e w' => e = .returned (.tuple #[.int .i64 c, .bool ok]) ∧ Grown w w') (w : World) :
    Calls Try.prog 73 #[.int .i64 a, .int .i64 b, .func (.func 86) #[] #[]] w fun e w' => e = .returned (.tuple #[.int .i64 0, .bool false]) ∧ Grown w w' := by
  have HF := Lib.hid hF; clear hF
  cases ok
  · clear hc
    go_enter Try.func73, Try.ntmps73
    go_wp2_with fail
    refine (fmay_yes a ha _).mono ?_
    rintro e w1 ⟨rfl, rfl⟩
    go_wp2_with fail
    refine (fmay_yes b hb _).mono ?_
    rintro e w1 ⟨rfl, rfl⟩
    go_wp2_with fail
    refine (HF.out _).mono ?_
    rintro e w2 ⟨rfl, g2⟩
    go_wp2_with fail
    go_ret2
    exact ⟨rfl, g2⟩
  · have hn := hc rfl
    clear hc
    go_enter Try.func73, Try.ntmps73
    go_wp2_with fail
    refine (fmay_yes a ha _).mono ?_
    rintro e w1 ⟨rfl, rfl⟩
    go_wp2_with fail
    refine (fmay_yes b hb _).mono ?_
    rintro e w1 ⟨rfl, rfl⟩
    go_wp2_with fail
    refine (HF.out _).mono ?_
    rintro e w2 ⟨rfl, g2⟩
    go_wp2_with fail
    refine (fmay_no c hn _).mono ?_
    rintro e w1 ⟨rfl, rfl⟩
    go_wp2_with fail
    go_ret2
    exact ⟨rfl, g2⟩

theorem told_yes_mul (a b c : Int) (ha : Pl.fx a) (hb : Pl.fx b) (hc : Pl.fx c)
    (hF : ∀ w, Calls Try.prog 74 #[.int .i64 a, .int .i64 b] w fun e w' => e = .returned (.tuple #[.int .i64 c, .bool true]) ∧ Grown w w') (w : World) :
    Calls Try.prog 73 #[.int .i64 a, .int .i64 b, .func (.func 74) #[] #[]] w fun e w' => e = .returned (.tuple #[.int .i64 c, .bool true]) ∧ Grown w w' := by
  have HF := Lib.hid hF; clear hF
  go_enter Try.func73, Try.ntmps73
  go_wp2_with fail
  refine (fmay_yes a ha _).mono ?_
  rintro e w1 ⟨rfl, rfl⟩
  go_wp2_with fail
  refine (fmay_yes b hb _).mono ?_
  rintro e w1 ⟨rfl, rfl⟩
  go_wp2_with fail
  refine (HF.out _).mono ?_
  rintro e w2 ⟨rfl, g2⟩
  go_wp2_with fail
  refine (fmay_yes c hc _).mono ?_
  rintro e w1 ⟨rfl, rfl⟩
  go_wp2_with fail
  go_ret2
  exact ⟨rfl, g2⟩
/-- what is reckoned is none -/
theorem told_fail_mul (a b c : Int) (ok : Bool) (ha : Pl.fx a) (hb : Pl.fx b) (hc : ok = true → ¬ Pl.fx c)
    (hF : ∀ w, Calls Try.prog 74 #[.int .i64 a, .int .i64 b] w fun e w' => e = .returned (.tuple #[.int .i64 c, .bool ok]) ∧ Grown w w') (w : World) :
    Calls Try.prog 73 #[.int .i64 a, .int .i64 b, .func (.func 74) #[] #[]] w fun e w' => e = .returned (.tuple #[.int .i64 0, .bool false]) ∧ Grown w w' := by
  have HF := Lib.hid hF; clear hF
  cases ok
  · clear hc
    go_enter Try.func73, Try.ntmps73
    go_wp2_with fail
    refine (fmay_yes a ha _).mono ?_
    rintro e w1 ⟨rfl, rfl⟩
    go_wp2_with fail
    refine (fmay_yes b hb _).mono ?_
    rintro e w1 ⟨rfl, rfl⟩
    go_wp2_with fail
    refine (HF.out _).mono ?_
    rintro e w2 ⟨rfl, g2⟩
    go_wp2_with fail
    go_ret2
    exact ⟨rfl, g2⟩
  · have hn := hc rfl
    clear hc
    go_enter Try.func73, Try.ntmps73
    go_wp2_with fail
    refine (fmay_yes a ha _).mono ?_
    rintro e w1 ⟨rfl, rfl⟩
    go_wp2_with fail
    refine (fmay_yes b hb _).mono ?_
    rintro e w1 ⟨rfl, rfl⟩
    go_wp2_with fail
    refine (HF.out _).mono ?_
    rintro e w2 ⟨rfl, g2⟩
    go_wp2_with fail
    refine (fmay_no c hn _).mono ?_
    rintro e w1 ⟨rfl, rfl⟩
    go_wp2_with fail
    go_ret2
    exact ⟨rfl, g2⟩

theorem told_yes_div (a b c : Int) (ha : Pl.fx a) (hb : Pl.fx b) (hc : Pl.fx c)
    (hF : ∀ w, Calls Try.prog 87 #[.int .i64 a, .int .i64 b] w fun e w' => e = .returned (.tuple #[.int .i64 c, .bool true]) ∧ Grown w w') (w : World) :
    Calls Try.prog 73 #[.int .i64 a, .int .i64 b, .func (.func 87) #[] #[]] w fun e w' => e = .returned (.tuple #[.int .i64 c, .bool true]) ∧ Grown w w' := by
  have HF := Lib.hid hF; clear hF
  go_enter Try.func73, Try.ntmps73
  go_wp2_with fail
  refine (fmay_yes a ha _).mono ?_
  rintro e w1 ⟨rfl, rfl⟩
  go_wp2_with fail
  refine (fmay_yes b hb _).mono ?_
  rintro e w1 ⟨rfl, rfl⟩
  go_wp2_with fail
  refine (HF.out _).mono ?_
  rintro e w2 ⟨rfl, g2⟩
  go_wp2_with fail
  refine (fmay_yes c hc _).mono ?_
  rintro e w1 ⟨rfl, rfl⟩
  go_wp2_with fail
  go_ret2
  exact ⟨rfl, g2⟩
/-- what is reckoned is none -/
theorem told_fail_div (a b c : Int) (ok : Bool) (ha : Pl.fx a) (hb : Pl.fx b) (hc : ok = true → ¬ Pl.fx c)
    (hF : ∀ w, Calls Try.prog 87 #[.int .i64 a, .int .i64 b] w fun e w' => e = .returned (.tuple #[.int .i64 c, .bool ok]) ∧ Grown w w') (w : World) :
    Calls Try.prog 73 #[.int .i64 a, .int .i64 b, .func (.func 87) #[] #[]] w fun e w' => e = .returned (.tuple #[.int .i64 0, .bool false]) ∧ Grown w w' := by
  have HF := Lib.hid hF; clear hF
  cases ok
  · clear hc
    go_enter Try.func73, Try.ntmps73
    go_wp2_with fail
    refine (fmay_yes a ha _).mono ?_
    rintro e w1 ⟨rfl, rfl⟩
    go_wp2_with fail
    refine (fmay_yes b hb _).mono ?_
    rintro e w1 ⟨rfl, rfl⟩
    go_wp2_with fail
    refine (HF.out _).mono ?_
    rintro e w2 ⟨rfl, g2⟩
    go_wp2_with fail
    go_ret2
    exact ⟨rfl, g2⟩
  · have hn := hc rfl
    clear hc
    go_enter Try.func73, Try.ntmps73
    go_wp2_with fail
    refine (fmay_yes a ha _).mono ?_
    rintro e w1 ⟨rfl, rfl⟩
    go_wp2_with fail
    refine (fmay_yes b hb _).mono ?_
    rintro e w1 ⟨rfl, rfl⟩
    go_wp2_with fail
    refine (HF.out _).mono ?_
    rintro e w2 ⟨rfl, g2⟩
    go_wp2_with fail
    refine (fmay_no c hn _).mono ?_
    rintro e w1 ⟨rfl, rfl⟩
    go_wp2_with fail
    go_ret2
    exact ⟨rfl, g2⟩

theorem add1_any (a b : Int) (ha : Pl.fx a) (hb : Pl.fx b) (w : World) :
    Calls Try.prog 85 #[.int .i64 a, .int .i64 b] w fun e w' => e = .returned (.tuple #[.int .i64 (a + b), .bool true]) ∧ Grown w w' := by
  obtain ⟨h1, h2⟩ := ha
  obtain ⟨h3, h4⟩ := hb
  go_enter Try.func85, Try.ntmps85
  go_wp2
  go_ret2
  exact ⟨rfl, Grown.refl _⟩
theorem sub1_any (a b : Int) (ha : Pl.fx a) (hb : Pl.fx b) (w : World) :
    Calls Try.prog 86 #[.int .i64 a, .int .i64 b] w fun e w' => e = .returned (.tuple #[.int .i64 (a - b), .bool true]) ∧ Grown w w' := by
  obtain ⟨h1, h2⟩ := ha
  obtain ⟨h3, h4⟩ := hb
  go_enter Try.func86, Try.ntmps86
  go_wp2
  go_ret2
  exact ⟨rfl, Grown.refl _⟩
theorem mul1_any (a b c : Int) (ok : Bool) (h : ∀ w, Calls Try.prog 28 #[.int .i64 a, .int .i64 b, .int .i64 65536] w fun e w' => e = .returned (.tuple #[.int .i64 c, .bool ok]) ∧ Grown w w') (w : World) :
    Calls Try.prog 74 #[.int .i64 a, .int .i64 b] w fun e w' => e = .returned (.tuple #[.int .i64 c, .bool ok]) ∧ Grown w w' := by
  have H := Lib.hid h; clear h
  go_enter Try.func74, Try.ntmps74
  go_wp2_with fail
  refine (H.out _).mono ?_
  rintro e w1 ⟨rfl, g1⟩
  go_wp2
  go_ret2
  exact ⟨rfl, g1⟩
theorem div1_any (a b c : Int) (ok : Bool) (h : ∀ w, Calls Try.prog 28 #[.int .i64 a, .int .i64 65536, .int .i64 b] w fun e w' => e = .returned (.tuple #[.int .i64 c, .bool ok]) ∧ Grown w w') (w : World) :
    Calls Try.prog 87 #[.int .i64 a, .int .i64 b] w fun e w' => e = .returned (.tuple #[.int .i64 c, .bool ok]) ∧ Grown w w' := by
  have H := Lib.hid h; clear h
  go_enter Try.func87, Try.ntmps87
  go_wp2_with fail
  refine (H.out _).mono ?_
  rintro e w1 ⟨rfl, g1⟩
  go_wp2
  go_ret2
  exact ⟨rfl, g1⟩

theorem fadd_by (a b c : Int) (ok : Bool) (h : ∀ w, Calls Try.prog 73 #[.int .i64 a, .int .i64 b, .func (.func 85) #[] #[]] w fun e w' => e = .returned (.tuple #[.int .i64 c, .bool ok]) ∧ Grown w w') (w : World) :
    Calls Try.prog 78 #[.int .i64 a, .int .i64 b] w fun e w' => e = .returned (.tuple #[.int .i64 c, .bool ok]) ∧ Grown w w' := by
  have H := Lib.hid h; clear h
  go_enter Try.func78, Try.ntmps78
  go_wp2_with fail
  refine (H.out _).mono ?_
  rintro e w1 ⟨rfl, g1⟩
  go_wp2
  go_ret2
  exact ⟨rfl, g1⟩

theorem fsub_by (a b c : Int) (ok : Bool) (h : ∀ w, Calls Try.prog 73 #[.int .i64 a, .int .i64 b, .func (.func 86) #[] #[]] w fun e w' => e = .returned (.tuple #[.int .i64 c, .bool ok]) ∧ Grown w w') (w : World) :
    Calls Try.prog 79 #[.int .i64 a, .int .i64 b] w fun e w' => e = .returned (.tuple #[.int .i64 c, .bool ok]) ∧ Grown w w' := by
  have H := Lib.hid h; clear h
  go_enter Try.func79, Try.ntmps79
  go_wp2_with fail
  refine (H.out _).mono ?_
  rintro e w1 ⟨rfl, g1⟩
  go_wp2
  go_ret2
  exact ⟨rfl, g1⟩

theorem fmul_by (a b c : Int) (ok : Bool) (h : ∀ w, Calls Try.prog 73 #[.int .i64 a, .int .i64 b, .func (.func 74) #[] #[]] w fun e w' => e = .returned (.tuple #[.int .i64 c, .bool ok]) ∧ Grown w w') (w : World) :
    Calls Try.prog 43 #[.int .i64 a, .int .i64 b] w fun e w' => e = .returned (.tuple #[.int .i64 c, .bool ok]) ∧ Grown w w' := by
  have H := Lib.hid h; clear h
  go_enter Try.func43, Try.ntmps43
  go_wp2_with fail
  refine (H.out _).mono ?_
  rintro e w1 ⟨rfl, g1⟩
  go_wp2
  go_ret2
  exact ⟨rfl, g1⟩

theorem fdiv_by (a b c : Int) (ok : Bool) (h : ∀ w, Calls Try.prog 73 #[.int .i64 a, .int .i64 b, .func (.func 87) #[] #[]] w fun e w' => e = .returned (.tuple #[.int .i64 c, .bool ok]) ∧ Grown w w') (w : World) :
    Calls Try.prog 80 #[.int .i64 a, .int .i64 b] w fun e w' => e = .returned (.tuple #[.int .i64 c, .bool ok]) ∧ Grown w w' := by
  have H := Lib.hid h; clear h
  go_enter Try.func80, Try.ntmps80
  go_wp2_with fail
  refine (H.out _).mono ?_
  rintro e w1 ⟨rfl, g1⟩
  go_wp2
  go_ret2
  exact ⟨rfl, g1⟩

theorem fadd_ok (a b : Int) (ha : Pl.fx a) (hb : Pl.fx b) (hc : Pl.fx (a + b)) (w : World) :
    Calls Try.prog 78 #[.int .i64 a, .int .i64 b] w fun e w' => e = .returned (.tuple #[.int .i64 (a + b), .bool true]) ∧ Grown w w' :=
  fadd_by a b _ true (told_yes_add a b _ ha hb hc (add1_any a b ha hb)) w
theorem fadd_no (a b : Int) (h : ¬ (Pl.fx a ∧ Pl.fx b ∧ Pl.fx (a + b))) (w : World) :
    Calls Try.prog 78 #[.int .i64 a, .int .i64 b] w fun e w' => e = .returned (.tuple #[.int .i64 0, .bool false]) ∧ Grown w w' := by
  by_cases hab : Pl.fx a ∧ Pl.fx b
  · exact fadd_by a b 0 false (told_fail_add a b _ true hab.1 hab.2 (fun _ hc => h ⟨hab.1, hab.2, hc⟩) (add1_any a b hab.1 hab.2)) w
  · exact fadd_by a b 0 false (told_no a b _ hab) w

theorem fsub_ok (a b : Int) (ha : Pl.fx a) (hb : Pl.fx b) (hc : Pl.fx (a - b)) (w : World) :
    Calls Try.prog 79 #[.int .i64 a, .int .i64 b] w fun e w' => e = .returned (.tuple #[.int .i64 (a - b), .bool true]) ∧ Grown w w' :=
  fsub_by a b _ true (told_yes_sub a b _ ha hb hc (sub1_any a b ha hb)) w
theorem fsub_no (a b : Int) (h : ¬ (Pl.fx a ∧ Pl.fx b ∧ Pl.fx (a - b))) (w : World) :
    Calls Try.prog 79 #[.int .i64 a, .int .i64 b] w fun e w' => e = .returned (.tuple #[.int .i64 0, .bool false]) ∧ Grown w w' := by
  by_cases hab : Pl.fx a ∧ Pl.fx b
  · exact fsub_by a b 0 false (told_fail_sub a b _ true hab.1 hab.2 (fun _ hc => h ⟨hab.1, hab.2, hc⟩) (sub1_any a b hab.1 hab.2)) w
  · exact fsub_by a b 0 false (told_no a b _ hab) w

theorem fx_i64 {a : Int} (h : Pl.fx a) : Pl.i64 a := by unfold Pl.fx at h; unfold Pl.i64; omega
theorem fmul_ok (a b : Int) (ha : Pl.fx a) (hb : Pl.fx b) (hc : Pl.fx (Pl.share a b 65536)) (w : World) :
    Calls Try.prog 43 #[.int .i64 a, .int .i64 b] w fun e w' => e = .returned (.tuple #[.int .i64 (Pl.share a b 65536), .bool true]) ∧ Grown w w' :=
  fmul_by a b _ true (told_yes_mul a b _ ha hb hc (mul1_any a b _ true (muldiv_ok a b 65536 (fx_i64 ha) (fx_i64 hb) (by decide) (by decide) (fx_i64 hc)))) w
theorem fmul_no (a b : Int) (h : ¬ (Pl.fx a ∧ Pl.fx b ∧ Pl.fx (Pl.share a b 65536))) (w : World) :
    Calls Try.prog 43 #[.int .i64 a, .int .i64 b] w fun e w' => e = .returned (.tuple #[.int .i64 0, .bool false]) ∧ Grown w w' := by
  by_cases hab : Pl.fx a ∧ Pl.fx b
  · by_cases hi : Pl.i64 (Pl.share a b 65536)
    · exact fmul_by a b 0 false (told_fail_mul a b _ true hab.1 hab.2 (fun _ hc => h ⟨hab.1, hab.2, hc⟩) (mul1_any a b _ true (muldiv_ok a b 65536 (fx_i64 hab.1) (fx_i64 hab.2) (by decide) (by decide) hi))) w
    · exact fmul_by a b 0 false (told_fail_mul a b _ false hab.1 hab.2 (fun h => by cases h) (mul1_any a b _ false (muldiv_no a b 65536 (fx_i64 hab.1) (fx_i64 hab.2) (by decide) (.inr hi)))) w
  · exact fmul_by a b 0 false (told_no a b _ hab) w
theorem fdiv_ok (a b : Int) (ha : Pl.fx a) (hb : Pl.fx b) (h0 : b ≠ 0) (hc : Pl.fx (Pl.share a 65536 b)) (w : World) :
    Calls Try.prog 80 #[.int .i64 a, .int .i64 b] w fun e w' => e = .returned (.tuple #[.int .i64 (Pl.share a 65536 b), .bool true]) ∧ Grown w w' :=
  fdiv_by a b _ true (told_yes_div a b _ ha hb hc (div1_any a b _ true (muldiv_ok a 65536 b (fx_i64 ha) (by decide) (fx_i64 hb) h0 (fx_i64 hc)))) w
theorem fdiv_no (a b : Int) (h : ¬ (Pl.fx a ∧ Pl.fx b ∧ b ≠ 0 ∧ Pl.fx (Pl.share a 65536 b))) (w : World) :
    Calls Try.prog 80 #[.int .i64 a, .int .i64 b] w fun e w' => e = .returned (.tuple #[.int .i64 0, .bool false]) ∧ Grown w w' := by
  by_cases hab : Pl.fx a ∧ Pl.fx b
  · by_cases hi : b ≠ 0 ∧ Pl.i64 (Pl.share a 65536 b)
    · exact fdiv_by a b 0 false (told_fail_div a b _ true hab.1 hab.2 (fun _ hc => h ⟨hab.1, hab.2, hi.1, hc⟩) (div1_any a b _ true (muldiv_ok a 65536 b (fx_i64 hab.1) (by decide) (fx_i64 hab.2) hi.1 hi.2))) w
    · refine fdiv_by a b 0 false (told_fail_div a b _ false hab.1 hab.2 (fun h => by cases h) (div1_any a b _ false (muldiv_no a 65536 b (fx_i64 hab.1) (by decide) (fx_i64 hab.2) ?_))) w
      by_cases h0 : b = 0
      · exact .inl h0
      · exact .inr (fun h => hi ⟨h0, h⟩)
  · exact fdiv_by a b 0 false (told_no a b _ hab) w
end Go.Proofs.Ytfmmomdmemcbbaa

namespace Go.Proofs.Ytfmmomdmemcbbaa.Pl
set_option linter.unusedVariables false
open Go

/-- the bit 65536 of a number -/
theorem and_65536_i64 (x : Int) : bits .and .i64 x 65536 = x / 65536 % 2 * 65536 := by
  have h1 := toNat_ofInt64 x
  show IntKind.i64.wrap ((BitVec.ofInt 64 x &&& BitVec.ofInt 64 65536).toNat : Int) = _
  have e : (BitVec.ofInt 64 65536).toNat = 2 ^ 16 := by decide
  rw [BitVec.toNat_and, e]
  have h2 := nat_bit 16 (BitVec.ofInt 64 x).toNat
  rw [h2, IntKind.wrap_i64]
  have h3 : (2 : Nat) ^ 16 = 65536 := by decide
  rw [h3]
  generalize (BitVec.ofInt 64 x).toNat = N at *
  have : ((N / 65536 % 2 * 65536 : Nat) : Int) = (N : Int) / 65536 % 2 * 65536 := by omega
  rw [this, h1]
  omega

attribute [go_sem] and_65536_i64
end Go.Proofs.Ytfmmomdmemcbbaa.Pl

namespace Go.Proofs.Ytfmmomdmemcbbaa
set_option linter.unusedVariables false
open Go.RowKit

theorem ffrom_ok (v : Int) (h : -16383 ≤ v ∧ v ≤ 16383) (w : World) :
    Calls Try.prog 83 #[.int .i64 v] w fun e w' => e = .returned (.tuple #[.int .i64 (v * 65536), .bool true]) ∧ w = w' := by
  go_enter Try.func83, Try.ntmps83
  go_wp2
  go_ret2
  exact ⟨rfl, rfl⟩
theorem ffrom_no (v : Int) (h : ¬ (-16383 ≤ v ∧ v ≤ 16383)) (w : World) :
    Calls Try.prog 83 #[.int .i64 v] w fun e w' => e = .returned (.tuple #[.int .i64 0, .bool false]) ∧ w = w' := by
  have hc : v < -16383 ∨ (-16383 ≤ v ∧ 16383 < v) := by omega
  clear h
  rcases hc with h1 | ⟨h1, h2⟩
  all_goals
    go_enter Try.func83, Try.ntmps83
    go_wp2
    go_ret2
    exact ⟨rfl, rfl⟩

theorem fnear_any (a : Int) (w : World) : Calls Try.prog 81 #[.int .i64 a] w fun e w' => e = .returned (.int .i64 (Pl.clamp a)) ∧ w = w' := by
  have hc : (a < -1073741823 ∧ Hid (Pl.clamp a = -1073741823)) ∨ (1073741823 < a ∧ Hid (Pl.clamp a = 1073741823)) ∨ (-1073741823 ≤ a ∧ a ≤ 1073741823 ∧ Hid (Pl.clamp a = a)) := by
    by_cases h1 : a < -1073741823
    · exact .inl ⟨h1, Lib.hid (by unfold Pl.clamp; rw [if_pos h1])⟩
    · by_cases h2 : 1073741823 < a
      · exact .inr (.inl ⟨h2, Lib.hid (by unfold Pl.clamp; rw [if_neg h1, if_pos h2])⟩)
      · exact .inr (.inr ⟨by omega, by omega, Lib.hid (by unfold Pl.clamp; rw [if_neg h1, if_neg h2])⟩)
  rcases hc with ⟨h1, h2⟩ | ⟨h1, h2⟩ | ⟨h1, h3, h2⟩
  all_goals
    go_enter Try.func81, Try.ntmps81
    go_wp2
    go_ret
    exact ⟨ret_int (by rw [h2.out]; try omega), rfl⟩

theorem ffloor_any (a : Int) (w : World) : Calls Try.prog 63 #[.int .i64 a] w fun e w' => e = .returned (.int .i64 (Pl.ffloor a)) ∧ w = w' := by
  have hb := Pl.clamp_bd a
  go_enter Try.func63, Try.ntmps63
  go_wp2_with fail
  refine (fnear_any a _).mono ?_
  rintro e w1 ⟨rfl, rfl⟩
  go_wp2
  go_ret
  exact ⟨rfl, rfl⟩
theorem fceil_any (a : Int) (w : World) : Calls Try.prog 62 #[.int .i64 a] w fun e w' => e = .returned (.int .i64 (Pl.fceil a)) ∧ w = w' := by
  have hb := Pl.clamp_bd a
  go_enter Try.func62, Try.ntmps62
  go_wp2_with fail
  refine (fnear_any a _).mono ?_
  rintro e w1 ⟨rfl, rfl⟩
  go_wp2
  go_ret
  exact ⟨rfl, rfl⟩
theorem ftrunc_any (a : Int) (w : World) : Calls Try.prog 65 #[.int .i64 a] w fun e w' => e = .returned (.int .i64 (Pl.ftrunc a)) ∧ w = w' := by
  by_cases h : a < 0
  · have ht := Lib.hid (show Pl.ftrunc a = Pl.fceil a by unfold Pl.ftrunc; rw [if_pos h])
    go_enter Try.func65, Try.ntmps65
    go_wp2_with fail
    refine (fceil_any a _).mono ?_
    rintro e w1 ⟨rfl, rfl⟩
    go_wp2
    go_ret
    exact ⟨ret_int ht.out.symm, rfl⟩
  · have ht := Lib.hid (show Pl.ftrunc a = Pl.ffloor a by unfold Pl.ftrunc; rw [if_neg h])
    go_enter Try.func65, Try.ntmps65
    go_wp2_with fail
    refine (ffloor_any a _).mono ?_
    rintro e w1 ⟨rfl, rfl⟩
    go_wp2
    go_ret
    exact ⟨ret_int ht.out.symm, rfl⟩
theorem fround_any (a : Int) (w : World) : Calls Try.prog 64 #[.int .i64 a] w fun e w' => e = .returned (.int .i64 (Pl.fround a)) ∧ w = w' := by
  have hb := Pl.clamp_bd a
  have he : Pl.ffloor a = Pl.clamp a / 65536 * 65536 := rfl
  have hw : Pl.fwhole a = Pl.clamp a / 65536 := rfl
  have hr : Pl.fround a = if 32768 < Pl.clamp a - Pl.ffloor a ∨ (Pl.clamp a - Pl.ffloor a = 32768 ∧ Pl.fwhole a % 2 = 1) then Pl.ffloor a + 65536 else Pl.ffloor a := rfl
  have hlow : Pl.ffloor a / 65536 % 2 = Pl.fwhole a % 2 := by rw [he, hw]; omega
  have hfb : -1073741824 ≤ Pl.ffloor a ∧ Pl.ffloor a ≤ 1073741823 := by omega
  have hrb : 0 ≤ Pl.clamp a - Pl.ffloor a ∧ Pl.clamp a - Pl.ffloor a ≤ 65535 := by omega
  clear he hw
  have hcase : (32768 < Pl.clamp a - Pl.ffloor a ∧ Hid (Pl.fround a = Pl.ffloor a + 65536)) ∨
      (Pl.clamp a - Pl.ffloor a ≤ 32768 ∧ (Pl.clamp a - Pl.ffloor a == 32768) = true ∧ (Pl.ffloor a / 65536 % 2 * 65536 != 0) = true ∧ Hid (Pl.fround a = Pl.ffloor a + 65536)) ∨
      (Pl.clamp a - Pl.ffloor a ≤ 32768 ∧ (Pl.clamp a - Pl.ffloor a == 32768) = true ∧ (Pl.ffloor a / 65536 % 2 * 65536 != 0) = false ∧ Hid (Pl.fround a = Pl.ffloor a)) ∨
      (Pl.clamp a - Pl.ffloor a ≤ 32768 ∧ (Pl.clamp a - Pl.ffloor a == 32768) = false ∧ Hid (Pl.fround a = Pl.ffloor a)) := by
    by_cases c1 : 32768 < Pl.clamp a - Pl.ffloor a
    · exact .inl ⟨c1, Lib.hid (by rw [hr, if_pos (.inl c1)])⟩
    · by_cases c2 : Pl.clamp a - Pl.ffloor a = 32768
      · by_cases c3 : Pl.fwhole a % 2 = 1
        · exact .inr (.inl ⟨by omega, beq_iff_eq.2 c2, by rw [bne_iff_ne]; omega, Lib.hid (by rw [hr, if_pos (.inr ⟨c2, c3⟩)])⟩)
        · exact .inr (.inr (.inl ⟨by omega, beq_iff_eq.2 c2, by rw [bne_eq_false_iff_eq]; omega, Lib.hid (by rw [hr, if_neg (by omega)])⟩))
      · exact .inr (.inr (.inr ⟨by omega, beq_eq_false_iff_ne.2 c2, Lib.hid (by rw [hr, if_neg (by omega)])⟩))
  clear hr hlow
  rcases hcase with ⟨h1, h4⟩ | ⟨h1, h2, h3, h4⟩ | ⟨h1, h2, h3, h4⟩ | ⟨h1, h2, h4⟩
  all_goals
    go_enter Try.func64, Try.ntmps64
    go_wp2_with fail
    refine (ffloor_any a _).mono ?_
    rintro e w1 ⟨rfl, rfl⟩
    go_wp2_with fail
    refine (fnear_any a _).mono ?_
    rintro e w1 ⟨rfl, rfl⟩
    go_wp2_with fail
    go_ret
    exact ⟨ret_int h4.out.symm, rfl⟩

theorem fsqrt_ok (a : Int) (h : 0 ≤ a ∧ a ≤ 1073741823) (w : World) :
    Calls Try.prog 17 #[.int .i64 a] w fun e w' => e = .returned (.tuple #[.int .i64 (Pl.root (a * 65536)), .bool true]) ∧ w = w' := by
  have hr := Pl.root_spec (a * 65536) (by omega) (by omega)
  have hb : 0 ≤ Pl.root (a * 65536) ∧ Pl.root (a * 65536) ≤ 4294967295 := ⟨hr.1, hr.2.1⟩
  clear hr
  go_enter Try.func17, Try.ntmps17
  go_wp2_with fail
  refine (fmay_yes a (by unfold Pl.fx; omega) _).mono ?_
  rintro e w1 ⟨rfl, rfl⟩
  go_wp2_with fail
  refine (root_floor (a * 65536) (by omega) _).mono ?_
  rintro e w1 ⟨rfl, rfl⟩
  go_wp2_with fail
  go_ret2
  exact ⟨rfl, rfl⟩
theorem fsqrt_no (a : Int) (h : ¬ (0 ≤ a ∧ a ≤ 1073741823)) (w : World) :
    Calls Try.prog 17 #[.int .i64 a] w fun e w' => e = .returned (.tuple #[.int .i64 0, .bool false]) ∧ w = w' := by
  by_cases h0 : a < 0
  · go_enter Try.func17, Try.ntmps17
    go_wp2_with fail
    go_ret2
    exact ⟨rfl, rfl⟩
  · have hn : ¬ Pl.fx a := by unfold Pl.fx; omega
    clear h
    go_enter Try.func17, Try.ntmps17
    go_wp2_with fail
    refine (fmay_no a hn _).mono ?_
    rintro e w1 ⟨rfl, rfl⟩
    go_wp2_with fail
    go_ret2
    exact ⟨rfl, rfl⟩
end Go.Proofs.Ytfmmomdmemcbbaa



namespace Go.Proofs.Ytfmmomdmemcbbaa
set_option linter.unusedVariables false
open Go.RowKit

/-- a number that may be, and what it stands for -/
def Pl.isn (k n : Int) : Prop := (k = 3 ∧ -2147483647 ≤ n ∧ n ≤ 2147483647) ∨ (k = 4 ∧ -1073741823 ≤ n ∧ n ≤ 1073741823)
def Pl.sz (k n : Int) : Int := if k = 3 then n * 65536 else n
theorem Pl.sz_bd {k n : Int} (h : Pl.isn k n) : -140737488289792 ≤ Pl.sz k n ∧ Pl.sz k n ≤ 140737488289792 := by
  unfold Pl.isn at h; unfold Pl.sz; split <;> omega


theorem size_num (k : Int) (x : Bool) (n : Int) (h : Pl.isn k n) (w : World) :
    Calls Try.prog 84 #[obv k x n 0 0 ⟨#[]⟩] w fun e w' => e = Ending.returned (.tuple #[.int .i64 (Pl.sz k n), .bool true]) ∧ Grown w w' := by
  have hs : Hid (Pl.sz k n = if k = 3 then n * 65536 else n) := Lib.hid rfl
  generalize Pl.sz k n = z at *
  rcases h with ⟨rfl, h1, h2⟩ | ⟨rfl, h1, h2⟩
  · have hs := hs.out
    rw [if_pos rfl] at hs
    subst hs
    go_enter Try.func84, Try.ntmps84
    go_wp2_with fail
    refine (may_int_yes x n h1 h2 _).mono ?_
    rintro e w1 ⟨rfl, g1⟩
    obtain ⟨c0, c1, c2, c3, c4, c5, gw⟩ : ObS w w.heap.size 3 x n 0 0 ⟨#[]⟩ w1 := ObS.grow (by exact ⟨by simp [go_sem], by simp [go_sem], by simp [go_sem], by simp [go_sem], by simp [go_sem], by simp [go_sem], by (repeat (first | exact Grown.refl _ | assumption | apply Grown.drew | apply Grown.alloc))⟩) g1
    clear g1
    go_wp2
    go_ret2
    exact ⟨rfl, gw⟩
  · have hs := hs.out
    rw [if_neg (by omega)] at hs
    subst hs
    go_enter Try.func84, Try.ntmps84
    go_wp2_with fail
    refine (may_fix_yes x z h1 h2 _).mono ?_
    rintro e w1 ⟨rfl, g1⟩
    obtain ⟨c0, c1, c2, c3, c4, c5, gw⟩ : ObS w w.heap.size 4 x z 0 0 ⟨#[]⟩ w1 := ObS.grow (by exact ⟨by simp [go_sem], by simp [go_sem], by simp [go_sem], by simp [go_sem], by simp [go_sem], by simp [go_sem], by (repeat (first | exact Grown.refl _ | assumption | apply Grown.drew | apply Grown.alloc))⟩) g1
    clear g1
    go_wp2
    go_ret2
    exact ⟨rfl, gw⟩

theorem numbers_num (k : Int) (x : Bool) (n : Int) (h : Pl.isn k n) (k' : Int) (x' : Bool) (n' : Int) (h' : Pl.isn k' n') (w : World) :
    Calls Try.prog 69 #[obv k x n 0 0 ⟨#[]⟩, obv k' x' n' 0 0 ⟨#[]⟩] w fun e w' => e = Ending.returned (.tuple #[.int .i64 (Pl.sz k n), .int .i64 (Pl.sz k' n'), .bool true]) ∧ Grown w w' := by
  go_enter Try.func69, Try.ntmps69
  go_wp2_with fail
  refine (size_num k x n h _).mono ?_
  rintro e w1 ⟨rfl, g1⟩
  obtain ⟨c0, c1, c2, c3, c4, c5, gw⟩ : ObS w (w.heap.size + 1) k' x' n' 0 0 ⟨#[]⟩ w1 := ObS.grow (by exact ⟨by simp [go_sem], by simp [go_sem], by simp [go_sem], by simp [go_sem], by simp [go_sem], by simp [go_sem], by (repeat (first | exact Grown.refl _ | assumption | apply Grown.drew | apply Grown.alloc))⟩) g1
  clear g1
  go_wp2_with fail
  refine (size_num k' x' n' h' _).mono ?_
  rintro e w2 ⟨rfl, g2⟩
  go_wp2
  exact bodyPost_ret (v := .tuple #[.int .i64 (Pl.sz k n), .int .i64 (Pl.sz k' n'), .bool true]) (by simp [results, Try.results69, go_sem]) rfl ⟨rfl, grown_trans gw g2⟩

theorem less_num (k : Int) (x : Bool) (n : Int) (h : Pl.isn k n) (k' : Int) (x' : Bool) (n' : Int) (h' : Pl.isn k' n') (w : World) :
    Calls Try.prog 39 #[obv k x n 0 0 ⟨#[]⟩, obv k' x' n' 0 0 ⟨#[]⟩] w fun e w' => e = Ending.returned (.tuple #[.bool (decide (Pl.sz k n < Pl.sz k' n')), .bool true]) ∧ Grown w w' := by
  go_enter Try.func39, Try.ntmps39
  go_wp2_with fail
  refine (numbers_num k x n h k' x' n' h' _).mono ?_
  rintro e w1 ⟨rfl, g1⟩
  go_wp2
  go_ret2
  exact ⟨rfl, grown_trans (by (repeat (first | exact Grown.refl _ | assumption | apply Grown.drew | apply Grown.alloc))) g1⟩

theorem num_int (x : Bool) (n : Int) (h : -16383 ≤ n ∧ n ≤ 16383) (w : World) :
    Calls Try.prog 67 #[obv 3 x n 0 0 ⟨#[]⟩] w fun e w' => e = Ending.returned (.tuple #[.int .i64 (n * 65536), .bool true]) ∧ Grown w w' := by
  go_enter Try.func67, Try.ntmps67
  go_wp2_with fail
  refine (ffrom_ok n h _).mono ?_
  rintro e w1 ⟨rfl, rfl⟩
  go_wp2
  go_ret2
  exact ⟨rfl, by (repeat (first | exact Grown.refl _ | assumption | apply Grown.drew | apply Grown.alloc))⟩
theorem num_fix (x : Bool) (n : Int) (h : Pl.fx n) (w : World) :
    Calls Try.prog 67 #[obv 4 x n 0 0 ⟨#[]⟩] w fun e w' => e = Ending.returned (.tuple #[.int .i64 n, .bool true]) ∧ Grown w w' := by
  have hc := Lib.hid (fun W => fadd_ok n 0 h (by unfold Pl.fx; omega) (by rw [Int.add_zero]; exact h) W)
  rw [Int.add_zero] at hc
  go_enter Try.func67, Try.ntmps67
  go_wp2_with fail
  refine (hc.out _).mono ?_
  rintro e w1 ⟨rfl, g1⟩
  go_wp2
  go_ret2
  exact ⟨rfl, grown_trans (by (repeat (first | exact Grown.refl _ | assumption | apply Grown.drew | apply Grown.alloc))) g1⟩
end Go.Proofs.Ytfmmomdmemcbbaa

namespace Go.Proofs.Ytfmmomdmemcbbaa
set_option linter.unusedVariables false
open Go.RowKit

/-- a number that may be: its object -/
def Pl.num (k n a l : Int) (s : ByteArray) : Prop := Pl.isn k n ∧ a = 0 ∧ l = 0 ∧ s = ⟨#[]⟩
theorem Pl.num_may {k n a l : Int} {s : ByteArray} (h : Pl.num k n a l s) : Pl.may k n a l s := by
  obtain ⟨h1, rfl, rfl, rfl⟩ := h
  refine .inr (.inr (.inr ⟨⟨rfl, rfl, rfl⟩, ?_⟩))
  unfold Pl.isn at h1
  rcases h1 with h1 | h1
  · exact .inr (.inl h1)
  · exact .inr (.inr (.inl h1))
theorem Pl.may_num {k n a l : Int} {s : ByteArray} (h : Pl.may k n a l s) (hk : k = 3 ∨ k = 4) : Pl.num k n a l s := by
  rcases h with h | h | h | ⟨⟨h1, h2, h3⟩, h⟩
  · exact absurd h.1 (by omega)
  · exact absurd h.1 (by omega)
  · exact absurd h.1 (by omega)
  · exact ⟨by unfold Pl.isn; omega, h1, h2, h3⟩

theorem size_no (k : Int) (x : Bool) (n a l : Int) (s : ByteArray) (h : ¬ Pl.num k n a l s) (w : World) :
    Calls Try.prog 84 #[obv k x n a l s] w fun e w' => e = Ending.returned (.tuple #[.int .i64 0, .bool false]) ∧ Grown w w' := by
  by_cases hm : Pl.may k n a l s
  · have k3 : (k == 3) = false := Pl.nek (fun e => h (Pl.may_num hm (.inl e)))
    have k4 : (k == 4) = false := Pl.nek (fun e => h (Pl.may_num hm (.inr e)))
    have CM := Lib.hid (fun W => may_yes k x n a l s hm W)
    clear hm h
    go_enter Try.func84, Try.ntmps84
    go_wp2_with fail
    refine (CM.out _).mono ?_
    rintro e w1 ⟨rfl, g1⟩
    obtain ⟨c0, c1, c2, c3, c4, c5, gw⟩ : ObS w w.heap.size k x n a l s w1 := ObS.grow (by exact ⟨by simp [go_sem], by simp [go_sem], by simp [go_sem], by simp [go_sem], by simp [go_sem], by simp [go_sem], by (repeat (first | exact Grown.refl _ | assumption | apply Grown.drew | apply Grown.alloc))⟩) g1
    clear g1
    go_wp2
    go_ret2
    exact ⟨rfl, gw⟩
  · have CM := Lib.hid (fun W => may_no k x n a l s hm W)
    clear hm h
    go_enter Try.func84, Try.ntmps84
    go_wp2_with fail
    refine (CM.out _).mono ?_
    rintro e w1 ⟨rfl, g1⟩
    go_wp2
    go_ret2
    exact ⟨rfl, grown_trans (by (repeat (first | exact Grown.refl _ | assumption | apply Grown.drew | apply Grown.alloc))) g1⟩

/-- what size tells of any object -/
theorem osize_any (k : Int) (x : Bool) (n a l : Int) (s : ByteArray) : ∃ (z : Int) (ok : Bool), (ok = true ↔ Pl.num k n a l s) ∧ (Pl.num k n a l s → z = Pl.sz k n) ∧
    ∀ y w, Calls Try.prog 84 #[obv k y n a l s] w fun e w' => e = Ending.returned (.tuple #[.int .i64 z, .bool ok]) ∧ Grown w w' := by
  by_cases h : Pl.num k n a l s
  · refine ⟨Pl.sz k n, true, by simp [h], fun _ => rfl, fun y w => ?_⟩
    obtain ⟨h1, rfl, rfl, rfl⟩ := h
    exact size_num k y n h1 w
  · exact ⟨0, false, by simp [h], fun h' => absurd h' h, fun y w => size_no k y n a l s h w⟩
end Go.Proofs.Ytfmmomdmemcbbaa

namespace Go.Proofs.Ytfmmomdmemcbbaa
set_option linter.unusedVariables false
open Go.RowKit

theorem Pl.toList_nil {s : ByteArray} : s.toList = [] ↔ s = ⟨#[]⟩ := ⟨fun h => Classical.byContradiction fun e => Pl.bytes_ne e h, fun h => by rw [h]; simp [ByteArray.toList_eq]⟩
theorem Pl.cut_ne {s : ByteArray} (h : 100 < (s.size : Int)) : ¬ s.toList = (s.extract 0 100).toList := fun e => by
  have e := congrArg List.length e
  simp [ByteArray.toList_eq] at e
  omega

end Go.Proofs.Ytfmmomdmemcbbaa

namespace Go.Proofs.Ytfmmomdmemcbbaa
set_option linter.unusedVariables false
open Go.RowKit

end Go.Proofs.Ytfmmomdmemcbbaa

namespace Go.Proofs.Ytfmmomdmemcbbaa
set_option linter.unusedVariables false
open Go.RowKit

end Go.Proofs.Ytfmmomdmemcbbaa

namespace Go.Proofs.Ytfmmomdmemcbbaa
set_option linter.unusedVariables false
open Go.RowKit

end Go.Proofs.Ytfmmomdmemcbbaa

namespace Go.Proofs.Ytfmmomdmemcbbaa
set_option linter.unusedVariables false
open Go.RowKit

end Go.Proofs.Ytfmmomdmemcbbaa

namespace Go.Proofs.Ytfmmomdmemcbbaa
set_option linter.unusedVariables false
open Go.RowKit

end Go.Proofs.Ytfmmomdmemcbbaa

namespace Go.Proofs.Ytfmmomdmemcbbaa
set_option linter.unusedVariables false
open Go.RowKit

/-- the row's cells, of a part of it -/
theorem own_part {w : World} {base g N cap : Nat} {X Y Z : List Pl.Ob} (h : w.ownsRow base 24 6 (.slice (some ⟨g, 0, none⟩) N cap) N (Pl.flat (X ++ (Y ++ Z)))) : ∀ j u, (Pl.flat Y)[j]? = some u → w.cell? ((⟨g, X.length * 6, none⟩ : Addr).add j) = some u := by
  intro j u hu
  have hj := (List.getElem?_eq_some_iff.1 hu).1
  have hl := h.1
  rw [Pl.flat_len, List.length_append, List.length_append] at hl
  rw [Pl.flat_len] at hj
  rw [show (⟨g, X.length * 6, none⟩ : Addr).add j = ⟨g, X.length * 6 + j, none⟩ from by simp [Addr.add]]
  rw [h.cellAt _ (by omega), Pl.flat_append, Pl.flat_append, List.getElem?_append_right (by rw [Pl.flat_len]; omega), List.getElem?_append_left (by rw [Pl.flat_len, Pl.flat_len]; omega), Pl.flat_len, ← hu]
  congr 1; omega

end Go.Proofs.Ytfmmomdmemcbbaa

namespace Go.Proofs.Ytfmmomdmemcbbaa
set_option linter.unusedVariables false
open Go.RowKit

open Classical in
noncomputable def Pl.pushR (L : List Pl.Ob) (o : Pl.Ob) : Int × List Pl.Ob := if Pl.mayO o then (if L.length < 200 then (0, L ++ [o]) else (8, L)) else (1, L)
def Pl.popR (L : List Pl.Ob) : Pl.Ob × Int × List Pl.Ob := match L.getLast? with
  | none => (Pl.zer, 7, L)
  | some o => (o, 0, L.dropLast)
def Pl.peekR (L : List Pl.Ob) (i : Int) : Pl.Ob × Int := if i < 0 then (Pl.zer, 2) else match L.reverse[i.toNat]? with
  | none => (Pl.zer, 7)
  | some o => (o, 0)
def Pl.dupR (L : List Pl.Ob) (n : Int) : Int × List Pl.Ob := if n < 0 then (2, L) else if (L.length : Int) < n then (7, L) else if 200 < L.length + n.toNat then (8, L) else (0, L ++ L.drop (L.length - n.toNat))
def Pl.rollR (L : List Pl.Ob) (n j : Int) : Int × List Pl.Ob := if n < 0 then (2, L) else if (L.length : Int) < n then (7, L) else (0, Pl.rot L n.toNat j)
open Classical in
noncomputable def Pl.becomeR (L A : List Pl.Ob) : Int × List Pl.Ob := if ∀ (j : Nat) (o : Pl.Ob), A[j]? = some o → Pl.mayO o then (if A.length ≤ 200 then (0, A) else (8, L)) else (1, L)

theorem Pl.pushR_len (L : List Pl.Ob) (o : Pl.Ob) (h : L.length ≤ 200) : (Pl.pushR L o).2.length ≤ 200 := by
  unfold Pl.pushR
  split
  · split
    · simp; omega
    · exact h
  · exact h
theorem Pl.popR_len (L : List Pl.Ob) (h : L.length ≤ 200) : (Pl.popR L).2.2.length ≤ 200 := by
  unfold Pl.popR
  split
  · exact h
  · simp; omega
theorem Pl.dupR_len (L : List Pl.Ob) (n : Int) (h : L.length ≤ 200) : (Pl.dupR L n).2.length ≤ 200 := by
  unfold Pl.dupR
  split
  · exact h
  split
  · exact h
  split
  · exact h
  · simp; omega
theorem Pl.rollR_len (L : List Pl.Ob) (n j : Int) (h : L.length ≤ 200) : (Pl.rollR L n j).2.length ≤ 200 := by
  unfold Pl.rollR
  split
  · exact h
  split
  · exact h
  · rw [Pl.rot_len _ _ _ (by omega)]
    exact h
theorem Pl.becomeR_len (L A : List Pl.Ob) (h : L.length ≤ 200) : (Pl.becomeR L A).2.length ≤ 200 := by
  unfold Pl.becomeR
  split
  · split
    · assumption
    · exact h
  · exact h

section
variable (W0 : World) (Pr : Nat → Prop) (p : Nat) (L : List Pl.Ob) (W : World) (hlen : L.length ≤ 200) (h : Stk W0 Pr p L W)
include h hlen
theorem push_all (o : Pl.Ob) :
    Calls Try.prog 72 #[.pointer (some ⟨p, 0, none⟩), Pl.ov o] W fun e w' => e = .returned (.int .i64 (Pl.pushR L o).1) ∧ Stk W0 Pr p (Pl.pushR L o).2 w' ∧ FrS W0 Pr W w' := by
  unfold Pl.pushR
  by_cases hm : Pl.mayO o
  · rw [if_pos hm]
    by_cases hn : L.length < 200
    · rw [if_pos hn]
      exact stk_push W0 Pr p L W h o hm hn
    · rw [if_neg hn]
      refine (stk_push_full W0 Pr p L W h o hm (by omega) (by omega)).mono ?_
      rintro e w' ⟨he, hs, g⟩
      exact ⟨he, hs, Fr.of_grown _ g⟩
  · rw [if_neg hm]
    refine (stk_push_bad W0 Pr p L W h o hm).mono ?_
    rintro e w' ⟨he, hs, g⟩
    exact ⟨he, hs, Fr.of_grown _ g⟩
theorem pop_all :
    Calls Try.prog 71 #[.pointer (some ⟨p, 0, none⟩)] W fun e w' => e = .returned (.tuple #[Pl.ov (Pl.popR L).1, .int .i64 (Pl.popR L).2.1]) ∧ Stk W0 Pr p (Pl.popR L).2.2 w' ∧ FrS W0 Pr W w' := by
  rcases List.eq_nil_or_concat L with rfl | ⟨A, o, hAo⟩
  · refine (stk_pop_none W0 Pr p [] W h rfl).mono ?_
    rintro e w' ⟨he, hs, g⟩
    exact ⟨he, hs, Fr.of_grown _ g⟩
  · rw [List.concat_eq_append] at hAo
    subst hAo
    have e1 : Pl.popR (A ++ [o]) = (o, 0, A) := by simp [Pl.popR]
    rw [e1]
    exact stk_pop W0 Pr p _ W h A o rfl (by simp at hlen; omega)
theorem peek_all (i : Int) :
    Calls Try.prog 51 #[.pointer (some ⟨p, 0, none⟩), .int .i64 i] W fun e w' => e = .returned (.tuple #[Pl.ov (Pl.peekR L i).1, .int .i64 (Pl.peekR L i).2]) ∧ Stk W0 Pr p L w' ∧ Grown W w' := by
  unfold Pl.peekR
  by_cases hi : i < 0
  · rw [if_pos hi]
    exact stk_peek_low W0 Pr p L W h i hi
  · rw [if_neg hi]
    obtain ⟨n, rfl⟩ : ∃ n : Nat, i = (n : Int) := ⟨i.toNat, by omega⟩
    rw [Int.toNat_natCast]
    cases ho : L.reverse[n]? with
    | none =>
      have := List.getElem?_eq_none_iff.1 ho
      rw [List.length_reverse] at this
      exact stk_peek_under W0 Pr p L W h n (by omega) (by omega)
    | some o => exact stk_peek W0 Pr p L W h n o ho (by omega)
theorem roll_all (n j : Int) :
    Calls Try.prog 53 #[.pointer (some ⟨p, 0, none⟩), .int .i64 n, .int .i64 j] W fun e w' => e = .returned (.int .i64 (Pl.rollR L n j).1) ∧ Stk W0 Pr p (Pl.rollR L n j).2 w' ∧ FrS W0 Pr W w' := by
  unfold Pl.rollR
  by_cases hi : n < 0
  · rw [if_pos hi]
    refine (stk_roll_low W0 Pr p L W h n j hi).mono ?_
    rintro e w' ⟨he, hs, g⟩
    exact ⟨he, hs, Fr.of_grown _ g⟩
  · rw [if_neg hi]
    by_cases hu : (L.length : Int) < n
    · rw [if_pos hu]
      refine (stk_roll_under W0 Pr p L W h n j hu).mono ?_
      rintro e w' ⟨he, hs, g⟩
      exact ⟨he, hs, Fr.of_grown _ g⟩
    · rw [if_neg hu]
      obtain ⟨n, rfl⟩ : ∃ m : Nat, n = (m : Int) := ⟨n.toNat, by omega⟩
      rw [Int.toNat_natCast]
      exact stk_roll W0 Pr p L W h n j (by omega) (by omega)
theorem become_all (v1 : Value) (A : List Pl.Ob) (hR : RowV W v1 A) (hA : A.length ≤ 300) :
    Calls Try.prog 20 #[.pointer (some ⟨p, 0, none⟩), v1] W fun e w' => e = .returned (.int .i64 (Pl.becomeR L A).1) ∧ Stk W0 Pr p (Pl.becomeR L A).2 w' ∧ FrS W0 Pr W w' := by
  have hl0 := hlen
  unfold Pl.becomeR
  by_cases hall : ∀ (j : Nat) (o : Pl.Ob), A[j]? = some o → Pl.mayO o
  · rw [if_pos hall]
    by_cases hn : A.length ≤ 200
    · rw [if_pos hn]
      exact stk_become W0 Pr p L W h v1 A hR hall hn
    · rw [if_neg hn]
      refine (stk_become_over W0 Pr p L W h v1 A hR hall (by omega)).mono ?_
      rintro e w' ⟨he, hs, g⟩
      exact ⟨he, hs, Fr.of_grown _ g⟩
  · rw [if_neg hall]
    obtain ⟨j, o, hj, ho⟩ : ∃ j o, A[j]? = some o ∧ ¬ Pl.mayO o := by
      apply Classical.byContradiction
      intro hc
      exact hall (fun j o hj => Classical.byContradiction fun ho => hc ⟨j, o, hj, ho⟩)
    refine (stk_become_bad W0 Pr p L W h v1 A hR hA j o hj ho).mono ?_
    rintro e w' ⟨he, hs, g⟩
    exact ⟨he, hs, Fr.of_grown _ g⟩
end
end Go.Proofs.Ytfmmomdmemcbbaa

namespace Go.Proofs.Ytfmmomdmemcbbaa
set_option linter.unusedVariables false
open Go.RowKit

theorem Pl.and_mask_i64 (k : Nat) (hk : k ≤ 62) (x : Int) : bits .and .i64 x (2 ^ k - 1) = x % 2 ^ k := by
  have h := Pl.and_mask_u64 k (by omega) x
  have hp0 : (0 : Int) < 2 ^ k := Int.pow_pos (by decide)
  have hp : (2 : Int) ^ k ≤ 2 ^ 62 := by
    have := Nat.pow_le_pow_right (n := 2) (by decide) hk
    exact_mod_cast this
  have h1 := Int.emod_nonneg x (show (2 : Int) ^ k ≠ 0 by omega)
  have h2 := Int.emod_lt_of_pos x hp0
  have e : (2 : Int) ^ 62 = 4611686018427387904 := by decide
  change IntKind.u64.wrap ((BitVec.ofInt 64 x &&& BitVec.ofInt 64 ((2 : Int) ^ k - 1)).toNat : Int) = _ at h
  show IntKind.i64.wrap ((BitVec.ofInt 64 x &&& BitVec.ofInt 64 ((2 : Int) ^ k - 1)).toNat : Int) = _
  have hb := (BitVec.ofInt 64 x &&& BitVec.ofInt 64 ((2 : Int) ^ k - 1)).isLt
  rw [IntKind.wrap_u64] at h
  rw [IntKind.wrap_i64]
  omega
theorem Pl.and_1_i64 (x : Int) : bits .and .i64 x 1 = x % 2 := Pl.and_mask_i64 1 (by decide) x
/-- is a kind one of these? -/
def Pl.fits (kinds k : Int) : Bool := (kinds / 2 ^ k.toNat) % 2 == 1
theorem Pl.mayO_kind {o : Pl.Ob} (h : Pl.mayO o) : 1 ≤ o.1 ∧ o.1 ≤ 11 := by
  unfold Pl.mayO Pl.may at h
  omega
theorem is_any (o : Pl.Ob) (kinds : Int) (hk : 1 ≤ o.1 ∧ o.1 ≤ 11) (W : World) :
    Calls Try.prog 68 #[Pl.ov o, .int .i64 kinds] W fun e w' => e = .returned (.bool (Pl.fits kinds o.1)) ∧ Grown W w' := by
  obtain ⟨k, x, n, a, l, s⟩ := o
  unfold Pl.fits
  simp only at hk
  obtain ⟨r, hr⟩ : ∃ r, r = (kinds / 2 ^ k.toNat) % 2 := ⟨_, rfl⟩
  have h1 : bits .and .i64 (kinds / 2 ^ k.toNat) 1 = r := by rw [Pl.and_1_i64, hr]
  have h0 : (0 : Int) ≤ k := by omega
  have h64 : k ≤ 64 := by omega
  simp only [← hr]
  clear hr
  go_enter Try.func68, Try.ntmps68
  go_wp2
  go_ret
  exact ⟨by simp, (Grown.refl W).alloc _ _⟩
theorem whole_obj (v : Int) (W : World) :
    Calls Try.prog 55 #[.int .i64 v] W fun e w' => e = .returned (.tuple #[Pl.ov (3, false, v, 0, 0, ⟨#[]⟩), .bool (decide (-2147483647 ≤ v ∧ v ≤ 2147483647))]) ∧ Grown W w' := by
  by_cases h1 : -2147483647 ≤ v
  · by_cases h2 : v ≤ 2147483647
    · rw [decide_eq_true ⟨h1, h2⟩]
      go_enter Try.func55, Try.ntmps55
      go_wp2
      exact bodyPost_ret (by simp [results, Try.results55, go_sem]) rfl ⟨rfl, (Grown.refl W).alloc _ _⟩
    · rw [decide_eq_false (fun h => h2 h.2)]
      go_enter Try.func55, Try.ntmps55
      go_wp2
      exact bodyPost_ret (by simp [results, Try.results55, go_sem]) rfl ⟨rfl, (Grown.refl W).alloc _ _⟩
  · rw [decide_eq_false (fun h => h1 h.1)]
    go_enter Try.func55, Try.ntmps55
    go_wp2
    exact bodyPost_ret (by simp [results, Try.results55, go_sem]) rfl ⟨rfl, (Grown.refl W).alloc _ _⟩
theorem fixed_obj (v : Int) (W : World) :
    Calls Try.prog 82 #[.int .i64 v] W fun e w' => e = .returned (.tuple #[Pl.ov (4, false, v, 0, 0, ⟨#[]⟩), .bool (decide (-1073741823 ≤ v ∧ v ≤ 1073741823))]) ∧ Grown W w' := by
  by_cases h1 : -1073741823 ≤ v
  · by_cases h2 : v ≤ 1073741823
    · rw [decide_eq_true ⟨h1, h2⟩]
      go_enter Try.func82, Try.ntmps82
      go_wp2
      exact bodyPost_ret (by simp [results, Try.results82, go_sem]) rfl ⟨rfl, (Grown.refl W).alloc _ _⟩
    · rw [decide_eq_false (fun h => h2 h.2)]
      go_enter Try.func82, Try.ntmps82
      go_wp2
      exact bodyPost_ret (by simp [results, Try.results82, go_sem]) rfl ⟨rfl, (Grown.refl W).alloc _ _⟩
  · rw [decide_eq_false (fun h => h1 h.1)]
    go_enter Try.func82, Try.ntmps82
    go_wp2
    exact bodyPost_ret (by simp [results, Try.results82, go_sem]) rfl ⟨rfl, (Grown.refl W).alloc _ _⟩
def Pl.truth (b : Bool) : Pl.Ob := (2, false, if b then 1 else 0, 0, 0, ⟨#[]⟩)
theorem truth_obj (b : Bool) (W : World) :
    Calls Try.prog 41 #[.bool b] W fun e w' => e = .returned (Pl.ov (Pl.truth b)) ∧ Grown W w' := by
  unfold Pl.truth
  cases b
  · go_enter Try.func41, Try.ntmps41
    go_wp2
    exact bodyPost_ret (by simp [results, Try.results41, go_sem]) rfl ⟨rfl, ((Grown.refl W).alloc _ _).alloc _ _⟩
  · go_enter Try.func41, Try.ntmps41
    go_wp2
    exact bodyPost_ret (by simp [results, Try.results41, go_sem]) rfl ⟨rfl, ((Grown.refl W).alloc _ _).alloc _ _⟩
theorem room_any (W0 : World) (Pr : Nat → Prop) (p : Nat) (L : List Pl.Ob) (W : World) (hlen : L.length ≤ 300) (h : Stk W0 Pr p L W) (n m : Int) (hn : 0 ≤ n ∧ n ≤ 1000) (hm : 0 ≤ m ∧ m ≤ 1000) :
    Calls Try.prog 70 #[.pointer (some ⟨p, 0, none⟩), .int .i64 n, .int .i64 m] W fun e w' => e = .returned (.bool (decide ((L.length : Int) - n + m ≤ 200))) ∧ w' = W := by
  have HL := Lib.hid (stk_len W0 Pr p L W h)
  obtain ⟨M, hM⟩ : ∃ M, M = L.length := ⟨_, rfl⟩
  rw [← hM] at HL hlen ⊢
  clear hM h
  go_enter Try.func70, Try.ntmps70
  go_wp2_with fail
  refine HL.out.mono ?_
  rintro e w' ⟨rfl, rfl⟩
  go_wp2_with fail
  go_ret
  exact ⟨rfl, rfl⟩
end Go.Proofs.Ytfmmomdmemcbbaa

namespace Go.Proofs.Ytfmmomdmemcbbaa
set_option linter.unusedVariables false
open Go.RowKit

/-- a block of our own, and what it holds -/
def Blk (W : World) (p : Nat) (L : List Value) (Z : World) : Prop := W.heap.size ≤ p ∧ p < Z.heap.size ∧ (∀ j u, L[j]? = some u → Z.cell? ⟨p, j, none⟩ = some u) ∧ ∀ j, Z.frozen? ⟨p, j, none⟩ = false
theorem Blk.new {W Z : World} (A : Array Value) (t : TypeId) (h : W.heap.size ≤ Z.heap.size) : Blk W Z.heap.size A.toList (Z.alloc (.cells A t)) :=
  ⟨h, by simp, fun j u hu => by have := alloc_cell Z A t j u hu; rw [Addr.add_lit, Nat.zero_add] at this; exact this, fun j => by rw [frozen?_alloc_cells]; simp [World.frozen?]⟩
theorem Blk.grow {W Z Z' : World} {p : Nat} {L : List Value} (h : Blk W p L Z) (g : Grown Z Z') : Blk W p L Z' := by
  obtain ⟨h1, h2, h3, h4⟩ := h
  have hb := grown_heap g p h2
  exact ⟨h1, Nat.lt_of_lt_of_le h2 g.2.2, fun j u hu => (World.cell?_of_block (a := ⟨p, j, none⟩) hb).trans (h3 j u hu), fun j => (World.frozen?_of_block (a := ⟨p, j, none⟩) hb).trans (h4 j)⟩
theorem Blk.drew {W Z : World} {p : Nat} {L : List Value} (h : Blk W p L Z) : Blk W p L Z.drew := h
theorem Blk.drewN {W Z : World} {p : Nat} {L : List Value} (h : Blk W p L Z) (n : Nat) : Blk W p L (Z.drewN n) := h
theorem Blk.alloc {W Z : World} {p : Nat} {L : List Value} (h : Blk W p L Z) (A : Array Value) (t : TypeId) : Blk W p L (Z.alloc (.cells A t)) := h.grow ((Grown.refl _).alloc A t)
theorem Blk.at {W Z : World} {p : Nat} {L : List Value} (h : Blk W p L Z) (j : Nat) (u : Value) (hu : L[j]? = some u) : Z.cell? ⟨p, j, none⟩ = some u := h.2.2.1 j u hu
theorem Blk.set {W Z : World} {p : Nat} {L : List Value} (h : Blk W p L Z) (i : Nat) (hi : i < L.length) (v : Value) : Blk W p (L.set i v) (Z.setCell ⟨p, i, none⟩ v) := by
  obtain ⟨h1, h2, h3, h4⟩ := h
  refine ⟨h1, by simp; exact h2, fun j u hu => ?_, fun j => by simp; exact h4 j⟩
  by_cases e : j = i
  · subst e
    rw [List.getElem?_set_self hi] at hu
    injection hu with hu
    subst hu
    exact World.cell?_setCell_same' _ _ _ (by rw [h3 j L[j] (List.getElem?_eq_getElem hi)]; rfl)
  · rw [List.getElem?_set_ne (fun q => e q.symm)] at hu
    rw [World.cell?_setCell_other _ _ _ _ (by simp)]
    exact h3 j u hu
theorem Blk.other {W Z : World} {q p k : Nat} {E : List Value} (h : Blk W q E Z) (hp : q ≠ p) (v : Value) : Blk W q E (Z.setCell ⟨p, k, none⟩ v) := by
  obtain ⟨h1, h2, h3, h4⟩ := h
  refine ⟨h1, by simp; exact h2, fun j u hu => ?_, fun j => by simp; exact h4 j⟩
  rw [World.cell?_setCell_other _ _ _ _ (by simp)]
  exact h3 j u hu
theorem Blk.fr {W Z Z' : World} {p : Nat} {L : List Value} {P : Nat → Prop} (h : Blk W p L Z) (f : Fr P Z Z') (hp : ¬ P p) : Blk W p L Z' := by
  obtain ⟨h1, h2, h3, h4⟩ := h
  exact ⟨h1, Nat.lt_of_lt_of_le h2 f.2.2.1, fun j u hu => (f.cell (a := ⟨p, j, none⟩) h2 hp).trans (h3 j u hu), fun j => (f.frozen (a := ⟨p, j, none⟩) h2 hp).trans (h4 j)⟩
theorem Fr.setNew {P : Nat → Prop} {W Z : World} {q k : Nat} (h : Fr P W Z) (hq : W.heap.size ≤ q) (v : Value) : Fr P W (Z.setCell ⟨q, k, none⟩ v) :=
  h.trans' (Fr.setCell (fun c => c = q) _ _ _ rfl) (fun i e => .inr (by omega))
theorem setCell_self {Z : World} {a : Addr} {v : Value} (h : Z.cell? a = some v) : Z.setCell a v = Z := by
  unfold World.cell? at h
  have hh : (Z.setCell a v).heap = Z.heap := by
    unfold World.setCell
    apply Array.ext
    · simp
    · intro i h1 h2
      simp only [Array.getElem_modify]
      split
      · rename_i e
        subst e
        rw [Array.getElem?_eq_getElem h2] at h
        split
        · rename_i c elem frozen e2
          rw [e2] at h
          simp only at h
          rw [e2]
          congr 1
          split
          · rfl
          · rename_i hs
            rw [if_neg hs] at h
            apply Array.ext
            · simp
            · intro j k1 k2
              rw [Array.getElem_setIfInBounds]
              split
              · rename_i e3
                subst e3
                rw [Array.getElem?_eq_getElem k2] at h
                exact (Option.some.inj h).symm
              · rfl
        · rfl
      · rfl
  exact (show Z.setCell a v = { Z with heap := (Z.setCell a v).heap } from rfl).trans (by rw [hh])
theorem Blk.at6 {W Z : World} {p : Nat} {a b c d e f : Value} (h : Blk W p [a, b, c, d, e, f] Z) : Z.cell? ⟨p, 0, none⟩ = some a ∧ Z.cell? ⟨p, 1, none⟩ = some b ∧ Z.cell? ⟨p, 2, none⟩ = some c ∧ Z.cell? ⟨p, 3, none⟩ = some d ∧ Z.cell? ⟨p, 4, none⟩ = some e ∧ Z.cell? ⟨p, 5, none⟩ = some f :=
  ⟨h.at 0 _ rfl, h.at 1 _ rfl, h.at 2 _ rfl, h.at 3 _ rfl, h.at 4 _ rfl, h.at 5 _ rfl⟩
theorem Blk.at12 {W Z : World} {p : Nat} {a b c d e f a' b' c' d' e' f' : Value} (h : Blk W p [a, b, c, d, e, f, a', b', c', d', e', f'] Z) : Z.cell? ⟨p, 0, none⟩ = some a ∧ Z.cell? ⟨p, 1, none⟩ = some b ∧ Z.cell? ⟨p, 2, none⟩ = some c ∧ Z.cell? ⟨p, 3, none⟩ = some d ∧ Z.cell? ⟨p, 4, none⟩ = some e ∧ Z.cell? ⟨p, 5, none⟩ = some f ∧ Z.cell? ⟨p, 6, none⟩ = some a' ∧ Z.cell? ⟨p, 7, none⟩ = some b' ∧ Z.cell? ⟨p, 8, none⟩ = some c' ∧ Z.cell? ⟨p, 9, none⟩ = some d' ∧ Z.cell? ⟨p, 10, none⟩ = some e' ∧ Z.cell? ⟨p, 11, none⟩ = some f' :=
  ⟨h.at 0 _ rfl, h.at 1 _ rfl, h.at 2 _ rfl, h.at 3 _ rfl, h.at 4 _ rfl, h.at 5 _ rfl, h.at 6 _ rfl, h.at 7 _ rfl, h.at 8 _ rfl, h.at 9 _ rfl, h.at 10 _ rfl, h.at 11 _ rfl⟩
theorem Blk.six {W Z : World} {p : Nat} {a b c d e f a' b' c' d' e' f' : Value} (h : Blk W p [a, b, c, d, e, f] Z) : Blk W p [a', b', c', d', e', f'] ((((((Z.setCell ⟨p, 0, none⟩ a').setCell ⟨p, 1, none⟩ b').setCell ⟨p, 2, none⟩ c').setCell ⟨p, 3, none⟩ d').setCell ⟨p, 4, none⟩ e').setCell ⟨p, 5, none⟩ f') :=
  ((((((h.set 0 (by simp) a').set 1 (by simp) b').set 2 (by simp) c').set 3 (by simp) d').set 4 (by simp) e').set 5 (by simp) f')
theorem Blk.lo6 {W Z : World} {p : Nat} {a b c d e f a' b' c' d' e' f' g h i j k l : Value} (hh : Blk W p [a, b, c, d, e, f, g, h, i, j, k, l] Z) : Blk W p [a', b', c', d', e', f', g, h, i, j, k, l] ((((((Z.setCell ⟨p, 0, none⟩ a').setCell ⟨p, 1, none⟩ b').setCell ⟨p, 2, none⟩ c').setCell ⟨p, 3, none⟩ d').setCell ⟨p, 4, none⟩ e').setCell ⟨p, 5, none⟩ f') :=
  ((((((hh.set 0 (by simp) a').set 1 (by simp) b').set 2 (by simp) c').set 3 (by simp) d').set 4 (by simp) e').set 5 (by simp) f')
theorem Blk.hi6 {W Z : World} {p : Nat} {a b c d e f a' b' c' d' e' f' g h i j k l : Value} (hh : Blk W p [g, h, i, j, k, l, a, b, c, d, e, f] Z) : Blk W p [g, h, i, j, k, l, a', b', c', d', e', f'] ((((((Z.setCell ⟨p, 6, none⟩ a').setCell ⟨p, 7, none⟩ b').setCell ⟨p, 8, none⟩ c').setCell ⟨p, 9, none⟩ d').setCell ⟨p, 10, none⟩ e').setCell ⟨p, 11, none⟩ f') :=
  ((((((hh.set 6 (by simp) a').set 7 (by simp) b').set 8 (by simp) c').set 9 (by simp) d').set 10 (by simp) e').set 11 (by simp) f')
theorem grown_six {W Z : World} {p o : Nat} {a' b' c' d' e' f' : Value} (h : Grown W Z) (hp : W.heap.size ≤ p) : Grown W ((((((Z.setCell ⟨p, 0, none⟩ a').setCell ⟨p, 1, none⟩ b').setCell ⟨p, 2, none⟩ c').setCell ⟨p, 3, none⟩ d').setCell ⟨p, 4, none⟩ e').setCell ⟨p, 5, none⟩ f') := (Grown.setCell (Grown.setCell (Grown.setCell (Grown.setCell (Grown.setCell (Grown.setCell h hp _) hp _) hp _) hp _) hp _) hp _)
theorem grown_hi6 {W Z : World} {p o : Nat} {a' b' c' d' e' f' : Value} (h : Grown W Z) (hp : W.heap.size ≤ p) : Grown W ((((((Z.setCell ⟨p, 6, none⟩ a').setCell ⟨p, 7, none⟩ b').setCell ⟨p, 8, none⟩ c').setCell ⟨p, 9, none⟩ d').setCell ⟨p, 10, none⟩ e').setCell ⟨p, 11, none⟩ f') := (Grown.setCell (Grown.setCell (Grown.setCell (Grown.setCell (Grown.setCell (Grown.setCell h hp _) hp _) hp _) hp _) hp _) hp _)
theorem cell_six {Z : World} {p b k : Nat} {a b' c d e f : Value} (h : b ≠ p) : ((((((Z.setCell ⟨p, 0, none⟩ a).setCell ⟨p, 1, none⟩ b').setCell ⟨p, 2, none⟩ c).setCell ⟨p, 3, none⟩ d).setCell ⟨p, 4, none⟩ e).setCell ⟨p, 5, none⟩ f).cell? ⟨b, k, none⟩ = Z.cell? ⟨b, k, none⟩ := by
  have hn : ∀ j : Nat, (⟨b, k, none⟩ : Addr) ≠ ⟨p, j, none⟩ := fun j q => h (congrArg Addr.block q)
  rw [World.cell?_setCell_other _ _ _ _ (by first | exact hn _ | exact (hn _).symm), World.cell?_setCell_other _ _ _ _ (by first | exact hn _ | exact (hn _).symm), World.cell?_setCell_other _ _ _ _ (by first | exact hn _ | exact (hn _).symm), World.cell?_setCell_other _ _ _ _ (by first | exact hn _ | exact (hn _).symm), World.cell?_setCell_other _ _ _ _ (by first | exact hn _ | exact (hn _).symm), World.cell?_setCell_other _ _ _ _ (by first | exact hn _ | exact (hn _).symm)]
theorem cell_hi6 {Z : World} {p b k : Nat} {a b' c d e f : Value} (h : b ≠ p) : ((((((Z.setCell ⟨p, 6, none⟩ a).setCell ⟨p, 7, none⟩ b').setCell ⟨p, 8, none⟩ c).setCell ⟨p, 9, none⟩ d).setCell ⟨p, 10, none⟩ e).setCell ⟨p, 11, none⟩ f).cell? ⟨b, k, none⟩ = Z.cell? ⟨b, k, none⟩ := by
  have hn : ∀ j : Nat, (⟨b, k, none⟩ : Addr) ≠ ⟨p, j, none⟩ := fun j q => h (congrArg Addr.block q)
  rw [World.cell?_setCell_other _ _ _ _ (by first | exact hn _ | exact (hn _).symm), World.cell?_setCell_other _ _ _ _ (by first | exact hn _ | exact (hn _).symm), World.cell?_setCell_other _ _ _ _ (by first | exact hn _ | exact (hn _).symm), World.cell?_setCell_other _ _ _ _ (by first | exact hn _ | exact (hn _).symm), World.cell?_setCell_other _ _ _ _ (by first | exact hn _ | exact (hn _).symm), World.cell?_setCell_other _ _ _ _ (by first | exact hn _ | exact (hn _).symm)]
end Go.Proofs.Ytfmmomdmemcbbaa
