/- Plain facts: what is written is read again as that. -/
import Derived.Test.YtpfkijjpophobaaN14
namespace Go.Proofs.Ytpfkijjpophobaa
set_option linter.unusedVariables false
open Go.RowKit

theorem Pl.read_int (v : Int) (h0 : -9223372036854775808 ≤ v) (h1 : v ≤ 9223372036854775807) :
    Pl.read (Pl.tx (Pl.intText v)) = if v < -2147483647 ∨ 2147483647 < v then (0, 0, 2) else (1, v, 0) := by
  unfold Pl.intText
  rw [Pl.read_whole _ _ (by split <;> simp) (Pl.dec_dig _) (Pl.dec_ne _), Pl.dec_nm _ (by omega)]
  by_cases hv : v < -2147483647 ∨ 2147483647 < v
  · rw [if_pos hv, if_pos (by omega)]
  · rw [if_neg hv, if_neg (by omega)]
    congr 2
    by_cases hn : v < 0
    · rw [if_pos hn]
      show -(v.natAbs : Int) = v
      omega
    · rw [if_neg hn]
      show (v.natAbs : Int) = v
      omega
/-- an even number beside a share -/
theorem Pl.nst_add (a c b : Int) (hb : 1 ≤ b) (hc : c % 2 = 0) : Pl.nst (a + c * b) b = c + Pl.nst a b := by
  unfold Pl.nst
  have h1 : (a + c * b) / b = a / b + c := Int.add_mul_ediv_right a c (by omega)
  have h2 : (a + c * b) % b = a % b := Int.add_mul_emod_self_right a c b
  rw [h1, h2]
  by_cases h : a % b > b - a % b ∨ a % b = b - a % b ∧ a / b % 2 = 1
  · rw [if_pos h, if_pos (by omega)]
    omega
  · rw [if_neg h, if_neg (by omega)]
    omega
theorem Pl.fixK_ok (z : Int) (h0 : 0 ≤ z) (h1 : z ≤ 1073741823) : 1 ≤ Pl.fixK z ∧ Pl.fixK z ≤ 5 ∧ Pl.fixOk z (Pl.fixK z) := by
  unfold Pl.fixK
  split
  · rename_i h; exact ⟨by omega, by omega, h⟩
  split
  · rename_i h; exact ⟨by omega, by omega, h⟩
  split
  · rename_i h; exact ⟨by omega, by omega, h⟩
  split
  · rename_i h; exact ⟨by omega, by omega, h⟩
  exact ⟨by omega, by omega, Pl.fixOk5 z h0 h1⟩
/-- how near a share is -/
theorem Pl.nst_near (a b : Int) (hb : 1 ≤ b) : 2 * (Pl.nst a b * b) ≤ 2 * a + b ∧ 2 * a ≤ 2 * (Pl.nst a b * b) + b := by
  have h1 := Int.mul_ediv_add_emod a b
  have h2 := Int.emod_nonneg a (show b ≠ 0 by omega)
  have h3 := Int.emod_lt_of_pos a (show 0 < b by omega)
  obtain ⟨q, hq⟩ : ∃ q, q = a / b := ⟨_, rfl⟩
  obtain ⟨r, hr⟩ : ∃ r, r = a % b := ⟨_, rfl⟩
  unfold Pl.nst
  rw [← hq, ← hr] at h1
  rw [← hr] at h2 h3
  rw [← hq, ← hr]
  obtain ⟨m, hm⟩ : ∃ m, m = b * q := ⟨_, rfl⟩
  rw [← hm] at h1
  split
  · rw [Int.add_mul, Int.one_mul, Int.mul_comm q b, ← hm]
    omega
  · rw [Int.mul_comm q b, ← hm]
    omega
/-- a fix's parts: n = nearest (z * p) 65536, where nearest (n * 65536) p = z -/
theorem Pl.fix_parts (z n p : Int) (hp : 1 ≤ p) (h0 : 0 ≤ z) (h1 : z ≤ 1073741823) (hn : 0 ≤ n) (hok : Pl.nst (n * 65536) p = z) :
    0 ≤ n / p ∧ n / p ≤ 16383 ∧ (n / p) * 65536 + Pl.nst (n % p * 65536) p = z := by
  have e := Int.mul_ediv_add_emod n p
  have r0 := Int.emod_nonneg n (show p ≠ 0 by omega)
  have q0 : 0 ≤ n / p := Int.ediv_nonneg hn (by omega)
  have hs : n * 65536 = n % p * 65536 + (n / p * 65536) * p := by
    have : n / p * 65536 * p = (p * (n / p)) * 65536 := by
      rw [Int.mul_comm p (n / p), Int.mul_assoc, Int.mul_assoc, Int.mul_comm 65536 p]
    rw [this]
    omega
  rw [hs, Pl.nst_add _ _ _ hp (by omega)] at hok
  have hx := (Pl.nst_le (n % p * 65536) p (by omega) hp).1
  exact ⟨q0, by omega, hok⟩
theorem Pl.read_fixAt (S : List UInt8) (hS : S = [] ∨ S = [43] ∨ S = [45]) (z : Int) (h0 : 0 ≤ z) (h1 : z ≤ 1073741823) (k : Nat) (hk1 : 1 ≤ k) (hk5 : k ≤ 5) (hok : Pl.fixOk z k) :
    Pl.read (Pl.tx (Pl.fixAt S z k)) = (2, Pl.sgd (decide (S = [45])) z, 0) := by
  unfold Pl.fixAt
  have hb : 10 ^ k ≤ 10 ^ 5 := Nat.pow_le_pow_right (by omega) hk5
  have hb0 : 10 ^ 1 ≤ 10 ^ k := Nat.pow_le_pow_right (by omega) hk1
  have hpk : ((10 ^ k : Nat) : Int) = ((10 ^ k : Nat) : Int) := rfl
  unfold Pl.fixOk at hok
  have hn0 : 0 ≤ Pl.fixN z k := (Pl.nst_le _ _ (Int.mul_nonneg h0 (by omega)) (by omega)).1
  obtain ⟨n, hn⟩ : ∃ n, n = Pl.fixN z k := ⟨_, rfl⟩
  rw [← hn] at hok hn0 ⊢
  have hrl : (n % ((10 ^ k : Nat) : Int)).toNat < 10 ^ k := by
    have := Int.emod_lt_of_pos n (show 0 < ((10 ^ k : Nat) : Int) by omega)
    omega
  have hsh := Pl.dec_short _ k hk1 hrl (by omega)
  have hpl := Pl.pad_len k _ hsh
  obtain ⟨p, hp⟩ : ∃ p, p = 10 ^ k := ⟨_, rfl⟩
  have hf := Pl.fix_parts z n ((10 ^ k : Nat) : Int) (by omega) h0 h1 hn0 hok
  rw [Pl.read_point S _ _ hS (Pl.dec_dig _) (Pl.pad_dig _ _ (Pl.dec_dig _)), Pl.dec_nm _ (by omega)]
  unfold Pl.readPart
  rw [List.length_map, hpl, if_neg (by simp; omega), if_neg (by omega), Pl.dvl_nm _ (by omega) _ (Pl.pad_dig _ _ (Pl.dec_dig _)), Pl.pad_nm, Pl.dec_nm _ (by omega)]
  have e1 : min (((n / ((10 ^ k : Nat) : Int)).toNat : Nat) : Int) 2147483648 = n / ((10 ^ k : Nat) : Int) := by omega
  have e2 : min (((n % ((10 ^ k : Nat) : Int)).toNat : Nat) : Int) 1000000000000 = n % ((10 ^ k : Nat) : Int) := by
    have := Int.emod_nonneg n (show ((10 ^ k : Nat) : Int) ≠ 0 by omega)
    omega
  rw [e1, e2, hf.2.2, if_neg (by omega)]
theorem Pl.read_fix (v : Int) (h0 : -1073741823 ≤ v) (h1 : v ≤ 1073741823) : Pl.read (Pl.tx (Pl.fixText v)) = (2, v, 0) := by
  unfold Pl.fixText
  rw [if_neg (by omega)]
  have hz : 0 ≤ Pl.mg v ∧ Pl.mg v ≤ 1073741823 := by unfold Pl.mg; split <;> omega
  obtain ⟨k1, k2, k3⟩ := Pl.fixK_ok _ hz.1 hz.2
  rw [Pl.read_fixAt (Pl.sgn v) (by unfold Pl.sgn; split <;> simp) _ hz.1 hz.2 _ k1 k2 k3]
  unfold Pl.sgn Pl.mg
  by_cases hn : v < 0
  · rw [if_pos hn, if_pos hn]
    show (2, - -v, 0) = (2, v, 0)
    rw [Int.neg_neg]
  · rw [if_neg hn, if_neg hn]
    rfl
theorem Pl.fixText_ne (v : Int) : Pl.fixText v = [] ↔ (v < -1073741823 ∨ 1073741823 < v) := by
  unfold Pl.fixText
  split
  · rename_i h; simp [h]
  · rename_i h
    simp only [h, iff_false]
    unfold Pl.fixAt
    simp
end Go.Proofs.Ytpfkijjpophobaa
