/- Plain: numbers to a base, as the reference of layer 6 tells them. -/
import Derived.Test.YtpfkijjpophobaaQ2
namespace Go.Proofs.Ytpfkijjpophobaa
set_option linter.unusedVariables false
open Go.RowKit

theorem Pl.cv_digit (c : Nat) (h : 48 ≤ c ∧ c ≤ 57) : Pl.cv (c : Int) = (c : Int) - 48 := by
  unfold Pl.cv
  rw [if_pos (by omega)]
theorem Pl.rav_cons (B v : Int) (b : UInt8) (r : List UInt8) : Pl.rav B v (b :: r) = Pl.rav B (min (v * B + Pl.cv (b.toNat : Int)) 1099511627776) r := rfl
theorem Pl.rav_num (l : List UInt8) : ∀ (v : Nat), Pl.dig l → Pl.rav 10 (min (v : Int) 1099511627776) l = min (Pl.num v (l.map UInt8.toNat) : Int) 1099511627776 := by
  induction l with
  | nil => intro v _; rfl
  | cons b r ih =>
    intro v h
    have hb := h b (by simp)
    rw [Pl.rav_cons, List.map_cons, Pl.num_cons, ← ih (v * 10 + (b.toNat - 48)) (fun c hc => h c (by simp [hc])), Pl.cv_digit _ hb]
    congr 1
    omega
theorem Pl.rav_nm (l : List UInt8) (h : Pl.dig l) : Pl.rav 10 0 l = min (Pl.nm l : Int) 1099511627776 := by
  have := Pl.rav_num l 0 h
  rwa [show min ((0 : Nat) : Int) 1099511627776 = 0 from by omega] at this
theorem Pl.num_lt (l : List Nat) : ∀ v k, v < 10 ^ k → (∀ b ∈ l, b ≤ 57) → Pl.num v l < 10 ^ (k + l.length) := by
  induction l with
  | nil => intro v k h _; exact h
  | cons b r ih =>
    intro v k h hb
    rw [Pl.num_cons, List.length_cons, ← Nat.add_assoc, Nat.add_right_comm]
    refine ih _ (k + 1) ?_ (fun c hc => hb c (by simp [hc]))
    have := hb b (by simp)
    rw [Nat.pow_succ]
    omega
theorem Pl.nm_lt (l : List UInt8) (h : Pl.dig l) : Pl.nm l < 10 ^ l.length := by
  have := Pl.num_lt (l.map UInt8.toNat) 0 0 (by simp) (fun b hb => by
    obtain ⟨d, hd, rfl⟩ := List.mem_map.1 hb
    exact (h d hd).2)
  rw [Nat.zero_add, List.length_map] at this
  exact this
theorem Pl.dig_cv (l : List UInt8) (h : Pl.dig l) : ∀ b ∈ l, 0 ≤ Pl.cv (b.toNat : Int) := fun b hb => by
  rw [Pl.cv_digit _ (h b hb)]
  have := h b hb
  omega
def Pl.badL (B : Int) (b : UInt8) : Prop := Pl.cv (b.toNat : Int) < 0 ∨ B ≤ Pl.cv (b.toNat : Int)
instance (B : Int) (b : UInt8) : Decidable (Pl.badL B b) := inferInstanceAs (Decidable (_ ∨ _))
def Pl.goodH (A B : List UInt8) : Prop := 1 ≤ A.length ∧ A.length ≤ 2 ∧ Pl.allD A = true ∧ (A[0]?.getD 0).toNat ≠ 48 ∧ B ≠ []
def Pl.rbased (A B : List UInt8) : Int × Int × Int :=
  if ¬ (1 ≤ A.length ∧ A.length ≤ 2 ∧ Pl.allD A = true ∧ (A[0]?.getD 0).toNat ≠ 48 ∧ B ≠ []) then (0, 0, 3)
  else if (Pl.nm A : Int) < 2 ∨ 36 < (Pl.nm A : Int) then (0, 0, 3)
  else if ∃ b ∈ B, Pl.badL (Pl.nm A) b then (0, 0, 3)
  else if 2147483647 < Pl.rav (Pl.nm A) 0 B then (0, 0, 2) else (1, Pl.rav (Pl.nm A) 0 B, 0)
theorem Pl.rav_bd (B v : Int) (l : List UInt8) (hB : 0 ≤ B) : (∀ x ∈ l, 0 ≤ Pl.cv (x.toNat : Int)) → 0 ≤ v → v ≤ 1099511627776 → 0 ≤ Pl.rav B v l ∧ Pl.rav B v l ≤ 1099511627776 := by
  induction l generalizing v with
  | nil => intro _ h0 h1; exact ⟨h0, h1⟩
  | cons b r ih =>
    intro hc h0 h1
    rw [Pl.rav_cons]
    have := hc b (by simp)
    have m0 : 0 ≤ v * B := Int.mul_nonneg h0 hB
    exact ih _ (fun x hx => hc x (by simp [hx])) (by omega) (by omega)
end Go.Proofs.Ytpfkijjpophobaa
