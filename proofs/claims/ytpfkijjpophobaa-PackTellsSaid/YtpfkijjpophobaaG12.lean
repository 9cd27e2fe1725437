/- Words and bytes, there and back: plain. -/
import Derived.Test.YtpfkijjpophobaaG11
namespace Go.Proofs.Ytpfkijjpophobaa
set_option linter.unusedVariables false
open Go.RowKit

theorem drop_step {L : List UInt8} {a : Nat} {b : UInt8} {B : List UInt8} (h : L.drop a = b :: B) : L[a]? = some b ∧ L.drop (a + 1) = B ∧ a < L.length := by
  have h1 : (L.drop a)[0]? = some b := by rw [h]; rfl
  rw [List.getElem?_drop, Nat.add_zero] at h1
  refine ⟨h1, ?_, (List.getElem?_eq_some_iff.1 h1).1⟩
  rw [← List.drop_drop, h]
  rfl
theorem drop_app {L : List UInt8} {a : Nat} {X B : List UInt8} (h : L.drop a = X ++ B) : L.drop (a + X.length) = B := by
  rw [← List.drop_drop, h, List.drop_left]
theorem drop_nil {L : List UInt8} {a : Nat} (h : L.drop a = []) : L[a]? = none := by
  rw [List.getElem?_eq_none_iff]
  exact List.drop_eq_nil_iff.1 h
theorem Pl.num7_lo (m : Nat) (h : m < 128) : Pl.num7 m = [UInt8.ofNat m] := by rw [Pl.num7_eq, if_pos h]
theorem Pl.num7_hi (m : Nat) (h : ¬ m < 128) : Pl.num7 m = UInt8.ofNat (m % 128 + 128) :: Pl.num7 (m / 128) := by rw [Pl.num7_eq, if_neg h]
theorem ofNat_toNat (m : Nat) (h : m < 256) : (UInt8.ofNat m).toNat = m := by rw [UInt8.toNat_ofNat', Nat.mod_eq_of_lt (by omega)]
theorem pow_join (m p : Nat) : m % 128 * p + m / 128 * (p * 128) = m * p := by
  have h : m / 128 * (p * 128) = (128 * (m / 128)) * p := by rw [Nat.mul_comm p 128, ← Nat.mul_assoc, Nat.mul_comm (m / 128) 128]
  rw [h, ← Nat.add_mul, Nat.add_comm, Nat.div_add_mod]
theorem Pl.tk_num (L : List UInt8) : ∀ (k i a n m : Nat) (B : List UInt8), m < 128 ^ k → 0 < k → (0 < i → 0 < m) → L.drop a = Pl.num7 m ++ B →
    Pl.tk L k i a n = (((n + m * 128 ^ i : Nat) : Int), ((a + (Pl.num7 m).length : Nat) : Int), 0)
  | 0, _, _, _, _, _, _, h, _, _ => by omega
  | k + 1, i, a, n, m, B, hm, _, hi, h => by
    by_cases h1 : m < 128
    · rw [Pl.num7_lo m h1] at h ⊢
      obtain ⟨q1, q2, q3⟩ := drop_step (b := UInt8.ofNat m) (B := B) h
      rw [Pl.tk_some L k i a n _ q1, ofNat_toNat m (by omega), if_neg (by omega), if_pos h1, Nat.mod_eq_of_lt h1]
      rfl
    · rw [Pl.num7_hi m h1] at h ⊢
      obtain ⟨q1, q2, q3⟩ := drop_step (b := UInt8.ofNat (m % 128 + 128)) (B := Pl.num7 (m / 128) ++ B) h
      have hk : 0 < k := by
        rcases Nat.eq_zero_or_pos k with rfl | h
        · simp at hm; omega
        · exact h
      rw [Pl.tk_some L k i a n _ q1, ofNat_toNat _ (by omega), if_neg (by omega), if_neg (by omega), Pl.tk_num L k (i + 1) (a + 1) _ (m / 128) B (by rw [Nat.pow_succ] at hm; omega) hk (fun _ => by omega) q2, Nat.pow_succ,
        show (m % 128 + 128) % 128 = m % 128 by omega, Nat.add_assoc, pow_join, List.length_cons, show a + 1 + (Pl.num7 (m / 128)).length = a + ((Pl.num7 (m / 128)).length + 1) by omega]
theorem Pl.tk_cut (L : List UInt8) : ∀ (k i a n m : Nat) (P X : List UInt8), m < 128 ^ k → 0 < k → X ≠ [] → Pl.num7 m = P ++ X → L.drop a = P →
    Pl.tk L k i a n = (0, 0, 4)
  | 0, _, _, _, _, _, _, _, h, _, _, _ => by omega
  | k + 1, i, a, n, m, P, X, hm, _, hX, hP, h => by
    rcases P with _ | ⟨b, P⟩
    · rw [Pl.tk_none L k i a n (drop_nil h)]
    · by_cases h1 : m < 128
      · rw [Pl.num7_lo m h1, List.cons_append] at hP
        injection hP with _ hP
        exact absurd (List.append_eq_nil_iff.1 hP.symm).2 hX
      · rw [Pl.num7_hi m h1, List.cons_append] at hP
        injection hP with hb hP
        obtain ⟨q1, q2, q3⟩ := drop_step h
        have hk : 0 < k := by
          rcases Nat.eq_zero_or_pos k with rfl | h
          · simp at hm; omega
          · exact h
        rw [Pl.tk_some L k i a n _ q1, ← hb, ofNat_toNat _ (by omega), if_neg (by omega), if_neg (by omega)]
        exact Pl.tk_cut L k (i + 1) (a + 1) _ (m / 128) P X (by rw [Nat.pow_succ] at hm; omega) hk hX hP q2
theorem Pl.tk_back (L : List UInt8) : ∀ (k i a n : Nat), (Pl.tk L k i a n).2.2 = 0 → ∃ m, (Pl.tk L k i a n).1 = ((n + m * 128 ^ i : Nat) : Int) ∧ (Pl.tk L k i a n).2.1 = ((a + (Pl.num7 m).length : Nat) : Int) ∧ L.drop a = Pl.num7 m ++ L.drop (a + (Pl.num7 m).length) ∧ (0 < i → 0 < m)
  | 0, _, _, _, h => by cases h
  | k + 1, i, a, n, h => by
    cases hb : L[a]? with
    | none => rw [Pl.tk_none L k i a n hb] at h; cases h
    | some b =>
      have hc : L.drop a = b :: L.drop (a + 1) := by
        have hl := (List.getElem?_eq_some_iff.1 hb)
        rw [List.drop_eq_getElem_cons hl.1, hl.2]
      have hbl := b.toNat_lt
      rw [Pl.tk_some L k i a n b hb] at h ⊢
      by_cases h0 : b.toNat = 0 ∧ 0 < i
      · rw [if_pos h0] at h; cases h
      · rw [if_neg h0] at h ⊢
        by_cases h1 : b.toNat < 128
        · rw [if_pos h1] at h ⊢
          refine ⟨b.toNat, by rw [Nat.mod_eq_of_lt h1], ?_, ?_, by omega⟩
          · rw [Pl.num7_lo _ h1]; rfl
          · rw [Pl.num7_lo _ h1, UInt8.ofNat_toNat]; exact hc
        · rw [if_neg h1] at h ⊢
          obtain ⟨m, e1, e2, e3, e4⟩ := Pl.tk_back L k (i + 1) (a + 1) _ h
          have hm := e4 (by omega)
          have hM : ¬ m * 128 + b.toNat % 128 < 128 := by omega
          have hmod : (m * 128 + b.toNat % 128) % 128 = b.toNat % 128 := by omega
          have hdiv : (m * 128 + b.toNat % 128) / 128 = m := by omega
          have hbb : UInt8.ofNat (b.toNat % 128 + 128) = b := by
            rw [show b.toNat % 128 + 128 = b.toNat by omega, UInt8.ofNat_toNat]
          refine ⟨m * 128 + b.toNat % 128, ?_, ?_, ?_, fun _ => by omega⟩
          · rw [e1]
            congr 1
            have := pow_join (m * 128 + b.toNat % 128) (128 ^ i)
            rw [hmod, hdiv] at this
            rw [Nat.pow_succ, Nat.add_assoc, this]
          · rw [e2, Pl.num7_hi _ hM, hdiv, List.length_cons]
            congr 1
            omega
          · rw [Pl.num7_hi _ hM, hdiv, hmod, hbb, List.length_cons, show a + ((Pl.num7 m).length + 1) = a + 1 + (Pl.num7 m).length by omega, List.cons_append, ← e3]
            exact hc
/-- a number of several bytes that does not end, or ends with 0 -/
theorem Pl.tk_long (L : List UInt8) : ∀ (k i a n : Nat) (Q B : List UInt8), (∀ b ∈ Q, 128 ≤ b.toNat) → (0 < i ∨ 0 < Q.length) → L.drop a = Q ++ 0 :: B → (Pl.tk L k i a n).2.2 = 3
  | 0, _, _, _, _, _, _, _, _ => rfl
  | k + 1, i, a, n, Q, B, hQ, hi, h => by
    rcases Q with _ | ⟨b, Q⟩
    · obtain ⟨q1, _, _⟩ := drop_step (B := B) h
      rw [Pl.tk_some L k i a n _ q1, if_pos ⟨rfl, by simpa using hi⟩]
    · obtain ⟨q1, q2, _⟩ := drop_step (B := Q ++ 0 :: B) h
      have hb := hQ b (by simp)
      rw [Pl.tk_some L k i a n _ q1, if_neg (by omega), if_neg (by omega)]
      exact Pl.tk_long L k (i + 1) (a + 1) _ Q B (fun c hc => hQ c (by simp [hc])) (.inl (by omega)) q2
theorem Pl.take7_num (L : List UInt8) (a m : Nat) (B : List UInt8) (hm : m < 34359738368) (h : L.drop a = Pl.num7 m ++ B) : Pl.take7 L a = ((m : Int), ((a + (Pl.num7 m).length : Nat) : Int), 0) := by
  have := Pl.tk_num L 5 0 a 0 m B hm (by omega) (fun h => absurd h (by omega)) h
  rw [Pl.take7, this]
  simp
theorem Pl.take7_cut (L : List UInt8) (a m : Nat) (P X : List UInt8) (hm : m < 34359738368) (hX : X ≠ []) (hP : Pl.num7 m = P ++ X) (h : L.drop a = P) : Pl.take7 L a = (0, 0, 4) :=
  Pl.tk_cut L 5 0 a 0 m P X hm (by omega) hX hP h
theorem Pl.take7_back (L : List UInt8) (a : Nat) (h : (Pl.take7 L a).2.2 = 0) : ∃ m : Nat, (Pl.take7 L a).1 = (m : Int) ∧ (Pl.take7 L a).2.1 = ((a + (Pl.num7 m).length : Nat) : Int) ∧ L.drop a = Pl.num7 m ++ L.drop (a + (Pl.num7 m).length) := by
  obtain ⟨m, e1, e2, e3, _⟩ := Pl.tk_back L 5 0 a 0 h
  exact ⟨m, by rw [Pl.take7, e1]; simp, e2, e3⟩
theorem Pl.unf_fold (n : Int) : Pl.unf (Pl.fold n : Nat) = n := by
  unfold Pl.unf Pl.fold
  split <;> split <;> omega
theorem Pl.fold_unf (m : Nat) : Pl.fold (Pl.unf (m : Int)) = m := by
  unfold Pl.unf Pl.fold
  split <;> split <;> omega
end Go.Proofs.Ytpfkijjpophobaa
