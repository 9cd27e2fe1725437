/- tympanlaw15.OpNames, whatever the input. -/
import Derived.Test.YtenmbkngkabonaaL15
namespace Go.Proofs.Ytenmbkngkabonaa
set_option linter.unusedVariables false
open Go.RowKit

theorem walk_OpNames (a b : Int) (w0 : (Lit.int .u8 a).wf = true) (w1 : (Lit.int .u8 b).wf = true) (w : World) :
    Calls Try.prog 4 #[.int .u8 a, .int .u8 b] w fun e w' => e = .returned (.bool true) ∧ Grown w w' := by
  have ha : 0 ≤ a ∧ a ≤ 255 := by simp [Lit.wf, IntKind.min, IntKind.max, IntKind.signed, IntKind.bits] at w0; omega
  have hb : 0 ≤ b ∧ b ≤ 255 := by simp [Lit.wf, IntKind.min, IntKind.max, IntKind.signed, IntKind.bits] at w1; omega
  obtain ⟨T, hT⟩ : ∃ T, Pl.OpT2 T := ⟨_, Pl.opT2_is⟩
  have ea : a.tmod 162 = a % 162 := Int.tmod_eq_emod_of_nonneg ha.1
  have eb : b.tmod 162 = b % 162 := Int.tmod_eq_emod_of_nonneg hb.1
  obtain ⟨A, hA⟩ : ∃ A, a.tmod 162 = A := ⟨_, rfl⟩
  obtain ⟨B, hB⟩ : ∃ B, b.tmod 162 = B := ⟨_, rfl⟩
  have A0 : 0 ≤ A ∧ A ≤ 161 := by omega
  have B0 : 0 ≤ B ∧ B ≤ 161 := by omega
  have core : ∀ p q : Int, (1 ≤ p ∧ p ≤ 162) → (1 ≤ q ∧ q ≤ 162) → p ≤ q → ((1 + A ≤ 1 + B ∧ p = 1 + A ∧ q = 1 + B) ∨ (1 + B < 1 + A ∧ p = 1 + B ∧ q = 1 + A)) →
      Calls Try.prog 4 #[.int .u8 a, .int .u8 b] w fun e w' => e = .returned (.bool true) ∧ Grown w w' := by
    intro p q hp hq hpq hc
    obtain ⟨u1, u2⟩ := Pl.find_word hT (1 + A) (by omega) (by omega)
    have UX := fun w => number_any T hT.1 (Pl.opWord T (1 + A)) w
    rw [u1, u2] at UX
    have UE := fun w => number_any T hT.1 ⟨#[]⟩ w
    rw [Pl.find_none hT] at UE
    have N0 := fun w => name_any T hT.1 0 w
    rw [(Pl.word_out hT.1 0 (by omega)).1] at N0
    have NE := fun w => name_any T hT.1 163 w
    rw [(Pl.word_out hT.1 163 (by omega)).1] at NE
    have FE := fun w => family_any T hT.1 163 w
    rw [(Pl.word_out hT.1 163 (by omega)).2] at FE
    have hP := Pl.word_full hT p hp.1 hp.2
    have hL : ¬ (Pl.opWord T p).toList = [] := fun h => hP (Pl.toList_inj.1 (by rw [h]; simp [ByteArray.toList_eq]))
    have hi := Pl.word_inj hT p q hp hq
    have hcc : ((Pl.opWord T p).toList == (Pl.opWord T q).toList) = (p == q) := by
      rw [Bool.eq_iff_iff, beq_iff_eq, beq_iff_eq, Pl.toList_inj]
      exact hi
    exact names_core a b A B _ _ p q _ _ _ _ _ _ (p == q) ha.1 ha.2 hb.1 hb.2 hA A0.1 A0.2 hB B0.1 B0.2 rfl rfl (by omega) (by omega) (by omega) (by omega) hc
      (Lib.hid fun w => name_any T hT.1 (1 + A) w) (Lib.hid UX) (Lib.hid UE) (Lib.hid fun w => name_any T hT.1 p w) (Lib.hid fun w => name_any T hT.1 q w) (Lib.hid fun w => family_any T hT.1 p w) (Lib.hid fun w => family_any T hT.1 q w)
      (Lib.hid N0) (Lib.hid NE) (Lib.hid FE) (beq_eq_false_iff_ne.2 hL) (by
        cases h : (Pl.opWord T p).toList with
        | nil => exact absurd h hL
        | cons => rfl) hL hcc rfl (Pl.fam_bd hT p hp.1 hp.2).1 (Pl.fam_mono hT p q hp.1 hpq hq.2) (Pl.fam_bd hT q hq.1 hq.2).2 w
  by_cases h : A ≤ B
  · exact core (1 + A) (1 + B) (by omega) (by omega) (by omega) (.inl ⟨by omega, rfl, rfl⟩)
  · exact core (1 + B) (1 + A) (by omega) (by omega) (by omega) (.inr ⟨by omega, rfl, rfl⟩)
end Go.Proofs.Ytenmbkngkabonaa
