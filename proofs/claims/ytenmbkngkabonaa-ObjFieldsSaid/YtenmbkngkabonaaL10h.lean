/- tympanlaw10.ObjFields, whatever the input. -/
import Derived.Test.YtenmbkngkabonaaL10g
namespace Go.Proofs.Ytenmbkngkabonaa
set_option linter.unusedVariables false
open Go.RowKit

theorem row_three (k : Int) : ((k == 8) = true) ∨ ((k == 8) = false ∧ (k == 9) = true) ∨ ((k == 8) = false ∧ (k == 9) = false) := by
  by_cases h : k = 8
  · exact .inl (beq_iff_eq.2 h)
  · by_cases h' : k = 9
    · exact .inr (.inl ⟨Pl.nek h, beq_iff_eq.2 h'⟩)
    · exact .inr (.inr ⟨Pl.nek h, Pl.nek h'⟩)
theorem Pl.x_ne : ¬ (⟨#[120]⟩ : ByteArray) = ⟨#[]⟩ := by intro h; cases h
theorem Pl.may_s {k n a l : Int} (h : ¬ k = 5) : ¬ Pl.may k n a l ⟨#[120]⟩ := by
  unfold Pl.may Pl.bare
  rintro (h1 | h1 | h1 | h1)
  · exact Pl.x_ne h1.2.2.2.2
  · exact h h1.1
  · exact Pl.x_ne h1.2.1
  · exact Pl.x_ne h1.1.2.2
theorem Pl.may_a {k n l : Int} {s : ByteArray} (h : ¬ (k = 8 ∨ k = 9)) : ¬ Pl.may k n 1 l s := by
  unfold Pl.may Pl.bare
  rintro (h1 | h1 | h1 | h1)
  · exact absurd h1.2.2.1 (by omega)
  · exact absurd h1.2.2.1 (by omega)
  · exact h h1.1
  · exact absurd h1.1.1 (by omega)
theorem Pl.may_l {k n a : Int} {s : ByteArray} (h : ¬ (k = 8 ∨ k = 9)) : ¬ Pl.may k n a 1 s := by
  unfold Pl.may Pl.bare
  rintro (h1 | h1 | h1 | h1)
  · exact absurd h1.2.2.2.1 (by omega)
  · exact absurd h1.2.2.2.1 (by omega)
  · exact h h1.1
  · exact absurd h1.1.2.1 (by omega)
theorem Pl.may_n {k a l : Int} {s : ByteArray} (h : k = 1 ∨ k = 6 ∨ k = 5) : ¬ Pl.may k 1 a l s := by
  unfold Pl.may Pl.bare
  rintro (h1 | h1 | h1 | h1)
  · exact absurd h1.2.1 (by omega)
  · exact absurd h1.2.1 (by omega)
  · exact absurd h1.1 (by omega)
  · exact absurd h1.2 (by omega)

theorem walk_ObjFields (k : Int) (x : Bool) (n a l : Int) (s : ByteArray) (u : Int) (hu : (Lit.int .u8 u).wf = true) (w : World) :
    Calls Try.prog 7 #[obv k x n a l s, .int .u8 u] w fun e w' => e = .returned (.bool true) ∧ Grown w w' := by
  have hu : 0 ≤ u ∧ u ≤ 255 := by simp [Lit.wf, IntKind.min, IntKind.max, IntKind.signed, IntKind.bits] at hu; omega
  obtain ⟨u1, u2⟩ := hu
  by_cases hm : Pl.may k n a l s
  case neg => exact fields_none k x n a l s u (Lib.hid fun W => may_no k x n a l s hm W) w
  have CM := Lib.hid (fun W => may_yes k x n a l s hm W)
  have CT := Lib.hid (fun n a l s W => type_any k x n a l s W)
  have hT : ((Pl.typ k).toList == (Pl.typ k).toList) = true := by simp
  have e : u.tmod 4 = u % 4 := Int.tmod_eq_emod_of_nonneg u1
  have hc : u.tmod 4 = 0 ∨ u.tmod 4 = 1 ∨ u.tmod 4 = 2 ∨ u.tmod 4 = 3 := by omega
  rcases hc with h | h | h | h
  · by_cases k5 : k = 5
    · exact fields_e0 k x n a l s u h u1 u2 CM (beq_iff_eq.2 k5) (Pl.nek (by omega)) (Pl.nek (by omega)) w
    · exact fields_m0 k x n a l s u h u1 u2 CM (Lib.hid fun W => may_no k x n a l _ (Pl.may_s k5) W) _ hT CT (Pl.nek k5) (row_three k) w
  · by_cases kr : k = 8 ∨ k = 9
    · exact fields_e1 k x n a l s u h u1 u2 CM (by rcases row_three k with r | r | r; exact .inl r; exact .inr r; exact absurd kr (by have := beq_eq_false_iff_ne.1 r.1; have := beq_eq_false_iff_ne.1 r.2; omega)) w
    · exact fields_m1 k x n a l s u h u1 u2 CM (Lib.hid fun W => may_no k x n 1 l s (Pl.may_a kr) W) _ hT CT (Pl.nek (by omega)) (Pl.nek (by omega)) w
  · by_cases kr : k = 8 ∨ k = 9
    · exact fields_e2 k x n a l s u h u1 u2 CM (by rcases row_three k with r | r | r; exact .inl r; exact .inr r; exact absurd kr (by have := beq_eq_false_iff_ne.1 r.1; have := beq_eq_false_iff_ne.1 r.2; omega)) w
    · exact fields_m2 k x n a l s u h u1 u2 CM (Lib.hid fun W => may_no k x n a 1 s (Pl.may_l kr) W) _ hT CT (Pl.nek (by omega)) (Pl.nek (by omega)) w
  · by_cases kr : k = 1 ∨ k = 6 ∨ k = 5
    · refine fields_m3 k x n a l s u h u1 u2 CM (Lib.hid fun W => may_no k x 1 a l s (Pl.may_n kr) W) _ hT CT ?_ (Pl.nek (by omega)) (Pl.nek (by omega)) w
      rcases kr with rfl | rfl | rfl <;> decide
    · exact fields_e3 k x n a l s u h u1 u2 CM (bne_iff_ne.2 (by omega)) (bne_iff_ne.2 (by omega)) (bne_iff_ne.2 (by omega)) (row_three k) w
end Go.Proofs.Ytenmbkngkabonaa
