/- The walk of obj.Type (printed by wip/gen_type.py). -/
import Derived.Test.YtenmbkngkabonaaO3
namespace Go.Proofs.Ytenmbkngkabonaa
set_option linter.unusedVariables false
open Go.RowKit

def Pl.typ (k : Int) : ByteArray :=
  if k = 1 then ⟨#[110, 117, 108, 108, 116, 121, 112, 101]⟩ else
  if k = 2 then ⟨#[98, 111, 111, 108, 116, 121, 112, 101]⟩ else
  if k = 3 then ⟨#[105, 110, 116, 116, 121, 112, 101]⟩ else
  if k = 4 then ⟨#[102, 105, 120, 116, 121, 112, 101]⟩ else
  if k = 5 then ⟨#[110, 97, 109, 101, 116, 121, 112, 101]⟩ else
  if k = 6 then ⟨#[109, 97, 114, 107, 116, 121, 112, 101]⟩ else
  if k = 7 then ⟨#[111, 112, 116, 121, 112, 101]⟩ else
  if k = 8 then ⟨#[115, 116, 114, 105, 110, 103, 116, 121, 112, 101]⟩ else
  if k = 9 then ⟨#[97, 114, 114, 97, 121, 116, 121, 112, 101]⟩ else
  if k = 10 then ⟨#[100, 105, 99, 116, 116, 121, 112, 101]⟩ else
  if k = 11 then ⟨#[115, 97, 118, 101, 116, 121, 112, 101]⟩ else
  ⟨#[]⟩

theorem type_k1 (x : Bool) (n a l : Int) (s : ByteArray) (w : World) :
    Calls Try.prog 36 #[obv 1 x n a l s] w fun e w' => e = Ending.returned (.string ⟨#[110, 117, 108, 108, 116, 121, 112, 101]⟩) ∧ Grown w w' := by
  go_enter Try.func36, Try.ntmps36
  go_wp2
  go_ret
  exact ⟨rfl, by (repeat (first | exact Grown.refl _ | assumption | apply Grown.drew | apply Grown.alloc))⟩

theorem type_k2 (x : Bool) (n a l : Int) (s : ByteArray) (w : World) :
    Calls Try.prog 36 #[obv 2 x n a l s] w fun e w' => e = Ending.returned (.string ⟨#[98, 111, 111, 108, 116, 121, 112, 101]⟩) ∧ Grown w w' := by
  go_enter Try.func36, Try.ntmps36
  go_wp2
  go_ret
  exact ⟨rfl, by (repeat (first | exact Grown.refl _ | assumption | apply Grown.drew | apply Grown.alloc))⟩

theorem type_k3 (x : Bool) (n a l : Int) (s : ByteArray) (w : World) :
    Calls Try.prog 36 #[obv 3 x n a l s] w fun e w' => e = Ending.returned (.string ⟨#[105, 110, 116, 116, 121, 112, 101]⟩) ∧ Grown w w' := by
  go_enter Try.func36, Try.ntmps36
  go_wp2
  go_ret
  exact ⟨rfl, by (repeat (first | exact Grown.refl _ | assumption | apply Grown.drew | apply Grown.alloc))⟩

theorem type_k4 (x : Bool) (n a l : Int) (s : ByteArray) (w : World) :
    Calls Try.prog 36 #[obv 4 x n a l s] w fun e w' => e = Ending.returned (.string ⟨#[102, 105, 120, 116, 121, 112, 101]⟩) ∧ Grown w w' := by
  go_enter Try.func36, Try.ntmps36
  go_wp2
  go_ret
  exact ⟨rfl, by (repeat (first | exact Grown.refl _ | assumption | apply Grown.drew | apply Grown.alloc))⟩

theorem type_k5 (x : Bool) (n a l : Int) (s : ByteArray) (w : World) :
    Calls Try.prog 36 #[obv 5 x n a l s] w fun e w' => e = Ending.returned (.string ⟨#[110, 97, 109, 101, 116, 121, 112, 101]⟩) ∧ Grown w w' := by
  go_enter Try.func36, Try.ntmps36
  go_wp2
  go_ret
  exact ⟨rfl, by (repeat (first | exact Grown.refl _ | assumption | apply Grown.drew | apply Grown.alloc))⟩

theorem type_k6 (x : Bool) (n a l : Int) (s : ByteArray) (w : World) :
    Calls Try.prog 36 #[obv 6 x n a l s] w fun e w' => e = Ending.returned (.string ⟨#[109, 97, 114, 107, 116, 121, 112, 101]⟩) ∧ Grown w w' := by
  go_enter Try.func36, Try.ntmps36
  go_wp2
  go_ret
  exact ⟨rfl, by (repeat (first | exact Grown.refl _ | assumption | apply Grown.drew | apply Grown.alloc))⟩

theorem type_k7 (x : Bool) (n a l : Int) (s : ByteArray) (w : World) :
    Calls Try.prog 36 #[obv 7 x n a l s] w fun e w' => e = Ending.returned (.string ⟨#[111, 112, 116, 121, 112, 101]⟩) ∧ Grown w w' := by
  go_enter Try.func36, Try.ntmps36
  go_wp2
  go_ret
  exact ⟨rfl, by (repeat (first | exact Grown.refl _ | assumption | apply Grown.drew | apply Grown.alloc))⟩

theorem type_k8 (x : Bool) (n a l : Int) (s : ByteArray) (w : World) :
    Calls Try.prog 36 #[obv 8 x n a l s] w fun e w' => e = Ending.returned (.string ⟨#[115, 116, 114, 105, 110, 103, 116, 121, 112, 101]⟩) ∧ Grown w w' := by
  go_enter Try.func36, Try.ntmps36
  go_wp2
  go_ret
  exact ⟨rfl, by (repeat (first | exact Grown.refl _ | assumption | apply Grown.drew | apply Grown.alloc))⟩

theorem type_k9 (x : Bool) (n a l : Int) (s : ByteArray) (w : World) :
    Calls Try.prog 36 #[obv 9 x n a l s] w fun e w' => e = Ending.returned (.string ⟨#[97, 114, 114, 97, 121, 116, 121, 112, 101]⟩) ∧ Grown w w' := by
  go_enter Try.func36, Try.ntmps36
  go_wp2
  go_ret
  exact ⟨rfl, by (repeat (first | exact Grown.refl _ | assumption | apply Grown.drew | apply Grown.alloc))⟩

theorem type_k10 (x : Bool) (n a l : Int) (s : ByteArray) (w : World) :
    Calls Try.prog 36 #[obv 10 x n a l s] w fun e w' => e = Ending.returned (.string ⟨#[100, 105, 99, 116, 116, 121, 112, 101]⟩) ∧ Grown w w' := by
  go_enter Try.func36, Try.ntmps36
  go_wp2
  go_ret
  exact ⟨rfl, by (repeat (first | exact Grown.refl _ | assumption | apply Grown.drew | apply Grown.alloc))⟩

theorem type_k11 (x : Bool) (n a l : Int) (s : ByteArray) (w : World) :
    Calls Try.prog 36 #[obv 11 x n a l s] w fun e w' => e = Ending.returned (.string ⟨#[115, 97, 118, 101, 116, 121, 112, 101]⟩) ∧ Grown w w' := by
  go_enter Try.func36, Try.ntmps36
  go_wp2
  go_ret
  exact ⟨rfl, by (repeat (first | exact Grown.refl _ | assumption | apply Grown.drew | apply Grown.alloc))⟩

theorem type_else (k : Int) (hk : ¬ (k = 1 ∨ k = 2 ∨ k = 3 ∨ k = 4 ∨ k = 5 ∨ k = 6 ∨ k = 7 ∨ k = 8 ∨ k = 9 ∨ k = 10 ∨ k = 11)) (x : Bool) (n a l : Int) (s : ByteArray) (w : World) :
    Calls Try.prog 36 #[obv k x n a l s] w fun e w' => e = Ending.returned (.string ⟨#[]⟩) ∧ Grown w w' := by
  have k1 : (k == 1) = false := beq_eq_false_iff_ne.2 (by omega)
  have k2 : (k == 2) = false := beq_eq_false_iff_ne.2 (by omega)
  have k3 : (k == 3) = false := beq_eq_false_iff_ne.2 (by omega)
  have k4 : (k == 4) = false := beq_eq_false_iff_ne.2 (by omega)
  have k5 : (k == 5) = false := beq_eq_false_iff_ne.2 (by omega)
  have k6 : (k == 6) = false := beq_eq_false_iff_ne.2 (by omega)
  have k7 : (k == 7) = false := beq_eq_false_iff_ne.2 (by omega)
  have k8 : (k == 8) = false := beq_eq_false_iff_ne.2 (by omega)
  have k9 : (k == 9) = false := beq_eq_false_iff_ne.2 (by omega)
  have k10 : (k == 10) = false := beq_eq_false_iff_ne.2 (by omega)
  have k11 : (k == 11) = false := beq_eq_false_iff_ne.2 (by omega)
  clear hk
  go_enter Try.func36, Try.ntmps36
  go_wp2
  go_ret
  exact ⟨rfl, by (repeat (first | exact Grown.refl _ | assumption | apply Grown.drew | apply Grown.alloc))⟩

theorem type_any (k : Int) (x : Bool) (n a l : Int) (s : ByteArray) (w : World) :
    Calls Try.prog 36 #[obv k x n a l s] w fun e w' => e = Ending.returned (.string (Pl.typ k)) ∧ Grown w w' := by
  by_cases hk : k = 1 ∨ k = 2 ∨ k = 3 ∨ k = 4 ∨ k = 5 ∨ k = 6 ∨ k = 7 ∨ k = 8 ∨ k = 9 ∨ k = 10 ∨ k = 11
  · rcases hk with rfl | rfl | rfl | rfl | rfl | rfl | rfl | rfl | rfl | rfl | rfl
    · exact type_k1 x n a l s w
    · exact type_k2 x n a l s w
    · exact type_k3 x n a l s w
    · exact type_k4 x n a l s w
    · exact type_k5 x n a l s w
    · exact type_k6 x n a l s w
    · exact type_k7 x n a l s w
    · exact type_k8 x n a l s w
    · exact type_k9 x n a l s w
    · exact type_k10 x n a l s w
    · exact type_k11 x n a l s w
  · have e : Pl.typ k = ⟨#[]⟩ := by
      unfold Pl.typ
      simp only [not_or] at hk
      obtain ⟨h1, h2, h3, h4, h5, h6, h7, h8, h9, h10, h11⟩ := hk
      rw [if_neg h1, if_neg h2, if_neg h3, if_neg h4, if_neg h5, if_neg h6, if_neg h7, if_neg h8, if_neg h9, if_neg h10, if_neg h11]
    rw [e]
    exact type_else k hk x n a l s w
end Go.Proofs.Ytenmbkngkabonaa

