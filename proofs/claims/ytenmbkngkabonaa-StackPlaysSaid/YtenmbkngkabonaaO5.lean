/- obj.May, whatever the object (printed by wip/gen_may2.py). -/
import Derived.Test.YtenmbkngkabonaaO4a
import Derived.Test.YtenmbkngkabonaaO4b
import Derived.Test.YtenmbkngkabonaaO4c
namespace Go.Proofs.Ytenmbkngkabonaa
set_option linter.unusedVariables false
open Go.RowKit

def Pl.bare (a l : Int) (s : ByteArray) : Prop := a = 0 ∧ l = 0 ∧ s = ⟨#[]⟩
def Pl.may (k n a l : Int) (s : ByteArray) : Prop :=
  ((k = 1 ∨ k = 6) ∧ n = 0 ∧ Pl.bare a l s) ∨ (k = 5 ∧ n = 0 ∧ a = 0 ∧ l = 0 ∧ (s.size : Int) ≤ 100) ∨
  ((k = 8 ∨ k = 9) ∧ s = ⟨#[]⟩ ∧ 0 ≤ n ∧ n ≤ 40000 ∧ 0 ≤ a ∧ a ≤ 40000 ∧ 0 ≤ l ∧ l ≤ 40000) ∨
  (Pl.bare a l s ∧ ((k = 2 ∧ 0 ≤ n ∧ n ≤ 1) ∨ (k = 3 ∧ -2147483647 ≤ n ∧ n ≤ 2147483647) ∨ (k = 4 ∧ -1073741823 ≤ n ∧ n ≤ 1073741823) ∨ (k = 7 ∧ 1 ≤ n ∧ n ≤ 200) ∨ (k = 10 ∧ 0 ≤ n ∧ n ≤ 40000) ∨ (k = 11 ∧ 1 ≤ n ∧ n ≤ 2147483647)))
theorem Pl.bytes_ne {s : ByteArray} (h : ¬ s = ⟨#[]⟩) : ¬ s.toList = [] := fun e => h (by
  rw [ByteArray.toList_eq] at e
  obtain ⟨d⟩ := s
  simp at e
  subst e
  rfl)
theorem Pl.bytes_ne1 {s : ByteArray} (h : ¬ s = ⟨#[]⟩) : (s.toList == []) = false := beq_eq_false_iff_ne.2 (Pl.bytes_ne h)
theorem Pl.bytes_ne2 {s : ByteArray} (h : ¬ s = ⟨#[]⟩) : s.toList.isEmpty = false := by
  cases e : s.toList with
  | nil => exact absurd e (Pl.bytes_ne h)
  | cons => rfl
theorem Pl.ne0 {v : Int} (h : ¬ v = 0) : (v == 0) = false := beq_eq_false_iff_ne.2 h

abbrev MayIs (b : Bool) (k : Int) (x : Bool) (n a l : Int) (s : ByteArray) (w : World) : Prop :=
  Calls Try.prog 35 #[obv k x n a l s] w fun e w' => e = Ending.returned (.bool b) ∧ Grown w w'

theorem may_yes (k : Int) (x : Bool) (n a l : Int) (s : ByteArray) (h : Pl.may k n a l s) (w : World) : MayIs true k x n a l s w := by
  rcases h with ⟨rfl | rfl, rfl, rfl, rfl, rfl⟩ | ⟨rfl, rfl, rfl, rfl, h1⟩ | ⟨rfl | rfl, rfl, h1, h2, h3, h4, h5, h6⟩ | ⟨⟨rfl, rfl, rfl⟩, ⟨rfl, h1, h2⟩ | ⟨rfl, h1, h2⟩ | ⟨rfl, h1, h2⟩ | ⟨rfl, h1, h2⟩ | ⟨rfl, h1, h2⟩ | ⟨rfl, h1, h2⟩⟩
  · exact may_k1_yes x w
  · exact may_k6_yes x w
  · exact may_k5_yes x s h1 w
  · exact may_k8_yes x n a l h1 h2 h3 h4 h5 h6 w
  · exact may_k9_yes x n a l h1 h2 h3 h4 h5 h6 w
  · exact may_k2_yes x n h1 h2 w
  · exact may_int_yes x n h1 h2 w
  · exact may_fix_yes x n h1 h2 w
  · exact may_k7_yes x n h1 h2 w
  · exact may_k10_yes x n h1 h2 w
  · exact may_k11_yes x n h1 h2 w

theorem may_no1 (x : Bool) (n a l : Int) (s : ByteArray) (h : ¬ Pl.may 1 n a l s) (w : World) : MayIs false 1 x n a l s w := by
  by_cases hn : n = 0
  case neg => exact may_k1_bad_n x n a l s (Pl.ne0 hn) w
  subst hn
  by_cases ha : a = 0
  case neg => exact may_k1_bad_a x a l s (Pl.ne0 ha) w
  subst ha
  by_cases hl : l = 0
  case neg => exact may_k1_bad_l x l s (Pl.ne0 hl) w
  subst hl
  by_cases hs : s = ⟨#[]⟩
  case neg => exact may_k1_bad_s x s (Pl.bytes_ne1 hs) (Pl.bytes_ne2 hs) (Pl.bytes_ne hs) w
  subst hs
  exact absurd (by unfold Pl.may Pl.bare; simp) h

theorem may_no2 (x : Bool) (n a l : Int) (s : ByteArray) (h : ¬ Pl.may 2 n a l s) (w : World) : MayIs false 2 x n a l s w := by
  by_cases ha : a = 0
  case neg => exact may_k2_bad_a x n a l s (Pl.ne0 ha) w
  subst ha
  by_cases hl : l = 0
  case neg => exact may_k2_bad_l x n l s (Pl.ne0 hl) w
  subst hl
  by_cases hs : s = ⟨#[]⟩
  case neg => exact may_k2_bad_s x n s (Pl.bytes_ne1 hs) (Pl.bytes_ne2 hs) (Pl.bytes_ne hs) w
  subst hs
  by_cases h1 : n < 0
  · exact may_k2_low x n h1 w
  by_cases h2 : 1 < n
  · exact may_k2_high x n (by omega) h2 w
  exact absurd (by unfold Pl.may Pl.bare; simp; omega) h

theorem may_no3 (x : Bool) (n a l : Int) (s : ByteArray) (h : ¬ Pl.may 3 n a l s) (w : World) : MayIs false 3 x n a l s w := by
  by_cases ha : a = 0
  case neg => exact may_k3_bad_a x n a l s (Pl.ne0 ha) w
  subst ha
  by_cases hl : l = 0
  case neg => exact may_k3_bad_l x n l s (Pl.ne0 hl) w
  subst hl
  by_cases hs : s = ⟨#[]⟩
  case neg => exact may_k3_bad_s x n s (Pl.bytes_ne1 hs) (Pl.bytes_ne2 hs) (Pl.bytes_ne hs) w
  subst hs
  by_cases h1 : n < -2147483647
  · exact may_int_low x n h1 w
  by_cases h2 : 2147483647 < n
  · exact may_int_high x n (by omega) h2 w
  exact absurd (by unfold Pl.may Pl.bare; simp; omega) h

theorem may_no4 (x : Bool) (n a l : Int) (s : ByteArray) (h : ¬ Pl.may 4 n a l s) (w : World) : MayIs false 4 x n a l s w := by
  by_cases ha : a = 0
  case neg => exact may_k4_bad_a x n a l s (Pl.ne0 ha) w
  subst ha
  by_cases hl : l = 0
  case neg => exact may_k4_bad_l x n l s (Pl.ne0 hl) w
  subst hl
  by_cases hs : s = ⟨#[]⟩
  case neg => exact may_k4_bad_s x n s (Pl.bytes_ne1 hs) (Pl.bytes_ne2 hs) (Pl.bytes_ne hs) w
  subst hs
  by_cases h1 : n < -1073741823
  · exact may_fix_low x n h1 w
  by_cases h2 : 1073741823 < n
  · exact may_fix_high x n (by omega) h2 w
  exact absurd (by unfold Pl.may Pl.bare; simp; omega) h

theorem may_no5 (x : Bool) (n a l : Int) (s : ByteArray) (h : ¬ Pl.may 5 n a l s) (w : World) : MayIs false 5 x n a l s w := by
  by_cases hn : n = 0
  case neg => exact may_k5_bad_n x n a l s (Pl.ne0 hn) w
  subst hn
  by_cases ha : a = 0
  case neg => exact may_k5_bad_a x a l s (Pl.ne0 ha) w
  subst ha
  by_cases hl : l = 0
  case neg => exact may_k5_bad_l x l s (Pl.ne0 hl) w
  subst hl
  by_cases h1 : 100 < (s.size : Int)
  · exact may_k5_high x s h1 w
  exact absurd (by unfold Pl.may Pl.bare; simp; omega) h

theorem may_no6 (x : Bool) (n a l : Int) (s : ByteArray) (h : ¬ Pl.may 6 n a l s) (w : World) : MayIs false 6 x n a l s w := by
  by_cases hn : n = 0
  case neg => exact may_k6_bad_n x n a l s (Pl.ne0 hn) w
  subst hn
  by_cases ha : a = 0
  case neg => exact may_k6_bad_a x a l s (Pl.ne0 ha) w
  subst ha
  by_cases hl : l = 0
  case neg => exact may_k6_bad_l x l s (Pl.ne0 hl) w
  subst hl
  by_cases hs : s = ⟨#[]⟩
  case neg => exact may_k6_bad_s x s (Pl.bytes_ne1 hs) (Pl.bytes_ne2 hs) (Pl.bytes_ne hs) w
  subst hs
  exact absurd (by unfold Pl.may Pl.bare; simp) h

theorem may_no7 (x : Bool) (n a l : Int) (s : ByteArray) (h : ¬ Pl.may 7 n a l s) (w : World) : MayIs false 7 x n a l s w := by
  by_cases ha : a = 0
  case neg => exact may_k7_bad_a x n a l s (Pl.ne0 ha) w
  subst ha
  by_cases hl : l = 0
  case neg => exact may_k7_bad_l x n l s (Pl.ne0 hl) w
  subst hl
  by_cases hs : s = ⟨#[]⟩
  case neg => exact may_k7_bad_s x n s (Pl.bytes_ne1 hs) (Pl.bytes_ne2 hs) (Pl.bytes_ne hs) w
  subst hs
  by_cases h1 : n < 1
  · exact may_k7_low x n h1 w
  by_cases h2 : 200 < n
  · exact may_k7_high x n (by omega) h2 w
  exact absurd (by unfold Pl.may Pl.bare; simp; omega) h

theorem may_no8 (x : Bool) (n a l : Int) (s : ByteArray) (h : ¬ Pl.may 8 n a l s) (w : World) : MayIs false 8 x n a l s w := by
  by_cases hs : s = ⟨#[]⟩
  case neg => exact may_k8_bad_s x n a l s (Pl.bytes_ne1 hs) (Pl.bytes_ne2 hs) (Pl.bytes_ne hs) w
  subst hs
  by_cases pn : n < 0
  · exact may_k8_lown x n a l pn w
  by_cases qn : 40000 < n
  · exact may_k8_highn x n a l (by omega) qn w
  by_cases pa : a < 0
  · exact may_k8_lowa x n a l (by omega) (by omega) pa w
  by_cases qa : 40000 < a
  · exact may_k8_higha x n a l (by omega) (by omega) (by omega) qa w
  by_cases pl : l < 0
  · exact may_k8_lowl x n a l (by omega) (by omega) (by omega) (by omega) pl w
  by_cases ql : 40000 < l
  · exact may_k8_highl x n a l (by omega) (by omega) (by omega) (by omega) (by omega) ql w
  exact absurd (by unfold Pl.may Pl.bare; simp; omega) h

theorem may_no9 (x : Bool) (n a l : Int) (s : ByteArray) (h : ¬ Pl.may 9 n a l s) (w : World) : MayIs false 9 x n a l s w := by
  by_cases hs : s = ⟨#[]⟩
  case neg => exact may_k9_bad_s x n a l s (Pl.bytes_ne1 hs) (Pl.bytes_ne2 hs) (Pl.bytes_ne hs) w
  subst hs
  by_cases pn : n < 0
  · exact may_k9_lown x n a l pn w
  by_cases qn : 40000 < n
  · exact may_k9_highn x n a l (by omega) qn w
  by_cases pa : a < 0
  · exact may_k9_lowa x n a l (by omega) (by omega) pa w
  by_cases qa : 40000 < a
  · exact may_k9_higha x n a l (by omega) (by omega) (by omega) qa w
  by_cases pl : l < 0
  · exact may_k9_lowl x n a l (by omega) (by omega) (by omega) (by omega) pl w
  by_cases ql : 40000 < l
  · exact may_k9_highl x n a l (by omega) (by omega) (by omega) (by omega) (by omega) ql w
  exact absurd (by unfold Pl.may Pl.bare; simp; omega) h

theorem may_no10 (x : Bool) (n a l : Int) (s : ByteArray) (h : ¬ Pl.may 10 n a l s) (w : World) : MayIs false 10 x n a l s w := by
  by_cases ha : a = 0
  case neg => exact may_k10_bad_a x n a l s (Pl.ne0 ha) w
  subst ha
  by_cases hl : l = 0
  case neg => exact may_k10_bad_l x n l s (Pl.ne0 hl) w
  subst hl
  by_cases hs : s = ⟨#[]⟩
  case neg => exact may_k10_bad_s x n s (Pl.bytes_ne1 hs) (Pl.bytes_ne2 hs) (Pl.bytes_ne hs) w
  subst hs
  by_cases h1 : n < 0
  · exact may_k10_low x n h1 w
  by_cases h2 : 40000 < n
  · exact may_k10_high x n (by omega) h2 w
  exact absurd (by unfold Pl.may Pl.bare; simp; omega) h

theorem may_no11 (x : Bool) (n a l : Int) (s : ByteArray) (h : ¬ Pl.may 11 n a l s) (w : World) : MayIs false 11 x n a l s w := by
  by_cases ha : a = 0
  case neg => exact may_k11_bad_a x n a l s (Pl.ne0 ha) w
  subst ha
  by_cases hl : l = 0
  case neg => exact may_k11_bad_l x n l s (Pl.ne0 hl) w
  subst hl
  by_cases hs : s = ⟨#[]⟩
  case neg => exact may_k11_bad_s x n s (Pl.bytes_ne1 hs) (Pl.bytes_ne2 hs) (Pl.bytes_ne hs) w
  subst hs
  by_cases h1 : n < 1
  · exact may_k11_low x n h1 w
  by_cases h2 : 2147483647 < n
  · exact may_k11_high x n (by omega) h2 w
  exact absurd (by unfold Pl.may Pl.bare; simp; omega) h

theorem Pl.nek {v c : Int} (h : ¬ v = c) : (v == c) = false := beq_eq_false_iff_ne.2 h
theorem may_noelse (k : Int) (hk : ¬ (k = 1 ∨ k = 2 ∨ k = 3 ∨ k = 4 ∨ k = 5 ∨ k = 6 ∨ k = 7 ∨ k = 8 ∨ k = 9 ∨ k = 10 ∨ k = 11)) (x : Bool) (n a l : Int) (s : ByteArray) (w : World) : MayIs false k x n a l s w := by
  by_cases hn : n = 0
  case neg => exact may_else_bad_n x n a l s k hk (Pl.nek (fun e => hk (by simp [e]))) (Pl.nek (fun e => hk (by simp [e]))) (Pl.nek (fun e => hk (by simp [e]))) (Pl.nek (fun e => hk (by simp [e]))) (Pl.nek (fun e => hk (by simp [e]))) (Pl.nek (fun e => hk (by simp [e]))) (Pl.nek (fun e => hk (by simp [e]))) (Pl.nek (fun e => hk (by simp [e]))) (Pl.nek (fun e => hk (by simp [e]))) (Pl.nek (fun e => hk (by simp [e]))) (Pl.nek (fun e => hk (by simp [e]))) (Pl.ne0 hn) w
  subst hn
  by_cases ha : a = 0
  case neg => exact may_else_bad_a x a l s k hk (Pl.nek (fun e => hk (by simp [e]))) (Pl.nek (fun e => hk (by simp [e]))) (Pl.nek (fun e => hk (by simp [e]))) (Pl.nek (fun e => hk (by simp [e]))) (Pl.nek (fun e => hk (by simp [e]))) (Pl.nek (fun e => hk (by simp [e]))) (Pl.nek (fun e => hk (by simp [e]))) (Pl.nek (fun e => hk (by simp [e]))) (Pl.nek (fun e => hk (by simp [e]))) (Pl.nek (fun e => hk (by simp [e]))) (Pl.nek (fun e => hk (by simp [e]))) (Pl.ne0 ha) w
  subst ha
  by_cases hl : l = 0
  case neg => exact may_else_bad_l x l s k hk (Pl.nek (fun e => hk (by simp [e]))) (Pl.nek (fun e => hk (by simp [e]))) (Pl.nek (fun e => hk (by simp [e]))) (Pl.nek (fun e => hk (by simp [e]))) (Pl.nek (fun e => hk (by simp [e]))) (Pl.nek (fun e => hk (by simp [e]))) (Pl.nek (fun e => hk (by simp [e]))) (Pl.nek (fun e => hk (by simp [e]))) (Pl.nek (fun e => hk (by simp [e]))) (Pl.nek (fun e => hk (by simp [e]))) (Pl.nek (fun e => hk (by simp [e]))) (Pl.ne0 hl) w
  subst hl
  by_cases hs : s = ⟨#[]⟩
  case neg => exact may_else_bad_s x s k hk (Pl.nek (fun e => hk (by simp [e]))) (Pl.nek (fun e => hk (by simp [e]))) (Pl.nek (fun e => hk (by simp [e]))) (Pl.nek (fun e => hk (by simp [e]))) (Pl.nek (fun e => hk (by simp [e]))) (Pl.nek (fun e => hk (by simp [e]))) (Pl.nek (fun e => hk (by simp [e]))) (Pl.nek (fun e => hk (by simp [e]))) (Pl.nek (fun e => hk (by simp [e]))) (Pl.nek (fun e => hk (by simp [e]))) (Pl.nek (fun e => hk (by simp [e]))) (Pl.bytes_ne1 hs) (Pl.bytes_ne2 hs) (Pl.bytes_ne hs) w
  subst hs
  exact may_else_no x k hk (Pl.nek (fun e => hk (by simp [e]))) (Pl.nek (fun e => hk (by simp [e]))) (Pl.nek (fun e => hk (by simp [e]))) (Pl.nek (fun e => hk (by simp [e]))) (Pl.nek (fun e => hk (by simp [e]))) (Pl.nek (fun e => hk (by simp [e]))) (Pl.nek (fun e => hk (by simp [e]))) (Pl.nek (fun e => hk (by simp [e]))) (Pl.nek (fun e => hk (by simp [e]))) (Pl.nek (fun e => hk (by simp [e]))) (Pl.nek (fun e => hk (by simp [e]))) w

theorem may_no (k : Int) (x : Bool) (n a l : Int) (s : ByteArray) (h : ¬ Pl.may k n a l s) (w : World) : MayIs false k x n a l s w := by
  by_cases hk : k = 1 ∨ k = 2 ∨ k = 3 ∨ k = 4 ∨ k = 5 ∨ k = 6 ∨ k = 7 ∨ k = 8 ∨ k = 9 ∨ k = 10 ∨ k = 11
  · rcases hk with rfl | rfl | rfl | rfl | rfl | rfl | rfl | rfl | rfl | rfl | rfl
    · exact may_no1 x n a l s h w
    · exact may_no2 x n a l s h w
    · exact may_no3 x n a l s h w
    · exact may_no4 x n a l s h w
    · exact may_no5 x n a l s h w
    · exact may_no6 x n a l s h w
    · exact may_no7 x n a l s h w
    · exact may_no8 x n a l s h w
    · exact may_no9 x n a l s h w
    · exact may_no10 x n a l s h w
    · exact may_no11 x n a l s h w
  · exact may_noelse k hk x n a l s w
end Go.Proofs.Ytenmbkngkabonaa

