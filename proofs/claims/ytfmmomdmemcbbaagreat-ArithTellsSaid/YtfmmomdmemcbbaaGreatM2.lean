/- obj.May, whatever the object (printed by wip/gen_may2.py). · -/
import Derived.WalkKit
import Derived.Lib.Hide
import Derived.Laws.RangeString
import Derived.Laws.RangeAny
import Derived.Below
import Derived.Laws.AppendOwn
import Derived.Laws.OwnMore
import Derived.OwnWalk
import Derived.Deep.RegionLaw
import Derived.Deep.DeepAppendRoom
import Derived.Laws.CopyOwn
import Derived.Test.YtfmmomdmemcbbaaGreatO4a
import Derived.Test.YtfmmomdmemcbbaaGreatO4b
import Derived.Test.YtfmmomdmemcbbaaGreatO4c
import Derived.Test.YtfmmomdmemcbbaaGreatRows
import Derived.Test.YtfmmomdmemcbbaaGreatM1
set_option maxHeartbeats 2000000
set_option maxRecDepth 100000
namespace Go.Proofs.YtfmmomdmemcbbaaGreat
set_option linter.unusedVariables false
open Go.RowKit
def Pl.bare (a l : Int) (s : ByteArray) : Prop := a = 0 ∧ l = 0 ∧ s = ⟨#[]⟩
def Pl.may (k n a l : Int) (s : ByteArray) : Prop :=
  ((k = 1 ∨ k = 6) ∧ n = 0 ∧ Pl.bare a l s) ∨ (k = 5 ∧ n = 0 ∧ a = 0 ∧ l = 0 ∧ (s.size : Int) ≤ 100) ∨
  ((k = 8 ∨ k = 9) ∧ s = ⟨#[]⟩ ∧ 0 ≤ n ∧ n ≤ 40000 ∧ 0 ≤ a ∧ a ≤ 40000 ∧ 0 ≤ l ∧ l ≤ 40000) ∨
  (Pl.bare a l s ∧ ((k = 2 ∧ 0 ≤ n ∧ n ≤ 1) ∨ (k = 3 ∧ -2147483647 ≤ n ∧ n ≤ 2147483647) ∨ (k = 4 ∧ -1073741823 ≤ n ∧ n ≤ 1073741823) ∨ (k = 7 ∧ 1 ≤ n ∧ n ≤ 200) ∨ (k = 10 ∧ 0 ≤ n ∧ n ≤ 40000) ∨ (k = 11 ∧ 1 ≤ n ∧ n ≤ 2147483647)))
theorem Pl.bytes_ne {s : ByteArray} (h : ¬ s = ⟨#[]⟩) : ¬ s.toList = [] := fun e => h (by
  rw [ByteArray.toList_eq] at e
  obtain ⟨d⟩ := s
  simp at e
  subst e
  rfl)
theorem Pl.bytes_ne1 {s : ByteArray} (h : ¬ s = ⟨#[]⟩) : (s.toList == []) = false := beq_eq_false_iff_ne.2 (Pl.bytes_ne h)
theorem Pl.bytes_ne2 {s : ByteArray} (h : ¬ s = ⟨#[]⟩) : s.toList.isEmpty = false := by
  cases e : s.toList with
  | nil => exact absurd e (Pl.bytes_ne h)
  | cons => rfl
theorem Pl.ne0 {v : Int} (h : ¬ v = 0) : (v == 0) = false := beq_eq_false_iff_ne.2 h
abbrev MayIs (b : Bool) (k : Int) (x : Bool) (n a l : Int) (s : ByteArray) (w : World) : Prop :=
  Calls Tryz.prog 16 #[obv k x n a l s] w fun e w' => e = Ending.returned (.bool b) ∧ Grown w w'
theorem may_yes (k : Int) (x : Bool) (n a l : Int) (s : ByteArray) (h : Pl.may k n a l s) (w : World) : MayIs true k x n a l s w := by
  rcases h with ⟨rfl | rfl, rfl, rfl, rfl, rfl⟩ | ⟨rfl, rfl, rfl, rfl, h1⟩ | ⟨rfl | rfl, rfl, h1, h2, h3, h4, h5, h6⟩ | ⟨⟨rfl, rfl, rfl⟩, ⟨rfl, h1, h2⟩ | ⟨rfl, h1, h2⟩ | ⟨rfl, h1, h2⟩ | ⟨rfl, h1, h2⟩ | ⟨rfl, h1, h2⟩ | ⟨rfl, h1, h2⟩⟩
  · exact may_k1_yes x w
  · exact may_k6_yes x w
  · exact may_k5_yes x s h1 w
  · exact may_k8_yes x n a l h1 h2 h3 h4 h5 h6 w
  · exact may_k9_yes x n a l h1 h2 h3 h4 h5 h6 w
  · exact may_k2_yes x n h1 h2 w
  · exact may_int_yes x n h1 h2 w
  · exact may_fix_yes x n h1 h2 w
  · exact may_k7_yes x n h1 h2 w
  · exact may_k10_yes x n h1 h2 w
  · exact may_k11_yes x n h1 h2 w
theorem may_no1 (x : Bool) (n a l : Int) (s : ByteArray) (h : ¬ Pl.may 1 n a l s) (w : World) : MayIs false 1 x n a l s w := by
  by_cases hn : n = 0
  case neg => exact may_k1_bad_n x n a l s (Pl.ne0 hn) w
  subst hn
  by_cases ha : a = 0
  case neg => exact may_k1_bad_a x a l s (Pl.ne0 ha) w
  subst ha
  by_cases hl : l = 0
  case neg => exact may_k1_bad_l x l s (Pl.ne0 hl) w
  subst hl
  by_cases hs : s = ⟨#[]⟩
  case neg => exact may_k1_bad_s x s (Pl.bytes_ne1 hs) (Pl.bytes_ne2 hs) (Pl.bytes_ne hs) w
  subst hs
  exact absurd (by unfold Pl.may Pl.bare; simp) h
theorem may_no2 (x : Bool) (n a l : Int) (s : ByteArray) (h : ¬ Pl.may 2 n a l s) (w : World) : MayIs false 2 x n a l s w := by
  by_cases ha : a = 0
  case neg => exact may_k2_bad_a x n a l s (Pl.ne0 ha) w
  subst ha
  by_cases hl : l = 0
  case neg => exact may_k2_bad_l x n l s (Pl.ne0 hl) w
  subst hl
  by_cases hs : s = ⟨#[]⟩
  case neg => exact may_k2_bad_s x n s (Pl.bytes_ne1 hs) (Pl.bytes_ne2 hs) (Pl.bytes_ne hs) w
  subst hs
  by_cases h1 : n < 0
  · exact may_k2_low x n h1 w
  by_cases h2 : 1 < n
  · exact may_k2_high x n (by omega) h2 w
  exact absurd (by unfold Pl.may Pl.bare; simp; omega) h
theorem may_no3 (x : Bool) (n a l : Int) (s : ByteArray) (h : ¬ Pl.may 3 n a l s) (w : World) : MayIs false 3 x n a l s w := by
  by_cases ha : a = 0
  case neg => exact may_k3_bad_a x n a l s (Pl.ne0 ha) w
  subst ha
  by_cases hl : l = 0
  case neg => exact may_k3_bad_l x n l s (Pl.ne0 hl) w
  subst hl
  by_cases hs : s = ⟨#[]⟩
  case neg => exact may_k3_bad_s x n s (Pl.bytes_ne1 hs) (Pl.bytes_ne2 hs) (Pl.bytes_ne hs) w
  subst hs
  by_cases h1 : n < -2147483647
  · exact may_int_low x n h1 w
  by_cases h2 : 2147483647 < n
  · exact may_int_high x n (by omega) h2 w
  exact absurd (by unfold Pl.may Pl.bare; simp; omega) h
theorem may_no4 (x : Bool) (n a l : Int) (s : ByteArray) (h : ¬ Pl.may 4 n a l s) (w : World) : MayIs false 4 x n a l s w := by
  by_cases ha : a = 0
  case neg => exact may_k4_bad_a x n a l s (Pl.ne0 ha) w
  subst ha
  by_cases hl : l = 0
  case neg => exact may_k4_bad_l x n l s (Pl.ne0 hl) w
  subst hl
  by_cases hs : s = ⟨#[]⟩
  case neg => exact may_k4_bad_s x n s (Pl.bytes_ne1 hs) (Pl.bytes_ne2 hs) (Pl.bytes_ne hs) w
  subst hs
  by_cases h1 : n < -1073741823
  · exact may_fix_low x n h1 w
  by_cases h2 : 1073741823 < n
  · exact may_fix_high x n (by omega) h2 w
  exact absurd (by unfold Pl.may Pl.bare; simp; omega) h
theorem may_no5 (x : Bool) (n a l : Int) (s : ByteArray) (h : ¬ Pl.may 5 n a l s) (w : World) : MayIs false 5 x n a l s w := by
  by_cases hn : n = 0
  case neg => exact may_k5_bad_n x n a l s (Pl.ne0 hn) w
  subst hn
  by_cases ha : a = 0
  case neg => exact may_k5_bad_a x a l s (Pl.ne0 ha) w
  subst ha
  by_cases hl : l = 0
  case neg => exact may_k5_bad_l x l s (Pl.ne0 hl) w
  subst hl
  by_cases h1 : 100 < (s.size : Int)
  · exact may_k5_high x s h1 w
  exact absurd (by unfold Pl.may Pl.bare; simp; omega) h
theorem may_no6 (x : Bool) (n a l : Int) (s : ByteArray) (h : ¬ Pl.may 6 n a l s) (w : World) : MayIs false 6 x n a l s w := by
  by_cases hn : n = 0
  case neg => exact may_k6_bad_n x n a l s (Pl.ne0 hn) w
  subst hn
  by_cases ha : a = 0
  case neg => exact may_k6_bad_a x a l s (Pl.ne0 ha) w
  subst ha
  by_cases hl : l = 0
  case neg => exact may_k6_bad_l x l s (Pl.ne0 hl) w
  subst hl
  by_cases hs : s = ⟨#[]⟩
  case neg => exact may_k6_bad_s x s (Pl.bytes_ne1 hs) (Pl.bytes_ne2 hs) (Pl.bytes_ne hs) w
  subst hs
  exact absurd (by unfold Pl.may Pl.bare; simp) h
theorem may_no7 (x : Bool) (n a l : Int) (s : ByteArray) (h : ¬ Pl.may 7 n a l s) (w : World) : MayIs false 7 x n a l s w := by
  by_cases ha : a = 0
  case neg => exact may_k7_bad_a x n a l s (Pl.ne0 ha) w
  subst ha
  by_cases hl : l = 0
  case neg => exact may_k7_bad_l x n l s (Pl.ne0 hl) w
  subst hl
  by_cases hs : s = ⟨#[]⟩
  case neg => exact may_k7_bad_s x n s (Pl.bytes_ne1 hs) (Pl.bytes_ne2 hs) (Pl.bytes_ne hs) w
  subst hs
  by_cases h1 : n < 1
  · exact may_k7_low x n h1 w
  by_cases h2 : 200 < n
  · exact may_k7_high x n (by omega) h2 w
  exact absurd (by unfold Pl.may Pl.bare; simp; omega) h
theorem may_no8 (x : Bool) (n a l : Int) (s : ByteArray) (h : ¬ Pl.may 8 n a l s) (w : World) : MayIs false 8 x n a l s w := by
  by_cases hs : s = ⟨#[]⟩
  case neg => exact may_k8_bad_s x n a l s (Pl.bytes_ne1 hs) (Pl.bytes_ne2 hs) (Pl.bytes_ne hs) w
  subst hs
  by_cases pn : n < 0
  · exact may_k8_lown x n a l pn w
  by_cases qn : 40000 < n
  · exact may_k8_highn x n a l (by omega) qn w
  by_cases pa : a < 0
  · exact may_k8_lowa x n a l (by omega) (by omega) pa w
  by_cases qa : 40000 < a
  · exact may_k8_higha x n a l (by omega) (by omega) (by omega) qa w
  by_cases pl : l < 0
  · exact may_k8_lowl x n a l (by omega) (by omega) (by omega) (by omega) pl w
  by_cases ql : 40000 < l
  · exact may_k8_highl x n a l (by omega) (by omega) (by omega) (by omega) (by omega) ql w
  exact absurd (by unfold Pl.may Pl.bare; simp; omega) h
theorem may_no9 (x : Bool) (n a l : Int) (s : ByteArray) (h : ¬ Pl.may 9 n a l s) (w : World) : MayIs false 9 x n a l s w := by
  by_cases hs : s = ⟨#[]⟩
  case neg => exact may_k9_bad_s x n a l s (Pl.bytes_ne1 hs) (Pl.bytes_ne2 hs) (Pl.bytes_ne hs) w
  subst hs
  by_cases pn : n < 0
  · exact may_k9_lown x n a l pn w
  by_cases qn : 40000 < n
  · exact may_k9_highn x n a l (by omega) qn w
  by_cases pa : a < 0
  · exact may_k9_lowa x n a l (by omega) (by omega) pa w
  by_cases qa : 40000 < a
  · exact may_k9_higha x n a l (by omega) (by omega) (by omega) qa w
  by_cases pl : l < 0
  · exact may_k9_lowl x n a l (by omega) (by omega) (by omega) (by omega) pl w
  by_cases ql : 40000 < l
  · exact may_k9_highl x n a l (by omega) (by omega) (by omega) (by omega) (by omega) ql w
  exact absurd (by unfold Pl.may Pl.bare; simp; omega) h
theorem may_no10 (x : Bool) (n a l : Int) (s : ByteArray) (h : ¬ Pl.may 10 n a l s) (w : World) : MayIs false 10 x n a l s w := by
  by_cases ha : a = 0
  case neg => exact may_k10_bad_a x n a l s (Pl.ne0 ha) w
  subst ha
  by_cases hl : l = 0
  case neg => exact may_k10_bad_l x n l s (Pl.ne0 hl) w
  subst hl
  by_cases hs : s = ⟨#[]⟩
  case neg => exact may_k10_bad_s x n s (Pl.bytes_ne1 hs) (Pl.bytes_ne2 hs) (Pl.bytes_ne hs) w
  subst hs
  by_cases h1 : n < 0
  · exact may_k10_low x n h1 w
  by_cases h2 : 40000 < n
  · exact may_k10_high x n (by omega) h2 w
  exact absurd (by unfold Pl.may Pl.bare; simp; omega) h
theorem may_no11 (x : Bool) (n a l : Int) (s : ByteArray) (h : ¬ Pl.may 11 n a l s) (w : World) : MayIs false 11 x n a l s w := by
  by_cases ha : a = 0
  case neg => exact may_k11_bad_a x n a l s (Pl.ne0 ha) w
  subst ha
  by_cases hl : l = 0
  case neg => exact may_k11_bad_l x n l s (Pl.ne0 hl) w
  subst hl
  by_cases hs : s = ⟨#[]⟩
  case neg => exact may_k11_bad_s x n s (Pl.bytes_ne1 hs) (Pl.bytes_ne2 hs) (Pl.bytes_ne hs) w
  subst hs
  by_cases h1 : n < 1
  · exact may_k11_low x n h1 w
  by_cases h2 : 2147483647 < n
  · exact may_k11_high x n (by omega) h2 w
  exact absurd (by unfold Pl.may Pl.bare; simp; omega) h
theorem Pl.nek {v c : Int} (h : ¬ v = c) : (v == c) = false := beq_eq_false_iff_ne.2 h
theorem may_noelse (k : Int) (hk : ¬ (k = 1 ∨ k = 2 ∨ k = 3 ∨ k = 4 ∨ k = 5 ∨ k = 6 ∨ k = 7 ∨ k = 8 ∨ k = 9 ∨ k = 10 ∨ k = 11)) (x : Bool) (n a l : Int) (s : ByteArray) (w : World) : MayIs false k x n a l s w := by
  by_cases hn : n = 0
  case neg => exact may_else_bad_n x n a l s k hk (Pl.nek (fun e => hk (by simp [e]))) (Pl.nek (fun e => hk (by simp [e]))) (Pl.nek (fun e => hk (by simp [e]))) (Pl.nek (fun e => hk (by simp [e]))) (Pl.nek (fun e => hk (by simp [e]))) (Pl.nek (fun e => hk (by simp [e]))) (Pl.nek (fun e => hk (by simp [e]))) (Pl.nek (fun e => hk (by simp [e]))) (Pl.nek (fun e => hk (by simp [e]))) (Pl.nek (fun e => hk (by simp [e]))) (Pl.nek (fun e => hk (by simp [e]))) (Pl.ne0 hn) w
  subst hn
  by_cases ha : a = 0
  case neg => exact may_else_bad_a x a l s k hk (Pl.nek (fun e => hk (by simp [e]))) (Pl.nek (fun e => hk (by simp [e]))) (Pl.nek (fun e => hk (by simp [e]))) (Pl.nek (fun e => hk (by simp [e]))) (Pl.nek (fun e => hk (by simp [e]))) (Pl.nek (fun e => hk (by simp [e]))) (Pl.nek (fun e => hk (by simp [e]))) (Pl.nek (fun e => hk (by simp [e]))) (Pl.nek (fun e => hk (by simp [e]))) (Pl.nek (fun e => hk (by simp [e]))) (Pl.nek (fun e => hk (by simp [e]))) (Pl.ne0 ha) w
  subst ha
  by_cases hl : l = 0
  case neg => exact may_else_bad_l x l s k hk (Pl.nek (fun e => hk (by simp [e]))) (Pl.nek (fun e => hk (by simp [e]))) (Pl.nek (fun e => hk (by simp [e]))) (Pl.nek (fun e => hk (by simp [e]))) (Pl.nek (fun e => hk (by simp [e]))) (Pl.nek (fun e => hk (by simp [e]))) (Pl.nek (fun e => hk (by simp [e]))) (Pl.nek (fun e => hk (by simp [e]))) (Pl.nek (fun e => hk (by simp [e]))) (Pl.nek (fun e => hk (by simp [e]))) (Pl.nek (fun e => hk (by simp [e]))) (Pl.ne0 hl) w
  subst hl
  by_cases hs : s = ⟨#[]⟩
  case neg => exact may_else_bad_s x s k hk (Pl.nek (fun e => hk (by simp [e]))) (Pl.nek (fun e => hk (by simp [e]))) (Pl.nek (fun e => hk (by simp [e]))) (Pl.nek (fun e => hk (by simp [e]))) (Pl.nek (fun e => hk (by simp [e]))) (Pl.nek (fun e => hk (by simp [e]))) (Pl.nek (fun e => hk (by simp [e]))) (Pl.nek (fun e => hk (by simp [e]))) (Pl.nek (fun e => hk (by simp [e]))) (Pl.nek (fun e => hk (by simp [e]))) (Pl.nek (fun e => hk (by simp [e]))) (Pl.bytes_ne1 hs) (Pl.bytes_ne2 hs) (Pl.bytes_ne hs) w
  subst hs
  exact may_else_no x k hk (Pl.nek (fun e => hk (by simp [e]))) (Pl.nek (fun e => hk (by simp [e]))) (Pl.nek (fun e => hk (by simp [e]))) (Pl.nek (fun e => hk (by simp [e]))) (Pl.nek (fun e => hk (by simp [e]))) (Pl.nek (fun e => hk (by simp [e]))) (Pl.nek (fun e => hk (by simp [e]))) (Pl.nek (fun e => hk (by simp [e]))) (Pl.nek (fun e => hk (by simp [e]))) (Pl.nek (fun e => hk (by simp [e]))) (Pl.nek (fun e => hk (by simp [e]))) w
theorem may_no (k : Int) (x : Bool) (n a l : Int) (s : ByteArray) (h : ¬ Pl.may k n a l s) (w : World) : MayIs false k x n a l s w := by
  by_cases hk : k = 1 ∨ k = 2 ∨ k = 3 ∨ k = 4 ∨ k = 5 ∨ k = 6 ∨ k = 7 ∨ k = 8 ∨ k = 9 ∨ k = 10 ∨ k = 11
  · rcases hk with rfl | rfl | rfl | rfl | rfl | rfl | rfl | rfl | rfl | rfl | rfl
    · exact may_no1 x n a l s h w
    · exact may_no2 x n a l s h w
    · exact may_no3 x n a l s h w
    · exact may_no4 x n a l s h w
    · exact may_no5 x n a l s h w
    · exact may_no6 x n a l s h w
    · exact may_no7 x n a l s h w
    · exact may_no8 x n a l s h w
    · exact may_no9 x n a l s h w
    · exact may_no10 x n a l s h w
    · exact may_no11 x n a l s h w
  · exact may_noelse k hk x n a l s w
end Go.Proofs.YtfmmomdmemcbbaaGreat
namespace Go.Proofs.YtfmmomdmemcbbaaGreat
set_option linter.unusedVariables false
open Go.RowKit
def rangedText (f : Func) : ByteArray :=
  match f.body with
  | some (.seq _ (.seq (.region _ ops _) _)) => (match ops[0]? with | some o => (match o.op with | .range _ (.const (.string t)) => t | _ => ⟨#[]⟩) | none => ⟨#[]⟩)
  | _ => ⟨#[]⟩
def Pl.scan : List UInt8 → Nat → Nat → Nat → Nat → List (Nat × Nat × Nat × Nat)
  | [], _, _, _, _ => []
  | b :: r, i, n, f, s => if b = 10 then Pl.scan r (i + 1) n (f + 1) (i + 1) else if b = 32 then (n, f, s, i) :: Pl.scan r (i + 1) (n + 1) f (i + 1) else Pl.scan r (i + 1) n f s
def Pl.yields (T : ByteArray) : List (Nat × Nat × Nat × Nat) := Pl.scan T.data.toList 0 1 1 0
def Pl.wordL (T : ByteArray) (y : Nat × Nat × Nat × Nat) : List UInt8 := (T.data.toList.drop y.2.2.1).take (y.2.2.2 - y.2.2.1)
def Pl.upTo : Nat → List (Nat × Nat × Nat × Nat) → Bool
  | _, [] => true
  | k, y :: r => y.1 == k && decide (1 ≤ y.2.1) && decide (y.2.1 ≤ 6) && decide (y.2.2.1 < y.2.2.2) && Pl.upTo (k + 1) r
def Pl.rise : Nat → List (Nat × Nat × Nat × Nat) → Bool
  | _, [] => true
  | f, y :: r => decide (f ≤ y.2.1) && Pl.rise y.2.1 r
def Pl.apart : List (List UInt8) → Bool
  | [] => true
  | a :: r => r.all (fun b => a != b) && Pl.apart r
theorem opT_ascii : (rangedText Tryz.f33).data.toList.all (fun b => decide (b < 128)) = true := by decide +kernel
theorem opT_len : (Pl.yields (rangedText Tryz.f33)).length = 162 := by decide +kernel
theorem opT_upTo : Pl.upTo 1 (Pl.yields (rangedText Tryz.f33)) = true := by decide +kernel
theorem opT_rise : Pl.rise 1 (Pl.yields (rangedText Tryz.f33)) = true := by decide +kernel
theorem opT_apart : Pl.apart ((Pl.yields (rangedText Tryz.f33)).map (Pl.wordL (rangedText Tryz.f33))) = true := by decide +kernel
end Go.Proofs.YtfmmomdmemcbbaaGreat
namespace Go.Proofs.YtfmmomdmemcbbaaGreat
set_option linter.unusedVariables false
open Go.RowKit
theorem Pl.drop_at {T : ByteArray} {p : Nat} (h : p < T.size) : T.data.toList.drop p = (T[p]'h) :: T.data.toList.drop (p + 1) := by
  have h' : p < T.data.toList.length := by simpa using h
  rw [List.drop_eq_getElem_cons h']
  rfl
theorem Pl.drop_all {T : ByteArray} {p : Nat} (h : T.size ≤ p) : T.data.toList.drop p = [] := List.drop_eq_nil_of_le (by simpa using h)
theorem Pl.byte_lt {T : ByteArray} (ha : T.data.toList.all (fun b => decide (b < 128)) = true) {p : Nat} (h : p < T.size) : (T[p]'h).toNat < 128 := by
  have := List.all_eq_true.1 ha (T[p]'h) (by
    show T.data[p] ∈ T.data.toList
    exact Array.mem_toList_iff.2 (Array.getElem_mem _))
  simpa [UInt8.lt_iff_toNat_lt] using this
theorem frozen?_iter (w : World) (s : ByteArray) (p : Nat) (a : Addr) : (w.iter s p).frozen? a = w.frozen? a := by
  by_cases h : a.block = w.heap.size
  · have e1 : (w.iter s p).heap[a.block]? = some (.stringIter s p) := by rw [h]; exact World.iter_heap w s p
    have e2 : w.heap[a.block]? = none := by rw [h]; simp
    simp [World.frozen?, e1, e2]
  · exact World.frozen?_alloc_old _ _ _ h
theorem grown_iter {w W : World} (h : Grown w W) (s : ByteArray) (p : Nat) : Grown w (W.iter s p) :=
  ⟨World.keptBut_trans h.1 (World.keptBut_alloc _ _ _), fun a => (frozen?_iter _ _ _ a).trans (h.2.1 a), Nat.le_trans h.2.2 (by show W.heap.size ≤ (W.heap.push _).size; simp)⟩
end Go.Proofs.YtfmmomdmemcbbaaGreat
namespace Go.Proofs.YtfmmomdmemcbbaaGreat
set_option linter.unusedVariables false
open Go.RowKit
def Pl.opAt (T : ByteArray) (N : Int) : Option (Nat × Nat × Nat × Nat) := if 1 ≤ N then (Pl.yields T)[(N - 1).toNat]? else none
def Pl.opWord (T : ByteArray) (N : Int) : ByteArray := match Pl.opAt T N with | some y => T.extract y.2.2.1 y.2.2.2 | none => ⟨#[]⟩
def Pl.opFam (T : ByteArray) (N : Int) : Int := match Pl.opAt T N with | some y => (y.2.1 : Int) | none => 0
theorem Pl.opAt_low (T : ByteArray) (N : Int) (h : N < 1) : Pl.opAt T N = none := if_neg (by omega)
theorem Pl.opAt_high (T : ByteArray) (N : Int) (h : (Pl.yields T).length < N) : Pl.opAt T N = none := by
  unfold Pl.opAt
  rw [if_pos (by omega)]
  exact List.getElem?_eq_none (by omega)
theorem Pl.opAt_of (T : ByteArray) (n : Nat) (y : Nat × Nat × Nat × Nat) (r : List (Nat × Nat × Nat × Nat)) (h : y :: r = (Pl.yields T).drop (n - 1)) (hn : 1 ≤ n) : Pl.opAt T (n : Int) = some y := by
  unfold Pl.opAt
  rw [if_pos (by omega), show ((n : Int) - 1).toNat = n - 1 by omega]
  have : ((Pl.yields T).drop (n - 1))[0]? = some y := by rw [← h]; rfl
  rw [List.getElem?_drop] at this
  simpa using this
theorem clos_family_at (k f : Int) (s : ByteArray) (b c : Nat) (v : Value) (W : World) (hb : W.cell? ⟨b, 0, none⟩ = some (.int .i64 k)) (h : W.cell? ⟨c, 0, none⟩ = some v) (hf : W.frozen? ⟨c, 0, none⟩ = false) (hbc : b ≠ c) :
    Calls Tryz.prog 34 #[.int .i64 k, .int .i64 f, .string s, .pointer (some ⟨b, 0, none⟩), .pointer (some ⟨c, 0, none⟩)] W fun e w' => e = .returned (.bool false) ∧ w' = W.setCell ⟨c, 0, none⟩ (.int .i64 f) := by
  have h2 : (W.setCell ⟨c, 0, none⟩ (.int .i64 f)).cell? ⟨b, 0, none⟩ = some (.int .i64 k) := by rw [World.cell?_setCell_other (h := by intro h; injection h with h; exact hbc h.symm)]; exact hb
  go_enter Tryz.func34, Tryz.ntmps34
  go_wp2
  go_ret
  exact ⟨rfl, rfl⟩
theorem clos_family_off (k f N : Int) (s : ByteArray) (b c : Nat) (W : World) (hb : W.cell? ⟨b, 0, none⟩ = some (.int .i64 N)) (hn : (k == N) = false) :
    Calls Tryz.prog 34 #[.int .i64 k, .int .i64 f, .string s, .pointer (some ⟨b, 0, none⟩), .pointer (some ⟨c, 0, none⟩)] W fun e w' => e = .returned (.bool (decide (k < N))) ∧ w' = W := by
  go_enter Tryz.func34, Tryz.ntmps34
  go_wp2
  go_ret
  exact ⟨rfl, rfl⟩
abbrev FamilyS (w0 w : World) (T : ByteArray) (b c : Nat) (N : Int) (p n f s : Nat) (W : World) : Prop :=
  W.heap.size = w.heap.size ∧ W.cell? ⟨b, 0, none⟩ = some (.int .i64 N) ∧ W.cell? ⟨c, 0, none⟩ = some (.int .i64 0) ∧ W.frozen? ⟨c, 0, none⟩ = false ∧ Grown w0 W ∧
  Pl.scan (T.data.toList.drop p) p n f s = (Pl.yields T).drop (n - 1) ∧ 1 ≤ n ∧ n ≤ 163 ∧ 1 ≤ f ∧ f ≤ p + 1 ∧ s ≤ p ∧ p ≤ T.size ∧ (n = 1 ∨ (n : Int) ≤ N)
theorem each_family (T : ByteArray) (hT : rangedText Tryz.f33 = T) (ha : T.data.toList.all (fun b => decide (b < 128)) = true) (hl : (Pl.yields T).length = 162) (hs : T.size < 100000)
    (w0 w : World) (b c : Nat) (N : Int) (hb : b < w.heap.size) (hc : c < w.heap.size) (hbc : b ≠ c) (hc0 : w0.heap.size ≤ c) (hcb : w.cell? ⟨b, 0, none⟩ = some (.int .i64 N)) (hcell : w.cell? ⟨c, 0, none⟩ = some (.int .i64 0)) (hfz : w.frozen? ⟨c, 0, none⟩ = false) (hg : Grown w0 w) :
    Calls Tryz.prog 33 #[.func (.func 34) #[] #[.pointer (some ⟨b, 0, none⟩), .pointer (some ⟨c, 0, none⟩)]] w fun e w' => e = .returned (.tuple #[]) ∧ w'.cell? ⟨c, 0, none⟩ = some (.int .i64 (Pl.opFam T N)) ∧ Grown w0 w' := by
  go_enter Tryz.func33, Tryz.ntmps33
  rw [show (ByteArray.mk _ : ByteArray) = rangedText Tryz.f33 from rfl, hT]
  go_wp2_with fail
  go_loopw [2, 3, 4] (fun u v d wr => ∃ (p n f s : Nat) (W : World), wr = W.iter T p ∧ u = .int .i64 (n : Int) ∧ v = .int .i64 (f : Int) ∧ d = .int .i64 (s : Int) ∧ FamilyS w0 w T b c N p n f s W) (fun _ _ _ wr => T.size - wr.iterPos w.heap.size)
  case atStart => exact ⟨0, 1, 1, 0, w, rfl, rfl, rfl, rfl, rfl, hcb, hcell, hfz, hg, rfl, by omega, by omega, by omega, by omega, by omega, by omega, .inl rfl⟩
  case round =>
    obtain ⟨p, n, f, s, W, rfl, rfl, rfl, rfl, hz, hbW, hcW, hfW, hgW, hscan, n1, n2, f1, f2, s1, p1, nN⟩ := hrel
    by_cases hp : p < T.size
    · have hnx : ∀ ty, (Instr.next (.pointer (some ⟨w.heap.size, 0, none⟩)) true ty).run Tryz.prog (W.iter T p) = .ok (.tuple #[.bool true, .int .i64 p, .int .i32 (T[p]'hp).toNat]) (W.iter T (p + 1)) := fun ty => by rw [← hz]; exact run_next_ascii W T p ty hp (Pl.byte_lt ha hp)
      rw [Pl.drop_at hp] at hscan
      have hb' := Pl.byte_lt ha hp
      by_cases b10 : T[p]'hp = 10
      · have e10 : ((T[p]'hp).toNat : Int) = 10 := by rw [b10]; rfl
        rw [e10] at hnx
        rw [Pl.scan, if_pos b10] at hscan
        have hS := Lib.hid hscan
        clear hscan
        go_wp2_with fail
        go_roundw
        case rel => exact ⟨p + 1, n, f + 1, p + 1, W, rfl, rfl, by go_num, by go_num, hz, hbW, hcW, hfW, hgW, hS.out, n1, n2, by omega, by omega, by omega, by omega, nN⟩
        case measure => rw [← hz]; simp; omega
      by_cases b32 : T[p]'hp = 32
      · have e32 : ((T[p]'hp).toNat : Int) = 32 := by rw [b32]; rfl
        rw [e32] at hnx
        rw [Pl.scan, if_neg b10, if_pos b32] at hscan
        have hn : n - 1 < (Pl.yields T).length := by
          apply Nat.lt_of_not_le
          intro h
          rw [List.drop_eq_nil_of_le h] at hscan
          cases hscan
        have hat := Lib.hid (Pl.opAt_of T n _ _ hscan n1)
        have hS' : Pl.scan (T.data.toList.drop (p + 1)) (p + 1) (n + 1) f (p + 1) = (Pl.yields T).drop (n + 1 - 1) := by
          have := congrArg List.tail hscan
          rw [List.tail_cons, List.tail_drop] at this
          rw [this]; congr 1; omega
        have hS := Lib.hid hS'
        clear hscan hS'
        have hb2 : (W.iter T (p + 1)).cell? ⟨b, 0, none⟩ = some (.int .i64 N) := by rw [World.iter, World.cell?_alloc_past _ _ _ (by omega)]; exact hbW
        have hc2 : (W.iter T (p + 1)).cell? ⟨c, 0, none⟩ = some (.int .i64 0) := by rw [World.iter, World.cell?_alloc_past _ _ _ (by omega)]; exact hcW
        have hf2 : (W.iter T (p + 1)).frozen? ⟨c, 0, none⟩ = false := by rw [World.iter, World.frozen?_alloc_past _ _ _ (by omega)]; exact hfW
        by_cases hN : (n : Int) = N
        · subst hN
          go_wp2_with fail
          refine (clos_family_at _ _ _ b c _ _ hb2 hc2 hf2 hbc).mono ?_
          rintro e w2 ⟨rfl, hw2⟩
          have hcomm : w2 = (W.setCell ⟨c, 0, none⟩ (.int .i64 f)).iter T (p + 1) := by rw [hw2]; exact World.setCell_alloc_past _ _ _ _ (by omega)
          clear hw2
          subst hcomm
          go_wp2_with fail
          (refine bodyPost_ret (v := .tuple #[]) (by simp [results, Tryz.results33, go_sem]) rfl ?_)
          refine ⟨rfl, ?_, grown_iter (hgW.setCell (by omega) _) T (p + 1)⟩
          rw [World.iter, World.cell?_alloc_past _ _ _ (by simp; omega), World.cell?_setCell_same' _ _ _ (by rw [hcW]; rfl)]
          unfold Pl.opFam
          rw [hat.out]
        · have hN' : ((n : Int) == N) = false := beq_eq_false_iff_ne.2 hN
          by_cases hlt : (n : Int) < N
          · have C := fun f' s' => clos_family_off (n : Int) f' N s' b c _ hb2 hN'
            rw [decide_eq_true hlt] at C
            have C := Lib.hid C
            go_wp2_with fail
            refine (C.out _ _).mono ?_
            rintro e w2 ⟨rfl, rfl⟩
            go_wp2_with fail
            go_roundw
            case rel => exact ⟨p + 1, n + 1, f, p + 1, W, rfl, by go_num, rfl, by go_num, hz, hbW, hcW, hfW, hgW, hS.out, by omega, by omega, by omega, by omega, by omega, by omega, .inr (by omega)⟩
            case measure => rw [← hz]; simp; omega
          · have C := fun f' s' => clos_family_off (n : Int) f' N s' b c _ hb2 hN'
            rw [decide_eq_false hlt] at C
            have C := Lib.hid C
            go_wp2_with fail
            refine (C.out _ _).mono ?_
            rintro e w2 ⟨rfl, rfl⟩
            go_wp2_with fail
            (refine bodyPost_ret (v := .tuple #[]) (by simp [results, Tryz.results33, go_sem]) rfl ?_)
            refine ⟨rfl, ?_, grown_iter hgW T (p + 1)⟩
            rw [hc2]
            unfold Pl.opFam
            rw [Pl.opAt_low T N (by omega)]
      · have e10 : (((T[p]'hp).toNat : Int) == 10) = false := beq_eq_false_iff_ne.2 (fun h => b10 (UInt8.toNat_inj.1 (by show (T[p]'hp).toNat = 10; omega)))
        have e32 : (((T[p]'hp).toNat : Int) == 32) = false := beq_eq_false_iff_ne.2 (fun h => b32 (UInt8.toNat_inj.1 (by show (T[p]'hp).toNat = 32; omega)))
        rw [Pl.scan, if_neg b10, if_neg b32] at hscan
        have hS := Lib.hid hscan
        clear hscan
        generalize ((T[p]'hp).toNat : Int) = B at *
        go_wp2_with fail
        go_roundw
        case rel => exact ⟨p + 1, n, f, s, W, rfl, rfl, rfl, rfl, hz, hbW, hcW, hfW, hgW, hS.out, n1, n2, by omega, by omega, by omega, by omega, nN⟩
        case measure => rw [← hz]; simp; omega
    · have hnx : ∀ ty, (Instr.next (.pointer (some ⟨w.heap.size, 0, none⟩)) true ty).run Tryz.prog (W.iter T p) = .ok (.tuple #[.bool false]) (W.iter T p) := fun ty => by rw [← hz]; exact run_next_end W T p ty hp
      rw [Pl.drop_all (by omega), Pl.scan] at hscan
      have hn : 162 ≤ n - 1 := by rw [← hl]; exact List.drop_eq_nil_iff.1 hscan.symm
      clear hscan
      go_wp2_with fail
      go_end0
      refine ⟨rfl, ?_, grown_iter hgW T p⟩
      rw [World.iter, World.cell?_alloc_past _ _ _ (by omega), hcW]
      unfold Pl.opFam
      rw [Pl.opAt_high T N (by omega)]
end Go.Proofs.YtfmmomdmemcbbaaGreat
namespace Go.Proofs.YtfmmomdmemcbbaaGreat
set_option linter.unusedVariables false
open Go.RowKit
def Pl.opFind (T NM : ByteArray) : Option (Nat × Nat × Nat × Nat) := (Pl.yields T).find? (fun y => decide (T.extract y.2.2.1 y.2.2.2 = NM))
def Pl.opNum (T NM : ByteArray) : Int := match Pl.opFind T NM with | some y => (y.1 : Int) | none => 0
theorem clos_number_at (k f : Int) (s : ByteArray) (a c d : Nat) (v u : Value) (W : World) (ha : W.cell? ⟨a, 0, none⟩ = some (.string s)) (h : W.cell? ⟨c, 0, none⟩ = some v) (hf : W.frozen? ⟨c, 0, none⟩ = false)
    (h2 : W.cell? ⟨d, 0, none⟩ = some u) (hf2 : W.frozen? ⟨d, 0, none⟩ = false) (hcd : c ≠ d) (hac : a ≠ c) :
    Calls Tryz.prog 69 #[.int .i64 k, .int .i64 f, .string s, .pointer (some ⟨a, 0, none⟩), .pointer (some ⟨c, 0, none⟩), .pointer (some ⟨d, 0, none⟩)] W fun e w' => e = .returned (.bool false) ∧ w' = (W.setCell ⟨c, 0, none⟩ (.int .i64 k)).setCell ⟨d, 0, none⟩ (.bool true) := by
  have e1 : (W.setCell ⟨c, 0, none⟩ (.int .i64 k)).cell? ⟨d, 0, none⟩ = some u := by rw [World.cell?_setCell_other (h := by intro h; injection h with h; exact hcd h)]; exact h2
  have e2 : ((W.setCell ⟨c, 0, none⟩ (.int .i64 k)).setCell ⟨d, 0, none⟩ (.bool true)).cell? ⟨d, 0, none⟩ = some (.bool true) := World.cell?_setCell_same' _ _ _ (by rw [e1]; rfl)
  have hs : (s.toList == s.toList) = true := by simp
  go_enter Tryz.func69, Tryz.ntmps69
  go_wp2
  go_ret
  exact ⟨rfl, rfl⟩
theorem clos_number_off (k f : Int) (s NM : ByteArray) (a c d : Nat) (W : World) (ha : W.cell? ⟨a, 0, none⟩ = some (.string NM)) (h2 : W.cell? ⟨d, 0, none⟩ = some (.bool false)) (hn3 : ¬ s.toList = NM.toList) (hn4 : (s.toList == NM.toList) = false) :
    Calls Tryz.prog 69 #[.int .i64 k, .int .i64 f, .string s, .pointer (some ⟨a, 0, none⟩), .pointer (some ⟨c, 0, none⟩), .pointer (some ⟨d, 0, none⟩)] W fun e w' => e = .returned (.bool true) ∧ w' = W := by
  go_enter Tryz.func69, Tryz.ntmps69
  go_wp2
  go_ret
  exact ⟨rfl, rfl⟩
theorem Pl.toList_inj {s s' : ByteArray} : s.toList = s'.toList ↔ s = s' := ⟨fun e => by
    rw [ByteArray.toList_eq, ByteArray.toList_eq] at e
    obtain ⟨d⟩ := s
    obtain ⟨d'⟩ := s'
    simp at e
    subst e
    rfl, fun e => by rw [e]⟩
abbrev NumS (w0 w : World) (T NM : ByteArray) (a c d : Nat) (p n f s : Nat) (W : World) : Prop :=
  W.heap.size = w.heap.size ∧ W.cell? ⟨a, 0, none⟩ = some (.string NM) ∧ W.cell? ⟨c, 0, none⟩ = some (.int .i64 0) ∧ W.frozen? ⟨c, 0, none⟩ = false ∧ W.cell? ⟨d, 0, none⟩ = some (.bool false) ∧ W.frozen? ⟨d, 0, none⟩ = false ∧ Grown w0 W ∧
  Pl.opFind T NM = (Pl.scan (T.data.toList.drop p) p n f s).find? (fun y => decide (T.extract y.2.2.1 y.2.2.2 = NM)) ∧ 1 ≤ n ∧ n ≤ p + 1 ∧ 1 ≤ f ∧ f ≤ p + 1 ∧ s ≤ p ∧ p ≤ T.size
theorem each_number (T NM : ByteArray) (hT : rangedText Tryz.f33 = T) (ha : T.data.toList.all (fun b => decide (b < 128)) = true) (hs : T.size < 100000)
    (w0 w : World) (a c d : Nat) (hb : a < w.heap.size) (hc : c < w.heap.size) (hd : d < w.heap.size) (hac : a ≠ c) (had : a ≠ d) (hcd : c ≠ d) (hc0 : w0.heap.size ≤ c) (hd0 : w0.heap.size ≤ d)
    (hca : w.cell? ⟨a, 0, none⟩ = some (.string NM)) (hcell : w.cell? ⟨c, 0, none⟩ = some (.int .i64 0)) (hfz : w.frozen? ⟨c, 0, none⟩ = false) (hcell2 : w.cell? ⟨d, 0, none⟩ = some (.bool false)) (hfz2 : w.frozen? ⟨d, 0, none⟩ = false) (hg : Grown w0 w) :
    Calls Tryz.prog 33 #[.func (.func 69) #[] #[.pointer (some ⟨a, 0, none⟩), .pointer (some ⟨c, 0, none⟩), .pointer (some ⟨d, 0, none⟩)]] w fun e w' => e = .returned (.tuple #[]) ∧
      w'.cell? ⟨c, 0, none⟩ = some (.int .i64 (Pl.opNum T NM)) ∧ w'.cell? ⟨d, 0, none⟩ = some (.bool (Pl.opFind T NM).isSome) ∧ w'.frozen? ⟨c, 0, none⟩ = false ∧ w'.frozen? ⟨d, 0, none⟩ = false ∧ Grown w0 w' := by
  go_enter Tryz.func33, Tryz.ntmps33
  rw [show (ByteArray.mk _ : ByteArray) = rangedText Tryz.f33 from rfl, hT]
  go_wp2_with fail
  go_loopw [2, 3, 4] (fun u v x wr => ∃ (p n f s : Nat) (W : World), wr = W.iter T p ∧ u = .int .i64 (n : Int) ∧ v = .int .i64 (f : Int) ∧ x = .int .i64 (s : Int) ∧ NumS w0 w T NM a c d p n f s W) (fun _ _ _ wr => T.size - wr.iterPos w.heap.size)
  case atStart => exact ⟨0, 1, 1, 0, w, rfl, rfl, rfl, rfl, rfl, hca, hcell, hfz, hcell2, hfz2, hg, rfl, by omega, by omega, by omega, by omega, by omega, by omega⟩
  case round =>
    obtain ⟨p, n, f, s, W, rfl, rfl, rfl, rfl, hz, haW, hcW, hfW, hdW, hfdW, hgW, hscan, n1, n2, f1, f2, s1, p1⟩ := hrel
    by_cases hp : p < T.size
    · have hnx : ∀ ty, (Instr.next (.pointer (some ⟨w.heap.size, 0, none⟩)) true ty).run Tryz.prog (W.iter T p) = .ok (.tuple #[.bool true, .int .i64 p, .int .i32 (T[p]'hp).toNat]) (W.iter T (p + 1)) := fun ty => by rw [← hz]; exact run_next_ascii W T p ty hp (Pl.byte_lt ha hp)
      rw [Pl.drop_at hp] at hscan
      have hb' := Pl.byte_lt ha hp
      by_cases b10 : T[p]'hp = 10
      · have e10 : ((T[p]'hp).toNat : Int) = 10 := by rw [b10]; rfl
        rw [e10] at hnx
        rw [Pl.scan, if_pos b10] at hscan
        have hS := Lib.hid hscan
        clear hscan
        go_wp2_with fail
        go_roundw
        case rel => exact ⟨p + 1, n, f + 1, p + 1, W, rfl, rfl, by go_num, by go_num, hz, haW, hcW, hfW, hdW, hfdW, hgW, hS.out, n1, by omega, by omega, by omega, by omega, by omega⟩
        case measure => rw [← hz]; simp; omega
      by_cases b32 : T[p]'hp = 32
      · have e32 : ((T[p]'hp).toNat : Int) = 32 := by rw [b32]; rfl
        rw [e32] at hnx
        rw [Pl.scan, if_neg b10, if_pos b32, List.find?_cons] at hscan
        have ha2 : (W.iter T (p + 1)).cell? ⟨a, 0, none⟩ = some (.string NM) := by rw [World.iter, World.cell?_alloc_past _ _ _ (by omega)]; exact haW
        have hc2 : (W.iter T (p + 1)).cell? ⟨c, 0, none⟩ = some (.int .i64 0) := by rw [World.iter, World.cell?_alloc_past _ _ _ (by omega)]; exact hcW
        have hf2 : (W.iter T (p + 1)).frozen? ⟨c, 0, none⟩ = false := by rw [World.iter, World.frozen?_alloc_past _ _ _ (by omega)]; exact hfW
        have hd2 : (W.iter T (p + 1)).cell? ⟨d, 0, none⟩ = some (.bool false) := by rw [World.iter, World.cell?_alloc_past _ _ _ (by omega)]; exact hdW
        have hfd2 : (W.iter T (p + 1)).frozen? ⟨d, 0, none⟩ = false := by rw [World.iter, World.frozen?_alloc_past _ _ _ (by omega)]; exact hfdW
        by_cases hN : T.extract s p = NM
        · subst hN
          rw [decide_eq_true rfl] at hscan
          have hS := Lib.hid hscan
          clear hscan
          go_wp2_with fail
          refine (clos_number_at _ _ _ a c d _ _ _ ha2 hc2 hf2 hd2 hfd2 hcd hac).mono ?_
          rintro e w2 ⟨rfl, hw2⟩
          have hcomm : w2 = ((W.setCell ⟨c, 0, none⟩ (.int .i64 n)).setCell ⟨d, 0, none⟩ (.bool true)).iter T (p + 1) := by
            rw [hw2]
            have k1 : (W.iter T (p + 1)).setCell ⟨c, 0, none⟩ (.int .i64 n) = (W.setCell ⟨c, 0, none⟩ (.int .i64 n)).iter T (p + 1) := World.setCell_alloc_past _ _ _ _ (by omega)
            rw [k1]
            exact World.setCell_alloc_past _ _ _ _ (by simp; omega)
          clear hw2
          subst hcomm
          go_wp2_with fail
          (refine bodyPost_ret (v := .tuple #[]) (by simp [results, Tryz.results33, go_sem]) rfl ?_)
          have e1 : (W.setCell ⟨c, 0, none⟩ (.int .i64 n)).cell? ⟨d, 0, none⟩ = some (.bool false) := by rw [World.cell?_setCell_other (h := by intro h; injection h with h; exact hcd h)]; exact hdW
          refine ⟨rfl, ?_, ?_, ?_, ?_, grown_iter ((hgW.setCell (by omega) _).setCell (by omega) _) T (p + 1)⟩
          · rw [World.iter, World.cell?_alloc_past _ _ _ (by simp; omega), World.cell?_setCell_other (h := by intro h; injection h with h; exact hcd h.symm), World.cell?_setCell_same' _ _ _ (by rw [hcW]; rfl)]
            unfold Pl.opNum
            rw [hS.out]
          · rw [World.iter, World.cell?_alloc_past _ _ _ (by simp; omega), World.cell?_setCell_same' _ _ _ (by rw [e1]; rfl), hS.out]
            rfl
          · rw [World.iter, World.frozen?_alloc_past _ _ _ (by simp; omega)]; simpa using hfW
          · rw [World.iter, World.frozen?_alloc_past _ _ _ (by simp; omega)]; simpa using hfdW
        · rw [decide_eq_false hN] at hscan
          have hS := Lib.hid hscan
          clear hscan
          have hL : ¬ (T.extract s p).toList = NM.toList := fun e => hN (Pl.toList_inj.1 e)
          have C := Lib.hid (fun f' => clos_number_off (n : Int) f' (T.extract s p) NM a c d _ ha2 hd2 hL (beq_eq_false_iff_ne.2 hL))
          have hN := Lib.hid hN
          have hL := Lib.hid hL
          go_wp2_with fail
          refine (C.out _).mono ?_
          rintro e w2 ⟨rfl, rfl⟩
          go_wp2_with fail
          go_roundw
          case rel => exact ⟨p + 1, n + 1, f, p + 1, W, rfl, by go_num, rfl, by go_num, hz, haW, hcW, hfW, hdW, hfdW, hgW, hS.out, by omega, by omega, by omega, by omega, by omega, by omega⟩
          case measure => rw [← hz]; simp; omega
      · have e10 : (((T[p]'hp).toNat : Int) == 10) = false := beq_eq_false_iff_ne.2 (fun h => b10 (UInt8.toNat_inj.1 (by show (T[p]'hp).toNat = 10; omega)))
        have e32 : (((T[p]'hp).toNat : Int) == 32) = false := beq_eq_false_iff_ne.2 (fun h => b32 (UInt8.toNat_inj.1 (by show (T[p]'hp).toNat = 32; omega)))
        rw [Pl.scan, if_neg b10, if_neg b32] at hscan
        have hS := Lib.hid hscan
        clear hscan
        generalize ((T[p]'hp).toNat : Int) = B at *
        go_wp2_with fail
        go_roundw
        case rel => exact ⟨p + 1, n, f, s, W, rfl, rfl, rfl, rfl, hz, haW, hcW, hfW, hdW, hfdW, hgW, hS.out, n1, by omega, by omega, by omega, by omega, by omega⟩
        case measure => rw [← hz]; simp; omega
    · have hnx : ∀ ty, (Instr.next (.pointer (some ⟨w.heap.size, 0, none⟩)) true ty).run Tryz.prog (W.iter T p) = .ok (.tuple #[.bool false]) (W.iter T p) := fun ty => by rw [← hz]; exact run_next_end W T p ty hp
      rw [Pl.drop_all (by omega), Pl.scan] at hscan
      have hS := Lib.hid hscan
      clear hscan
      go_wp2_with fail
      go_end0
      refine ⟨rfl, ?_, ?_, ?_, ?_, grown_iter hgW T p⟩
      · rw [World.iter, World.cell?_alloc_past _ _ _ (by omega), hcW]
        unfold Pl.opNum
        rw [hS.out]
        rfl
      · rw [World.iter, World.cell?_alloc_past _ _ _ (by omega), hdW, hS.out]
        rfl
      · rw [World.iter, World.frozen?_alloc_past _ _ _ (by omega)]; exact hfW
      · rw [World.iter, World.frozen?_alloc_past _ _ _ (by omega)]; exact hfdW
end Go.Proofs.YtfmmomdmemcbbaaGreat
namespace Go.Proofs.YtfmmomdmemcbbaaGreat
set_option linter.unusedVariables false
open Go.RowKit
theorem opT_size : (rangedText Tryz.f33).size < 100000 := by decide +kernel
def Pl.OpT (T : ByteArray) : Prop := rangedText Tryz.f33 = T ∧ T.data.toList.all (fun b => decide (b < 128)) = true ∧ (Pl.yields T).length = 162 ∧ T.size < 100000
theorem Pl.opT_is : Pl.OpT (rangedText Tryz.f33) := ⟨rfl, opT_ascii, opT_len, opT_size⟩
theorem family_any (T : ByteArray) (hT : Pl.OpT T) (N : Int) (w : World) : Calls Tryz.prog 18 #[.int .i64 N] w fun e w' => e = .returned (.int .i64 (Pl.opFam T N)) ∧ Grown w w' := by
  have E := Lib.hid (fun W (h : W.cell? ⟨w.heap.size, 0, none⟩ = some (.int .i64 N)) (h' : W.cell? ⟨w.heap.size + 1, 0, none⟩ = some (.int .i64 0)) h1 h2 hf hg => each_family T hT.1 hT.2.1 hT.2.2.1 hT.2.2.2 w W w.heap.size (w.heap.size + 1) N h1 h2 (by omega) (by omega) h h' hf hg)
  clear hT
  have hmf : ∀ (fn : Fn) (first cap : Array Value) (w : World), (Instr.makeFunc fn first cap).run Tryz.prog w = .ok (.func fn first cap) w := fun _ _ _ _ => rfl
  go_enter Tryz.func18, Tryz.ntmps18
  go_wp2_with fail
  refine (E.out _ (by simp [go_sem]) (by simp [go_sem]) (by first | (simp; done) | (simp; omega)) (by first | (simp; done) | (simp; omega)) (by rw [frozen?_alloc_cells, frozen?_alloc_cells]; simp [World.frozen?]) (((Grown.refl w).alloc _ _).alloc _ _)).mono ?_
  rintro e w2 ⟨rfl, h2, g2⟩
  go_wp2
  go_ret
  exact ⟨rfl, g2⟩
theorem number_any (T : ByteArray) (hT : Pl.OpT T) (NM : ByteArray) (w : World) : Calls Tryz.prog 29 #[.string NM] w fun e w' => e = .returned (.tuple #[.int .i64 (Pl.opNum T NM), .bool (Pl.opFind T NM).isSome]) ∧ Grown w w' := by
  have E := Lib.hid (fun W (h : W.cell? ⟨w.heap.size, 0, none⟩ = some (.string NM)) (h' : W.cell? ⟨w.heap.size + 1, 0, none⟩ = some (.int .i64 0)) (h'' : W.cell? ⟨w.heap.size + 2, 0, none⟩ = some (.bool false)) h1 h2 h3 hf hf' hg => each_number T NM hT.1 hT.2.1 hT.2.2.2 w W w.heap.size (w.heap.size + 1) (w.heap.size + 2) h1 h2 h3 (by omega) (by omega) (by omega) (by omega) (by omega) h h' hf h'' hf' hg)
  clear hT
  have hmf : ∀ (fn : Fn) (first cap : Array Value) (w : World), (Instr.makeFunc fn first cap).run Tryz.prog w = .ok (.func fn first cap) w := fun _ _ _ _ => rfl
  go_enter Tryz.func29, Tryz.ntmps29
  go_wp2_with fail
  refine (E.out _ (by simp [go_sem]) (by simp [go_sem]) (by simp [go_sem]) (by first | (simp; done) | (simp; omega)) (by first | (simp; done) | (simp; omega)) (by first | (simp; done) | (simp; omega)) (by rw [frozen?_alloc_cells, frozen?_alloc_cells, frozen?_alloc_cells]; simp [World.frozen?]) (by rw [frozen?_alloc_cells, frozen?_alloc_cells, frozen?_alloc_cells]; simp [World.frozen?]) ((((Grown.refl w).alloc _ _).alloc _ _).alloc _ _)).mono ?_
  rintro e w2 ⟨rfl, h2, h3, f2, f3, g2⟩
  go_wp2_with fail
  go_region
  go_wp2_with fail
  have k1 : ((w2.setCell ⟨w.heap.size + 1, 0, none⟩ (.int .i64 (Pl.opNum T NM))).setCell ⟨w.heap.size + 2, 0, none⟩ (.bool (Pl.opFind T NM).isSome)).cell? ⟨w.heap.size + 1, 0, none⟩ = some (.int .i64 (Pl.opNum T NM)) := by
    rw [World.cell?_setCell_other (h := by intro h; injection h with h; omega), World.cell?_setCell_same' _ _ _ (by rw [h2]; rfl)]
  have k2 : ((w2.setCell ⟨w.heap.size + 1, 0, none⟩ (.int .i64 (Pl.opNum T NM))).setCell ⟨w.heap.size + 2, 0, none⟩ (.bool (Pl.opFind T NM).isSome)).cell? ⟨w.heap.size + 2, 0, none⟩ = some (.bool (Pl.opFind T NM).isSome) := by
    rw [World.cell?_setCell_same' _ _ _ (by rw [World.cell?_setCell_other (h := by intro h; injection h with h; omega), h3]; rfl)]
  refine bodyPost_ret (v := .tuple #[.int .i64 (Pl.opNum T NM), .bool (Pl.opFind T NM).isSome]) (by simp [results, Tryz.results29, go_sem, k1, k2]) rfl ⟨rfl, (g2.setCell (by show w.heap.size ≤ w.heap.size + 1; omega) _).setCell (by show w.heap.size ≤ w.heap.size + 1 + 1; omega) _⟩
end Go.Proofs.YtfmmomdmemcbbaaGreat
namespace Go.Proofs.YtfmmomdmemcbbaaGreat
set_option linter.unusedVariables false
open Go.RowKit
theorem opT_full : (Pl.yields (rangedText Tryz.f33)).all (fun y => !(Pl.wordL (rangedText Tryz.f33) y).isEmpty) = true := by decide +kernel
def Pl.OpT2 (T : ByteArray) : Prop := Pl.OpT T ∧ Pl.upTo 1 (Pl.yields T) = true ∧ Pl.rise 1 (Pl.yields T) = true ∧ Pl.apart ((Pl.yields T).map (Pl.wordL T)) = true ∧ (Pl.yields T).all (fun y => !(Pl.wordL T y).isEmpty) = true
theorem Pl.opT2_is : Pl.OpT2 (rangedText Tryz.f33) := ⟨Pl.opT_is, opT_upTo, opT_rise, opT_apart, opT_full⟩
theorem Pl.upTo_get : ∀ (l : List (Nat × Nat × Nat × Nat)) (k : Nat), Pl.upTo k l = true → ∀ i (h : i < l.length), l[i].1 = k + i ∧ 1 ≤ l[i].2.1 ∧ l[i].2.1 ≤ 6
  | [], _, _, _, h => by simp at h
  | y :: r, k, hu, i, h => by
    simp only [Pl.upTo, Bool.and_eq_true, beq_iff_eq, decide_eq_true_eq] at hu
    obtain ⟨⟨⟨⟨h1, h2⟩, h3⟩, h4⟩, h5⟩ := hu
    cases i with
    | zero => exact ⟨by simpa using h1, by simpa using h2, by simpa using h3⟩
    | succ i =>
      have := Pl.upTo_get r (k + 1) h5 i (by simpa using h)
      simp only [List.getElem_cons_succ]
      exact ⟨by omega, this.2⟩
theorem Pl.rise_get : ∀ (l : List (Nat × Nat × Nat × Nat)) (f : Nat), Pl.rise f l = true → ∀ i (h : i < l.length), f ≤ l[i].2.1
  | [], _, _, _, h => by simp at h
  | y :: r, f, hu, i, h => by
    simp only [Pl.rise, Bool.and_eq_true, decide_eq_true_eq] at hu
    cases i with
    | zero => simpa using hu.1
    | succ i =>
      have := Pl.rise_get r y.2.1 hu.2 i (by simpa using h)
      simp only [List.getElem_cons_succ]
      omega
theorem Pl.rise_mono : ∀ (l : List (Nat × Nat × Nat × Nat)) (f : Nat), Pl.rise f l = true → ∀ i j (hij : i ≤ j) (h : j < l.length), l[i].2.1 ≤ l[j].2.1
  | [], _, _, _, _, _, h => by simp at h
  | y :: r, f, hu, i, j, hij, h => by
    simp only [Pl.rise, Bool.and_eq_true, decide_eq_true_eq] at hu
    cases j with
    | zero => obtain rfl : i = 0 := by omega
              exact Nat.le_refl _
    | succ j =>
      cases i with
      | zero => simpa using Pl.rise_get r y.2.1 hu.2 j (by simpa using h)
      | succ i => simpa using Pl.rise_mono r y.2.1 hu.2 i j (by omega) (by simpa using h)
theorem Pl.opAt_some {T : ByteArray} (hl : (Pl.yields T).length = 162) (N : Int) (h1 : 1 ≤ N) (h2 : N ≤ 162) : Pl.opAt T N = some ((Pl.yields T)[(N - 1).toNat]'(by omega)) := by
  unfold Pl.opAt
  rw [if_pos h1]
  exact List.getElem?_eq_getElem _
theorem Pl.fam_bd {T : ByteArray} (hT : Pl.OpT2 T) (N : Int) (h1 : 1 ≤ N) (h2 : N ≤ 162) : 1 ≤ Pl.opFam T N ∧ Pl.opFam T N ≤ 6 := by
  have hl := hT.1.2.2.1
  have := Pl.upTo_get _ 1 hT.2.1 (N - 1).toNat (by omega)
  unfold Pl.opFam
  rw [Pl.opAt_some hl N h1 h2]
  show 1 ≤ (((Pl.yields T)[(N - 1).toNat]).2.1 : Int) ∧ (((Pl.yields T)[(N - 1).toNat]).2.1 : Int) ≤ 6
  omega
theorem Pl.fam_mono {T : ByteArray} (hT : Pl.OpT2 T) (M N : Int) (h1 : 1 ≤ M) (h2 : M ≤ N) (h3 : N ≤ 162) : Pl.opFam T M ≤ Pl.opFam T N := by
  have hl := hT.1.2.2.1
  have := Pl.rise_mono _ 1 hT.2.2.1 (M - 1).toNat (N - 1).toNat (by omega) (by omega)
  unfold Pl.opFam
  rw [Pl.opAt_some hl M h1 (by omega), Pl.opAt_some hl N (by omega) h3]
  show (((Pl.yields T)[(M - 1).toNat]).2.1 : Int) ≤ (((Pl.yields T)[(N - 1).toNat]).2.1 : Int)
  omega
theorem Pl.word_out {T : ByteArray} (hT : Pl.OpT T) (N : Int) (h : N < 1 ∨ 162 < N) : Pl.opWord T N = ⟨#[]⟩ ∧ Pl.opFam T N = 0 := by
  have e : Pl.opAt T N = none := by
    rcases h with h | h
    · exact Pl.opAt_low T N h
    · exact Pl.opAt_high T N (by rw [hT.2.2.1]; exact h)
  unfold Pl.opWord Pl.opFam
  rw [e]
  exact ⟨rfl, rfl⟩
end Go.Proofs.YtfmmomdmemcbbaaGreat
namespace Go.Proofs.YtfmmomdmemcbbaaGreat
set_option linter.unusedVariables false
open Go.RowKit
def Pl.opsOf : Code → List Oper
  | .region _ ops _ => ops.toList
  | .seq a b => Pl.opsOf a ++ Pl.opsOf b
  | .cond _ a b => Pl.opsOf a ++ Pl.opsOf b
  | .block _ b => Pl.opsOf b
  | .loop b => Pl.opsOf b
  | .scope b => Pl.opsOf b
  | _ => []
def Pl.builts (f : Func) : List (Array Value) :=
  match f.body with
  | some c => (Pl.opsOf c).filterMap fun o => match o.op with
    | .buildSlice _ _ vs => some (vs.map fun p => match p.2 with | .const v => v | _ => .bool false)
    | _ => none
  | none => []
def Pl.refA (f : Func) (k : Nat) : Array Value := (Pl.builts f).getD k #[]
theorem refA_sizes : (Pl.refA Tryz.f60 0).size = 38 ∧ (Pl.refA Tryz.f60 1).size = 20 ∧ (Pl.refA Tryz.f60 2).size = 13 ∧ (Pl.refA Tryz.f60 3).size = 9 ∧ (Pl.refA Tryz.f60 4).size = 21 ∧ (Pl.refA Tryz.f60 5).size = 61 := by
  refine ⟨by kernel_rfl, by kernel_rfl, by kernel_rfl, by kernel_rfl, by kernel_rfl, by kernel_rfl⟩
theorem refnames_1 (w : World) :
    Calls Tryz.prog 60 #[.int .i64 1] w fun e w' => e = .returned (.slice (some ⟨w.heap.size, 0, none⟩) 38 38) ∧ w' = w.alloc (.cells (Pl.refA Tryz.f60 0) 9) := by
  go_enter Tryz.func60, Tryz.ntmps60
  go_wp2_with fail
  go_ret
  exact ⟨rfl, by congr 2; kernel_rfl⟩
theorem refnames_2 (w : World) :
    Calls Tryz.prog 60 #[.int .i64 2] w fun e w' => e = .returned (.slice (some ⟨w.heap.size, 0, none⟩) 20 20) ∧ w' = w.alloc (.cells (Pl.refA Tryz.f60 1) 9) := by
  go_enter Tryz.func60, Tryz.ntmps60
  go_wp2_with fail
  go_ret
  exact ⟨rfl, by congr 2; kernel_rfl⟩
theorem refnames_3 (w : World) :
    Calls Tryz.prog 60 #[.int .i64 3] w fun e w' => e = .returned (.slice (some ⟨w.heap.size, 0, none⟩) 13 13) ∧ w' = w.alloc (.cells (Pl.refA Tryz.f60 2) 9) := by
  go_enter Tryz.func60, Tryz.ntmps60
  go_wp2_with fail
  go_ret
  exact ⟨rfl, by congr 2; kernel_rfl⟩
theorem refnames_4 (w : World) :
    Calls Tryz.prog 60 #[.int .i64 4] w fun e w' => e = .returned (.slice (some ⟨w.heap.size, 0, none⟩) 9 9) ∧ w' = w.alloc (.cells (Pl.refA Tryz.f60 3) 9) := by
  go_enter Tryz.func60, Tryz.ntmps60
  go_wp2_with fail
  go_ret
  exact ⟨rfl, by congr 2; kernel_rfl⟩
theorem refnames_5 (w : World) :
    Calls Tryz.prog 60 #[.int .i64 5] w fun e w' => e = .returned (.slice (some ⟨w.heap.size, 0, none⟩) 21 21) ∧ w' = w.alloc (.cells (Pl.refA Tryz.f60 4) 9) := by
  go_enter Tryz.func60, Tryz.ntmps60
  go_wp2_with fail
  go_ret
  exact ⟨rfl, by congr 2; kernel_rfl⟩
theorem refnames_6 (w : World) :
    Calls Tryz.prog 60 #[.int .i64 6] w fun e w' => e = .returned (.slice (some ⟨w.heap.size, 0, none⟩) 61 61) ∧ w' = w.alloc (.cells (Pl.refA Tryz.f60 5) 9) := by
  go_enter Tryz.func60, Tryz.ntmps60
  go_wp2_with fail
  go_ret
  exact ⟨rfl, by congr 2; kernel_rfl⟩
end Go.Proofs.YtfmmomdmemcbbaaGreat
namespace Go.Proofs.YtfmmomdmemcbbaaGreat
set_option linter.unusedVariables false
open Go.RowKit
def Kept (W w' : World) : Prop := W.keptBut w' (fun _ => False) ∧ (∀ a : Addr, a.block < W.heap.size → w'.frozen? a = W.frozen? a) ∧ W.heap.size ≤ w'.heap.size
theorem Kept.of_grown {W w' : World} (h : Grown W w') : Kept W w' := ⟨h.1, fun a _ => h.2.1 a, h.2.2⟩
theorem Kept.refl (W : World) : Kept W W := Kept.of_grown (Grown.refl W)
theorem Kept.trans {a b c : World} (h : Kept a b) (k : Kept b c) : Kept a c :=
  ⟨World.keptBut_trans h.1 k.1, fun x hx => (k.2.1 x (Nat.lt_of_lt_of_le hx h.2.2)).trans (h.2.1 x hx), Nat.le_trans h.2.2 k.2.2⟩
theorem Kept.grown {w W W' : World} {row : Option Nat} (h : Kept w W) (hg : W.grownBy W' row) (hr : ∀ k, row = some k → w.heap.size ≤ k) : Kept w W' := by
  obtain ⟨⟨h1, h2, h3⟩, hf, hs⟩ := h
  have hb : ∀ i, i < w.heap.size → W'.heap[i]? = W.heap[i]? := fun i hi => hg.block i (by omega) (fun e => by have := hr i e.symm; omega)
  refine ⟨⟨by rw [hg.os]; exact h1, by rw [hg.output]; exact h2, fun i hi => ?_⟩, fun a ha => ?_, Nat.le_trans hs hg.size⟩
  · rw [hb i hi]; exact h3 i hi
  · rw [← hf a ha]; exact World.frozen?_of_block (hb a.block ha)
theorem own_from {w : World} {base : Nat} {e : TypeId} {size : Nat} {v : Value} {n : Nat} {xs : List Value} (h : w.ownsRow base e size v n xs) : ∀ k, v.ownBlock = some k → base ≤ k := by
  intro k hk
  rcases h.2 with ⟨rfl, _⟩ | ⟨g, cap, cur, rfl, hb, _⟩
  · cases hk
  · simp [Value.ownBlock] at hk; omega
theorem alloc_cell (w : World) (A : Array Value) (t : TypeId) (j : Nat) (u : Value) (h : A.toList[j]? = some u) : (w.alloc (.cells A t)).cell? ((⟨w.heap.size, 0, none⟩ : Addr).add j) = some u := by
  rw [Addr.add_lit, cell_of_row _ _ _ _ _ _ (heap_alloc_new w _), Nat.zero_add]
  simpa using h
def Pl.refCat (f : Func) : Nat → List Value
  | 0 => []
  | k + 1 => Pl.refCat f k ++ (Pl.refA f k).toList
theorem refA_one : (Pl.refA Tryz.f60 0).toList.all (fun u => u.oneCell') = true ∧ (Pl.refA Tryz.f60 1).toList.all (fun u => u.oneCell') = true ∧ (Pl.refA Tryz.f60 2).toList.all (fun u => u.oneCell') = true ∧ (Pl.refA Tryz.f60 3).toList.all (fun u => u.oneCell') = true ∧ (Pl.refA Tryz.f60 4).toList.all (fun u => u.oneCell') = true ∧ (Pl.refA Tryz.f60 5).toList.all (fun u => u.oneCell') = true := by
  refine ⟨by kernel_rfl, by kernel_rfl, by kernel_rfl, by kernel_rfl, by kernel_rfl, by kernel_rfl⟩
theorem Tryz.strInfo : (Tryz.prog.info? 9).map (fun i => (i.zero, i.size, i.bytes)) = some (some (.string ⟨#[]⟩), 1, 16) := by kernel_rfl
theorem refall_own (w : World) : Calls Tryz.prog 68 #[] w fun e w' => ∃ v, e = .returned v ∧ w'.ownsRow w.heap.size 9 1 v 162 (Pl.refCat Tryz.f60 6) ∧ Kept w w' := by
  obtain ⟨i0, hi, hz0, hz1, hz2⟩ := info_parts Tryz.strInfo
  obtain ⟨o0, o1, o2, o3, o4, o5⟩ := refA_one
  obtain ⟨s0, s1, s2, s3, s4, s5⟩ := refA_sizes
  have O0 := Lib.hid o0; have O1 := Lib.hid o1; have O2 := Lib.hid o2; have O3 := Lib.hid o3; have O4 := Lib.hid o4; have O5 := Lib.hid o5
  have S0 := Lib.hid s0; have S1 := Lib.hid s1; have S2 := Lib.hid s2; have S3 := Lib.hid s3; have S4 := Lib.hid s4; have S5 := Lib.hid s5
  clear o0 o1 o2 o3 o4 o5 s0 s1 s2 s3 s4 s5
  obtain ⟨f, hf⟩ : ∃ f, Tryz.f60 = f := ⟨_, rfl⟩
  have C0 := fun w => refnames_1 w
  rw [hf] at C0 O0 S0
  have C0 := Lib.hid C0
  have C1 := fun w => refnames_2 w
  rw [hf] at C1 O1 S1
  have C1 := Lib.hid C1
  have C2 := fun w => refnames_3 w
  rw [hf] at C2 O2 S2
  have C2 := Lib.hid C2
  have C3 := fun w => refnames_4 w
  rw [hf] at C3 O3 S3
  have C3 := Lib.hid C3
  have C4 := fun w => refnames_5 w
  rw [hf] at C4 O4 S4
  have C4 := Lib.hid C4
  have C5 := fun w => refnames_6 w
  rw [hf] at C5 O5 S5
  have C5 := Lib.hid C5
  rw [hf]
  go_enter Tryz.func68, Tryz.ntmps68
  go_wp2_with fail
  go_loopw [1, 2] (fun l i wr => ∃ (k n : Nat), k ≤ 6 ∧ i = .int .i64 ((k : Int) + 1) ∧ wr.ownsRow w.heap.size 9 1 l n (Pl.refCat f k) ∧ Hid ((k = 0 ∧ n = 0) ∨ (k = 1 ∧ n = 38) ∨ (k = 2 ∧ n = 58) ∨ (k = 3 ∧ n = 71) ∨ (k = 4 ∧ n = 80) ∨ (k = 5 ∧ n = 101) ∨ (k = 6 ∧ n = 162)) ∧ Kept w wr) (fun _ i _ => (7 - intOf i).toNat)
  case atStart => exact ⟨0, 0, by omega, rfl, World.ownsRow_nil w _ 9 1, .inl ⟨rfl, rfl⟩, Kept.refl w⟩
  case round =>
    obtain ⟨k, n, hk, rfl, hown, hkn, hK⟩ := hrel
    rcases hkn.out with ⟨rfl, rfl⟩ | ⟨rfl, rfl⟩ | ⟨rfl, rfl⟩ | ⟨rfl, rfl⟩ | ⟨rfl, rfl⟩ | ⟨rfl, rfl⟩ | ⟨rfl, rfl⟩
    · clear hkn hk
      rw [show ((0 : Nat) : Int) + 1 = 1 from rfl]
      go_wp2_with fail
      refine (C0.out _).mono ?_
      rintro e w1 ⟨rfl, rfl⟩
      have hown1 := hown.kept (World.grownBy_alloc _ (.cells (Pl.refA f 0) 9) none) (by first | (exact Or.inl rfl) | (rcases Option.eq_none_or_eq_some (Value.ownBlock _) with h | ⟨x, h⟩; exact Or.inl h; exact Or.inr (by rw [h]; simp)))
      have hK1 := hK.grown (World.grownBy_alloc _ (.cells (Pl.refA f 0) 9) none) (fun k h => by cases h)
      go_wp2_with (at_builtin; refine wpList_append_own _ (hgd := rfl) (.tmp 7) (.tmp 9) 82 rfl w.heap.size 9 i0 (.string ⟨#[]⟩) 1 16 Tryz.underlying82 hi hz0 hz1 hz2 rfl (by decide) _ 0 (Pl.refCat f 0) rfl hown1 ⟨_, 0, none⟩ 38 38 (Pl.refA f 0).toList rfl ?hlen ?hnews ?hone (by unfold maxLen; omega) (by omega) ?hbase ?hnext)
      case hlen => rw [Array.length_toList, S0.out]
      case hnews => intro j u hu; exact alloc_cell _ _ _ j u hu
      case hone => exact fun u hu => List.all_eq_true.1 O0.out u hu
      case hbase => exact hK1.2.2
      case hnext =>
        intro v' w' hown' hgr hnil
        have hK2 := hK1.grown hgr (own_from hown1)
        go_wp2_with fail
        go_roundw
        case rel => exact ⟨1, 38, by omega, rfl, hown', .inr (.inl ⟨rfl, rfl⟩), hK2⟩
        case measure => simp [intOf]
    · clear hkn hk
      rw [show ((1 : Nat) : Int) + 1 = 2 from rfl]
      go_wp2_with fail
      refine (C1.out _).mono ?_
      rintro e w1 ⟨rfl, rfl⟩
      have hown1 := hown.kept (World.grownBy_alloc _ (.cells (Pl.refA f 1) 9) none) (by first | (exact Or.inl rfl) | (rcases Option.eq_none_or_eq_some (Value.ownBlock _) with h | ⟨x, h⟩; exact Or.inl h; exact Or.inr (by rw [h]; simp)))
      have hK1 := hK.grown (World.grownBy_alloc _ (.cells (Pl.refA f 1) 9) none) (fun k h => by cases h)
      go_wp2_with (at_builtin; refine wpList_append_own _ (hgd := rfl) (.tmp 7) (.tmp 9) 82 rfl w.heap.size 9 i0 (.string ⟨#[]⟩) 1 16 Tryz.underlying82 hi hz0 hz1 hz2 rfl (by decide) _ 38 (Pl.refCat f 1) rfl hown1 ⟨_, 0, none⟩ 20 20 (Pl.refA f 1).toList rfl ?hlen ?hnews ?hone (by unfold maxLen; omega) (by omega) ?hbase ?hnext)
      case hlen => rw [Array.length_toList, S1.out]
      case hnews => intro j u hu; exact alloc_cell _ _ _ j u hu
      case hone => exact fun u hu => List.all_eq_true.1 O1.out u hu
      case hbase => exact hK1.2.2
      case hnext =>
        intro v' w' hown' hgr hnil
        have hK2 := hK1.grown hgr (own_from hown1)
        go_wp2_with fail
        go_roundw
        case rel => exact ⟨2, 58, by omega, rfl, hown', .inr (.inr (.inl ⟨rfl, rfl⟩)), hK2⟩
        case measure => simp [intOf]
    · clear hkn hk
      rw [show ((2 : Nat) : Int) + 1 = 3 from rfl]
      go_wp2_with fail
      refine (C2.out _).mono ?_
      rintro e w1 ⟨rfl, rfl⟩
      have hown1 := hown.kept (World.grownBy_alloc _ (.cells (Pl.refA f 2) 9) none) (by first | (exact Or.inl rfl) | (rcases Option.eq_none_or_eq_some (Value.ownBlock _) with h | ⟨x, h⟩; exact Or.inl h; exact Or.inr (by rw [h]; simp)))
      have hK1 := hK.grown (World.grownBy_alloc _ (.cells (Pl.refA f 2) 9) none) (fun k h => by cases h)
      go_wp2_with (at_builtin; refine wpList_append_own _ (hgd := rfl) (.tmp 7) (.tmp 9) 82 rfl w.heap.size 9 i0 (.string ⟨#[]⟩) 1 16 Tryz.underlying82 hi hz0 hz1 hz2 rfl (by decide) _ 58 (Pl.refCat f 2) rfl hown1 ⟨_, 0, none⟩ 13 13 (Pl.refA f 2).toList rfl ?hlen ?hnews ?hone (by unfold maxLen; omega) (by omega) ?hbase ?hnext)
      case hlen => rw [Array.length_toList, S2.out]
      case hnews => intro j u hu; exact alloc_cell _ _ _ j u hu
      case hone => exact fun u hu => List.all_eq_true.1 O2.out u hu
      case hbase => exact hK1.2.2
      case hnext =>
        intro v' w' hown' hgr hnil
        have hK2 := hK1.grown hgr (own_from hown1)
        go_wp2_with fail
        go_roundw
        case rel => exact ⟨3, 71, by omega, rfl, hown', .inr (.inr (.inr (.inl ⟨rfl, rfl⟩))), hK2⟩
        case measure => simp [intOf]
    · clear hkn hk
      rw [show ((3 : Nat) : Int) + 1 = 4 from rfl]
      go_wp2_with fail
      refine (C3.out _).mono ?_
      rintro e w1 ⟨rfl, rfl⟩
      have hown1 := hown.kept (World.grownBy_alloc _ (.cells (Pl.refA f 3) 9) none) (by first | (exact Or.inl rfl) | (rcases Option.eq_none_or_eq_some (Value.ownBlock _) with h | ⟨x, h⟩; exact Or.inl h; exact Or.inr (by rw [h]; simp)))
      have hK1 := hK.grown (World.grownBy_alloc _ (.cells (Pl.refA f 3) 9) none) (fun k h => by cases h)
      go_wp2_with (at_builtin; refine wpList_append_own _ (hgd := rfl) (.tmp 7) (.tmp 9) 82 rfl w.heap.size 9 i0 (.string ⟨#[]⟩) 1 16 Tryz.underlying82 hi hz0 hz1 hz2 rfl (by decide) _ 71 (Pl.refCat f 3) rfl hown1 ⟨_, 0, none⟩ 9 9 (Pl.refA f 3).toList rfl ?hlen ?hnews ?hone (by unfold maxLen; omega) (by omega) ?hbase ?hnext)
      case hlen => rw [Array.length_toList, S3.out]
      case hnews => intro j u hu; exact alloc_cell _ _ _ j u hu
      case hone => exact fun u hu => List.all_eq_true.1 O3.out u hu
      case hbase => exact hK1.2.2
      case hnext =>
        intro v' w' hown' hgr hnil
        have hK2 := hK1.grown hgr (own_from hown1)
        go_wp2_with fail
        go_roundw
        case rel => exact ⟨4, 80, by omega, rfl, hown', .inr (.inr (.inr (.inr (.inl ⟨rfl, rfl⟩)))), hK2⟩
        case measure => simp [intOf]
    · clear hkn hk
      rw [show ((4 : Nat) : Int) + 1 = 5 from rfl]
      go_wp2_with fail
      refine (C4.out _).mono ?_
      rintro e w1 ⟨rfl, rfl⟩
      have hown1 := hown.kept (World.grownBy_alloc _ (.cells (Pl.refA f 4) 9) none) (by first | (exact Or.inl rfl) | (rcases Option.eq_none_or_eq_some (Value.ownBlock _) with h | ⟨x, h⟩; exact Or.inl h; exact Or.inr (by rw [h]; simp)))
      have hK1 := hK.grown (World.grownBy_alloc _ (.cells (Pl.refA f 4) 9) none) (fun k h => by cases h)
      go_wp2_with (at_builtin; refine wpList_append_own _ (hgd := rfl) (.tmp 7) (.tmp 9) 82 rfl w.heap.size 9 i0 (.string ⟨#[]⟩) 1 16 Tryz.underlying82 hi hz0 hz1 hz2 rfl (by decide) _ 80 (Pl.refCat f 4) rfl hown1 ⟨_, 0, none⟩ 21 21 (Pl.refA f 4).toList rfl ?hlen ?hnews ?hone (by unfold maxLen; omega) (by omega) ?hbase ?hnext)
      case hlen => rw [Array.length_toList, S4.out]
      case hnews => intro j u hu; exact alloc_cell _ _ _ j u hu
      case hone => exact fun u hu => List.all_eq_true.1 O4.out u hu
      case hbase => exact hK1.2.2
      case hnext =>
        intro v' w' hown' hgr hnil
        have hK2 := hK1.grown hgr (own_from hown1)
        go_wp2_with fail
        go_roundw
        case rel => exact ⟨5, 101, by omega, rfl, hown', .inr (.inr (.inr (.inr (.inr (.inl ⟨rfl, rfl⟩))))), hK2⟩
        case measure => simp [intOf]
    · clear hkn hk
      rw [show ((5 : Nat) : Int) + 1 = 6 from rfl]
      go_wp2_with fail
      refine (C5.out _).mono ?_
      rintro e w1 ⟨rfl, rfl⟩
      have hown1 := hown.kept (World.grownBy_alloc _ (.cells (Pl.refA f 5) 9) none) (by first | (exact Or.inl rfl) | (rcases Option.eq_none_or_eq_some (Value.ownBlock _) with h | ⟨x, h⟩; exact Or.inl h; exact Or.inr (by rw [h]; simp)))
      have hK1 := hK.grown (World.grownBy_alloc _ (.cells (Pl.refA f 5) 9) none) (fun k h => by cases h)
      go_wp2_with (at_builtin; refine wpList_append_own _ (hgd := rfl) (.tmp 7) (.tmp 9) 82 rfl w.heap.size 9 i0 (.string ⟨#[]⟩) 1 16 Tryz.underlying82 hi hz0 hz1 hz2 rfl (by decide) _ 101 (Pl.refCat f 5) rfl hown1 ⟨_, 0, none⟩ 61 61 (Pl.refA f 5).toList rfl ?hlen ?hnews ?hone (by unfold maxLen; omega) (by omega) ?hbase ?hnext)
      case hlen => rw [Array.length_toList, S5.out]
      case hnews => intro j u hu; exact alloc_cell _ _ _ j u hu
      case hone => exact fun u hu => List.all_eq_true.1 O5.out u hu
      case hbase => exact hK1.2.2
      case hnext =>
        intro v' w' hown' hgr hnil
        have hK2 := hK1.grown hgr (own_from hown1)
        go_wp2_with fail
        go_roundw
        case rel => exact ⟨6, 162, by omega, rfl, hown', .inr (.inr (.inr (.inr (.inr (.inr (⟨rfl, rfl⟩)))))), hK2⟩
        case measure => simp [intOf]
    · clear hkn hk
      go_wp2_with fail
      go_ret
      exact ⟨_, rfl, hown, hK⟩
end Go.Proofs.YtfmmomdmemcbbaaGreat
namespace Go.Proofs.YtfmmomdmemcbbaaGreat
set_option linter.unusedVariables false
open Go.RowKit
theorem Tryz.objInfo : (Tryz.prog.info? 25).map (fun i => (i.zero, i.size, i.bytes)) = some (some (obv 0 false 0 0 0 ⟨#[]⟩), 6, 56) := by kernel_rfl
abbrev Pl.Ob := Int × Bool × Int × Int × Int × ByteArray
def Pl.oc (o : Pl.Ob) : List Value := [.int .i64 o.1, .bool o.2.1, .int .i64 o.2.2.1, .int .i64 o.2.2.2.1, .int .i64 o.2.2.2.2.1, .string o.2.2.2.2.2]
def Pl.flat : List Pl.Ob → List Value
  | [] => []
  | o :: r => Pl.oc o ++ Pl.flat r
theorem Pl.flat_append (a b : List Pl.Ob) : Pl.flat (a ++ b) = Pl.flat a ++ Pl.flat b := by
  induction a with
  | nil => rfl
  | cons o r ih => simp only [List.cons_append, Pl.flat, ih, List.append_assoc]
theorem step_append_spare {P : Program} {ops : Array Oper} {o : Oper} {a : Act} {w : World} {K : Act → World → Prop} {Q : Exit → Act → World → Prop} {E : Prop}
    (hg : o.guard = none) (s x : Operand) (t : TypeId) (ho : o.op = .call { callee := .builtin .append, args := #[s, x], argTypes := #[t, t] })
    (base : Nat) (e : TypeId) (i : TypeInfo) (size : Nat) (ht : P.underlying t = some (.slice e)) (hi : P.info? e = some i) (hsize : i.size = size)
    (g n cap : Nat) (xs : List Value) (hs : a.eval s = .slice (some ⟨g, 0, none⟩) n cap) (hown : w.ownsRow base e size (.slice (some ⟨g, 0, none⟩) n cap) n xs)
    (ad : Addr) (m c : Nat) (news : List Value) (hx : a.eval x = .slice (some ad) m c) (hl : news.length = m * size) (hnews : ∀ j u, news[j]? = some u → w.cell? (ad.add j) = some u) (h1 : ∀ u ∈ news, u.oneCell' = true)
    (hroom : n + m ≤ cap)
    (h : ∀ w', w'.ownsRow base e size (.slice (some ⟨g, 0, none⟩) (n + m) cap) (n + m) (xs ++ news) → w.grownBy w' (some g) → K (a.put o.dst (.slice (some ⟨g, 0, none⟩) (n + m) cap)) w') :
    if Region.wanted o (yielded ops a.tmps) = true then Oper.wp P o a w K Q else E := by
  have hw : Region.wanted o (yielded ops a.tmps) = true := by simp [Region.wanted, hg]
  rw [if_pos hw]
  exact wp_append_own_spare w s x t ho base e i size ht hi hsize g n cap xs hs hown ad m c news hx hl hnews h1 hroom fun w' h2 h3 => h w' h2 h3
theorem step_append_grows {P : Program} {ops : Array Oper} {o : Oper} {a : Act} {w : World} {K : Act → World → Prop} {Q : Exit → Act → World → Prop} {E : Prop}
    (hg : o.guard = none) (s x : Operand) (t : TypeId) (ho : o.op = .call { callee := .builtin .append, args := #[s, x], argTypes := #[t, t] })
    (e : TypeId) (i : TypeInfo) (z : Value) (size bytes : Nat) (ht : P.underlying t = some (.slice e)) (hi : P.info? e = some i) (hz : i.zero = some z)
    (hsize : i.size = size) (hby : i.bytes = bytes) (hzs : z.cells.size = size) (hsz : 0 < size)
    (ao : Option Addr) (n cap : Nat) (olds : List Value) (hs : a.eval s = .slice ao n cap) (hnone : ao = none → n = 0 ∧ cap = 0) (hlo : olds.length = n * size) (holds : ∀ b, ao = some b → ∀ j u, olds[j]? = some u → w.cell? (b.add j) = some u)
    (ad : Addr) (m c : Nat) (news : List Value) (hx : a.eval x = .slice (some ad) m c) (hn : news.length = m * size) (hc : ∀ j u, news[j]? = some u → w.cell? (ad.add j) = some u) (h1c : ∀ u ∈ news, u.oneCell' = true)
    (hfull : cap < n + m) (b1 : n + m ≤ maxLen) (b2 : (n + m) * bytes ≤ 140737488355328)
    (hK : ∀ v' w', w'.ownsRow w.heap.size e size v' (n + m) (olds ++ news) → w.grownBy w' none → K (a.put o.dst v') w') :
    if Region.wanted o (yielded ops a.tmps) = true then Oper.wp P o a w K Q else E := by
  have hw : Region.wanted o (yielded ops a.tmps) = true := by simp [Region.wanted, hg]
  rw [if_pos hw]
  cases ao with
  | some b =>
    obtain ⟨v', w', hrun, r1, r2⟩ := run_append_arg_grows (P := P) w t o.type e i z size bytes ht hi hz hsize hby hzs hsz b n cap olds hlo (holds b rfl) ad m c news hn hc hfull b1 b2
    unfold Oper.wp
    simp [execOp, ho, resolve, invoke, builtin, hs, hx, hrun, Result.andThen]
    exact hK v' w' r1 r2
  | none =>
    obtain ⟨rfl, rfl⟩ := hnone rfl
    obtain rfl : olds = [] := List.eq_nil_of_length_eq_zero (by simpa using hlo)
    obtain ⟨v', w', hrun, r1, r2, _⟩ := run_append_own (P := P) w w.heap.size t o.type e i z size bytes ht hi hz hsize hby hzs hsz (.slice none 0 0) 0 [] (World.ownsRow_nil w _ e size) ad m c news hn hc h1c b1 b2 (Nat.le_refl _)
    unfold Oper.wp
    simp [execOp, ho, resolve, invoke, builtin, hs, hx, hrun, Result.andThen]
    exact hK v' w' r1 r2
end Go.Proofs.YtfmmomdmemcbbaaGreat
namespace Go.Proofs.YtfmmomdmemcbbaaGreat
set_option linter.unusedVariables false
open Go.RowKit
def Fr (P : Nat → Prop) (W w' : World) : Prop := w'.os = W.os ∧ w'.output = W.output ∧ W.heap.size ≤ w'.heap.size ∧ ∀ c, c < W.heap.size → ¬ P c → w'.heap[c]? = W.heap[c]?
theorem Fr.refl (P : Nat → Prop) (W : World) : Fr P W W := ⟨rfl, rfl, Nat.le_refl _, fun _ _ _ => rfl⟩
theorem Fr.trans {P : Nat → Prop} {a b c : World} (h : Fr P a b) (k : Fr P b c) : Fr P a c :=
  ⟨k.1.trans h.1, k.2.1.trans h.2.1, Nat.le_trans h.2.2.1 k.2.2.1, fun i hi hp => (k.2.2.2 i (Nat.lt_of_lt_of_le hi h.2.2.1) hp).trans (h.2.2.2 i hi hp)⟩
theorem Fr.trans' {P Q : Nat → Prop} {a b c : World} (h : Fr P a b) (k : Fr Q b c) (hQ : ∀ i, Q i → P i ∨ a.heap.size ≤ i) : Fr P a c :=
  ⟨k.1.trans h.1, k.2.1.trans h.2.1, Nat.le_trans h.2.2.1 k.2.2.1, fun i hi hp => (k.2.2.2 i (Nat.lt_of_lt_of_le hi h.2.2.1) (fun q => (hQ i q).elim hp (fun h' => by omega))).trans (h.2.2.2 i hi hp)⟩
theorem Fr.alloc (P : Nat → Prop) (W : World) (o : Obj) : Fr P W (W.alloc o) := ⟨rfl, rfl, by simp, fun i hi _ => Below.heap_alloc _ _ _ hi⟩
theorem Fr.setCell (P : Nat → Prop) (W : World) (a : Addr) (u : Value) (h : P a.block) : Fr P W (W.setCell a u) :=
  ⟨rfl, rfl, by simp, fun i hi hp => Below.heap_setCell _ _ _ _ (fun e => hp (e ▸ h))⟩
theorem Fr.grown (P : Nat → Prop) {W w' : World} {row : Option Nat} (hg : W.grownBy w' row) (h : ∀ k, row = some k → P k) : Fr P W w' :=
  ⟨hg.os, hg.output, hg.size, fun i hi hp => hg.block i hi (fun e => hp (h i e.symm))⟩
theorem grown_heap {W w' : World} (h : Grown W w') (c : Nat) (hc : c < W.heap.size) : w'.heap[c]? = W.heap[c]? := by
  have := h.1.2.2 c hc
  have hs : W.heap[c]? = some W.heap[c] := Array.getElem?_eq_getElem hc
  rw [hs] at this ⊢
  split at this
  · rename_i h1 h2
    obtain ⟨rfl, rfl, hz, hj⟩ := this
    injection h1 with h1
    rw [h2, h1]
    congr 2
    exact Array.ext_getElem? (fun j => hj j (fun f => f))
  · rename_i h1 h2
    injection h1 with h1
    rw [h2, h1]
    rcases this with f | ⟨rfl, rfl⟩
    · exact f.elim
    · rfl
  · exact this
theorem Fr.of_grown (P : Nat → Prop) {W w' : World} (h : Grown W w') : Fr P W w' := ⟨h.1.1, h.1.2.1, h.2.2, fun i hi _ => grown_heap h i hi⟩
theorem Kept.fr {P : Nat → Prop} {w W W' : World} (h : Kept w W) (k : Fr P W W') (hp : ∀ c, P c → w.heap.size ≤ c) : Kept w W' := by
  obtain ⟨⟨h1, h2, h3⟩, hf, hs⟩ := h
  have hb : ∀ i, i < w.heap.size → W'.heap[i]? = W.heap[i]? := fun i hi => k.2.2.2 i (by omega) (fun q => by have := hp i q; omega)
  refine ⟨⟨by rw [k.1]; exact h1, by rw [k.2.1]; exact h2, fun i hi => ?_⟩, fun a ha => ?_, Nat.le_trans hs k.2.2.1⟩
  · rw [hb i hi]; exact h3 i hi
  · rw [← hf a ha]; exact World.frozen?_of_block (hb a.block ha)
theorem Fr.cell {P : Nat → Prop} {W W' : World} (k : Fr P W W') {a : Addr} (ha : a.block < W.heap.size) (hp : ¬ P a.block) : W'.cell? a = W.cell? a := World.cell?_of_block (k.2.2.2 _ ha hp)
theorem Fr.frozen {P : Nat → Prop} {W W' : World} (k : Fr P W W') {a : Addr} (ha : a.block < W.heap.size) (hp : ¬ P a.block) : W'.frozen? a = W.frozen? a := World.frozen?_of_block (k.2.2.2 _ ha hp)
theorem own_lt {w : World} {base : Nat} {e : TypeId} {size : Nat} {v : Value} {n : Nat} {xs : List Value} (h : w.ownsRow base e size v n xs) : ∀ k, v.ownBlock = some k → k < w.heap.size := by
  intro k hk
  rcases h.2 with ⟨rfl, _⟩ | ⟨g, cap, cur, rfl, hb, hg, _⟩
  · cases hk
  · simp [Value.ownBlock] at hk
    subst hk
    exact (Array.getElem?_eq_some_iff.1 hg).1
theorem Fr.drew {P : Nat → Prop} {W w' : World} (h : Fr P W w') : Fr P W w'.drew := h
theorem own_some {w : World} {base : Nat} {e : TypeId} {size : Nat} {v : Value} {n : Nat} {xs : List Value} (h : w.ownsRow base e size v (n + 1) xs) : ∃ g cap, v = .slice (some ⟨g, 0, none⟩) (n + 1) cap ∧ base ≤ g := by
  rcases h.2 with ⟨_, h0⟩ | ⟨g, cap, cur, rfl, hb, _⟩
  · omega
  · exact ⟨g, cap, rfl, hb⟩
theorem own_fr {P : Nat → Prop} {w W' : World} {base : Nat} {e : TypeId} {size : Nat} {v : Value} {n : Nat} {xs : List Value} (h : w.ownsRow base e size v n xs) (k : Fr P w W') (hp : ∀ g, v.ownBlock = some g → ¬ P g) : W'.ownsRow base e size v n xs := by
  have hl := own_lt h
  refine ⟨h.1, ?_⟩
  rcases h.2 with h2 | ⟨g, cap, cur, rfl, hb, hg, r⟩
  · exact .inl h2
  · exact .inr ⟨g, cap, cur, rfl, hb, (k.2.2.2 g (hl g rfl) (hp g rfl)).trans hg, r⟩
def StkV (base p : Nat) (v : Value) (L : List Pl.Ob) (W : World) : Prop :=
  W.cell? ⟨p, 0, none⟩ = some v ∧ W.frozen? ⟨p, 0, none⟩ = false ∧ W.ownsRow base 25 6 v L.length (Pl.flat L) ∧ v.ownBlock ≠ some p ∧ p < W.heap.size
theorem StkV.fr {P : Nat → Prop} {base p : Nat} {v : Value} {L : List Pl.Ob} {W W' : World} (h : StkV base p v L W) (k : Fr P W W') (hp : ¬ P p) (hg : ∀ g, v.ownBlock = some g → ¬ P g) : StkV base p v L W' :=
  ⟨(k.cell (a := ⟨p, 0, none⟩) h.2.2.2.2 hp).trans h.1, (k.frozen (a := ⟨p, 0, none⟩) h.2.2.2.2 hp).trans h.2.1, own_fr h.2.2.1 k hg, h.2.2.2.1, Nat.lt_of_lt_of_le h.2.2.2.2 k.2.2.1⟩
theorem StkV.slice {base p : Nat} {v : Value} {L : List Pl.Ob} {W : World} (h : StkV base p v L W) : ∃ ao cap, v = .slice ao L.length cap := by
  rcases h.2.2.1.2 with ⟨rfl, h0⟩ | ⟨g, cap, cur, rfl, _⟩
  · exact ⟨none, 0, by rw [h0]⟩
  · exact ⟨_, _, rfl⟩
theorem new_any (w : World) : Calls Tryz.prog 6 #[] w fun e w' => e = .returned (.pointer (some ⟨w.heap.size, 0, none⟩)) ∧ w' = w.alloc (.cells #[.slice none 0 0] 44) := by
  go_enter Tryz.func6, Tryz.ntmps6
  go_wp2
  go_ret
  exact ⟨rfl, rfl⟩
theorem new_stk (w : World) : StkV w.heap.size w.heap.size (.slice none 0 0) [] (w.alloc (.cells #[.slice none 0 0] 44)) :=
  ⟨by simp [go_sem], by rw [frozen?_alloc_cells]; simp [World.frozen?], World.ownsRow_nil _ _ _ _, by simp [Value.ownBlock], by simp⟩
theorem len_any (base p : Nat) (v : Value) (L : List Pl.Ob) (W : World) (h : StkV base p v L W) :
    Calls Tryz.prog 36 #[.pointer (some ⟨p, 0, none⟩)] W fun e w' => e = .returned (.int .i64 (L.length : Int)) ∧ w' = W := by
  obtain ⟨ao, cap, rfl⟩ := h.slice
  have h0 := h.1
  clear h
  go_enter Tryz.func36, Tryz.ntmps36
  go_wp2
  go_ret
  exact ⟨rfl, rfl⟩
end Go.Proofs.YtfmmomdmemcbbaaGreat
namespace Go.Proofs.YtfmmomdmemcbbaaGreat
set_option linter.unusedVariables false
open Go.RowKit
theorem push_ok (base p : Nat) (v : Value) (L : List Pl.Ob) (k : Int) (x : Bool) (n a l : Int) (s : ByteArray) (hm : Pl.may k n a l s) (hn : L.length < 200) (W : World) (hS : StkV base p v L W) (hb : base ≤ W.heap.size) :
    Calls Tryz.prog 59 #[.pointer (some ⟨p, 0, none⟩), obv k x n a l s] W fun e w' => e = .returned (.int .i64 0) ∧
      (∃ v', StkV base p v' (L ++ [(k, x, n, a, l, s)]) w' ∧ ∀ g, v'.ownBlock = some g → v.ownBlock = some g ∨ W.heap.size ≤ g) ∧ Fr (fun c => c = p ∨ v.ownBlock = some c) W w' := by
  obtain ⟨i0, hi, hz0, hz1, hz2⟩ := info_parts Tryz.objInfo
  have CM := Lib.hid (fun W => may_yes k x n a l s hm W)
  obtain ⟨ao, cap, rfl⟩ := hS.slice
  obtain ⟨h0, h1, hown, hne, hp⟩ := id hS
  have hlen : (L.length : Int) < 200 := by omega
  have hp0 : ∀ o t, (W.alloc (.cells o t)).cell? ⟨p, 0, none⟩ = some (.slice ao L.length cap) := fun o t => by rw [World.cell?_alloc_past _ _ _ hp]; exact h0
  clear hm hS
  go_enter Tryz.func59, Tryz.ntmps59
  go_wp2_with fail
  refine (CM.out _).mono ?_
  rintro e w1 ⟨rfl, g1⟩
  have hO : ObS W W.heap.size k x n a l s w1 := ObS.grow (by exact ⟨by simp [go_sem], by simp [go_sem], by simp [go_sem], by simp [go_sem], by simp [go_sem], by simp [go_sem], by (repeat (first | exact Grown.refl _ | assumption | apply Grown.drew | apply Grown.alloc))⟩) g1
  have F1 : Fr (fun c => c = p ∨ (Value.slice ao L.length cap).ownBlock = some c) W w1 := Fr.of_grown _ hO.2.2.2.2.2.2
  have hp1 : w1.cell? ⟨p, 0, none⟩ = some (.slice ao L.length cap) := grown_cell hO.2.2.2.2.2.2 h0
  have hf1 : w1.frozen? ⟨p, 0, none⟩ = false := by rw [hO.2.2.2.2.2.2.2.1]; exact h1
  have hown1 := own_fr (P := fun _ => False) hown (Fr.of_grown _ hO.2.2.2.2.2.2) (fun _ _ f => f)
  have hsz := hO.2.2.2.2.2.2.2.2
  obtain ⟨o0, o1, o2, o3, o4, o5, og⟩ := id hO
  go_wp2_with fail
  have hp2 := Lib.hid (fun (A : Array Value) (t : TypeId) => (show (w1.alloc (.cells A t)).cell? ⟨p, 0, none⟩ = some (.slice ao L.length cap) from by rw [World.cell?_alloc_past _ _ _ (by omega)]; exact hp1))
  have hf2 := Lib.hid (fun (A : Array Value) (t : TypeId) => (frozen?_alloc_cells w1 A t ⟨p, 0, none⟩).trans hf1)
  have HO2 := Lib.hid (fun (A : Array Value) (t : TypeId) => own_fr (P := fun _ => False) hown1 (Fr.alloc _ w1 (.cells A t)) (fun _ _ f => f))
  have HN := Lib.hid (fun (A : Array Value) (t : TypeId) (hA : A.toList = Pl.oc (k, x, n, a, l, s)) (j : Nat) (u : Value) (hu : (Pl.oc (k, x, n, a, l, s))[j]? = some u) => alloc_cell w1 A t j u (by rw [hA]; exact hu))
  have H1 : Hid (∀ u ∈ Pl.oc (k, x, n, a, l, s), u.oneCell' = true) := Lib.hid (by intro u hu; simp [Pl.oc] at hu; rcases hu with rfl | rfl | rfl | rfl | rfl | rfl <;> rfl)
  have q0 := fun (A : Array Value) (t : TypeId) => (hO.grow ((Grown.refl w1).alloc A t)).1
  have q1 := fun (A : Array Value) (t : TypeId) => (hO.grow ((Grown.refl w1).alloc A t)).2.1
  have q2 := fun (A : Array Value) (t : TypeId) => (hO.grow ((Grown.refl w1).alloc A t)).2.2.1
  have p2 := fun (A : Array Value) (t : TypeId) => hp2.out A t
  have hszL := Lib.hid hsz
  have hpp : p < w1.heap.size := by omega
  have hbb : base ≤ w1.heap.size := by omega
  by_cases hroom : L.length + 1 ≤ cap
  · obtain ⟨g, rfl⟩ : ∃ g, ao = some ⟨g, 0, none⟩ := by
      rcases hown.2 with ⟨h, _⟩ | ⟨g, cap', cur, h, _⟩
      · injection h with h1 h2 h3; omega
      · injection h with h1 h2 h3; exact ⟨g, h1⟩
    have hgp : g ≠ p := fun e => hne (by rw [e]; rfl)
    go_region_law (refine step_append_spare rfl (.tmp 24) (.tmp 26) 22 rfl base 25 i0 6 Tryz.underlying22 hi hz1 g L.length cap (Pl.flat L) (by simp [Act.eval]) (HO2.out _ _) ⟨w1.heap.size, 0, none⟩ 1 1 (Pl.oc (k, x, n, a, l, s)) (by simp [Act.eval]) rfl (HN.out _ _ rfl) H1.out hroom ?_; intro w' hown' hgr; have hcp := hgr.cell (hp2.out _ _) (fun e => hgp (Option.some.inj e).symm); have hfp := (World.frozen?_of_block (a := ⟨p, 0, none⟩) (hgr.block p (by simp; omega) (fun e => hgp (Option.some.inj e).symm))).trans (hf2.out _ _))
    all_goals
      go_wp2_with fail
      go_ret
      refine ⟨rfl, ⟨.slice (some ⟨g, 0, none⟩) (L.length + 1) cap, ⟨World.cell?_setCell_same' _ _ _ (by rw [hcp]; rfl), by simpa using hfp, ?_, fun e => hgp (Option.some.inj e), ?_⟩, fun g2 e => .inl e⟩, ?_⟩
      · rw [List.length_append, Pl.flat_append]
        have := own_fr (P := fun c => c = p) hown' (Fr.setCell (fun c => c = p) w' ⟨p, 0, none⟩ (.slice (some ⟨g, 0, none⟩) (L.length + 1) cap) rfl) (fun g2 e h => hgp ((Option.some.inj e).trans h))
        simpa [Pl.flat] using this
      · have := hgr.size
        simp at this ⊢
        omega
      · exact ((F1.trans (Fr.alloc _ w1 (.cells _ 25))).drew.trans (Fr.grown _ hgr (by intro k2 e; exact .inr e))).trans (Fr.setCell _ _ _ _ (.inl rfl))
  · have hfull : cap < L.length + 1 := by omega
    have hnone : Hid (ao = none → L.length = 0 ∧ cap = 0) := Lib.hid (by
      rintro rfl
      rcases hown.2 with ⟨h, h0⟩ | ⟨g, cap', cur, h, _⟩
      · injection h with h1 h2 h3; exact ⟨h0, h3⟩
      · injection h with h1 h2 h3; cases h1)
    have HOLD := Lib.hid (fun (A : Array Value) (t : TypeId) (b : Addr) (hb : ao = some b) => (show ∀ j u, (Pl.flat L)[j]? = some u → (w1.alloc (.cells A t)).cell? (b.add j) = some u from by
      subst hb
      have h2 := HO2.out A t
      rcases h2.2 with ⟨h, _⟩ | ⟨g, cap', cur, h, _⟩
      · injection h with h1 h2 h3; cases h1
      · injection h with h1 h2 h3
        cases h1
        exact h2.cells rfl))
    have hne2 := Lib.hid hne
    go_region_law (refine step_append_grows rfl (.tmp 24) (.tmp 26) 22 rfl 25 i0 _ 6 56 Tryz.underlying22 hi hz0 hz1 hz2 rfl (by decide) ao L.length cap (Pl.flat L) (by simp [Act.eval]) hnone.out hown.1 (HOLD.out _ _) ⟨w1.heap.size, 0, none⟩ 1 1 (Pl.oc (k, x, n, a, l, s)) (by simp [Act.eval]) rfl (HN.out _ _ rfl) H1.out hfull (by unfold maxLen; omega) (by omega) ?_; intro v' w' hown' hgr; obtain ⟨g', cap', rfl, hg'⟩ := own_some hown'; have hcp := hgr.cell (hp2.out _ _) (by simp); have hfp := (World.frozen?_of_block (a := ⟨p, 0, none⟩) (hgr.block p (by simp; omega) (by simp))).trans (hf2.out _ _))
    all_goals
      have hg2 : w1.heap.size + 1 ≤ g' := by simpa using hg'
      have hgp : g' ≠ p := by omega
      go_wp2_with fail
      go_ret
      refine ⟨rfl, ⟨.slice (some ⟨g', 0, none⟩) (L.length + 1) cap', ⟨World.cell?_setCell_same' _ _ _ (by rw [hcp]; rfl), by simpa using hfp, ?_, fun e => hgp (Option.some.inj e), ?_⟩, ?_⟩, ?_⟩
      · rw [List.length_append, Pl.flat_append]
        have h3 : w'.ownsRow base 25 6 (.slice (some ⟨g', 0, none⟩) (L.length + 1) cap') (L.length + 1) (Pl.flat L ++ Pl.oc (k, x, n, a, l, s)) := by
          refine ⟨hown'.1, ?_⟩
          rcases hown'.2 with h | ⟨g2, c2, cur, e, hb2, r⟩
          · exact .inl h
          · exact .inr ⟨g2, c2, cur, e, by have : w1.heap.size + 1 ≤ g2 := by simpa using hb2
                                           omega, r⟩
        have := own_fr (P := fun c => c = p) h3 (Fr.setCell (fun c => c = p) w' ⟨p, 0, none⟩ (.slice (some ⟨g', 0, none⟩) (L.length + 1) cap') rfl) (fun g2 e h => hgp ((Option.some.inj e).trans h))
        simpa [Pl.flat] using this
      · have := hgr.size
        simp at this ⊢
        omega
      · intro g2 e
        have := Option.some.inj e
        exact .inr (by simp at this; omega)
      · exact ((F1.trans (Fr.alloc _ w1 (.cells _ 25))).drew.trans (Fr.grown _ hgr (by intro k2 e; cases e))).trans (Fr.setCell _ _ _ _ (.inl rfl))
end Go.Proofs.YtfmmomdmemcbbaaGreat
namespace Go.Proofs.YtfmmomdmemcbbaaGreat
set_option linter.unusedVariables false
open Go.RowKit
theorem push_bad (base p : Nat) (v : Value) (L : List Pl.Ob) (k : Int) (x : Bool) (n a l : Int) (s : ByteArray) (hm : ¬ Pl.may k n a l s) (W : World) (hS : StkV base p v L W) :
    Calls Tryz.prog 59 #[.pointer (some ⟨p, 0, none⟩), obv k x n a l s] W fun e w' => e = .returned (.int .i64 1) ∧ Grown W w' := by
  have CM := Lib.hid (fun W => may_no k x n a l s hm W)
  clear hm hS
  go_enter Tryz.func59, Tryz.ntmps59
  go_wp2_with fail
  refine (CM.out _).mono ?_
  rintro e w1 ⟨rfl, g1⟩
  go_wp2_with fail
  go_ret
  exact ⟨rfl, grown_trans (by (repeat (first | exact Grown.refl _ | apply Grown.drew | apply Grown.alloc))) g1⟩
theorem push_full (base p : Nat) (v : Value) (L : List Pl.Ob) (k : Int) (x : Bool) (n a l : Int) (s : ByteArray) (hm : Pl.may k n a l s) (hn : 200 ≤ L.length) (W : World) (hS : StkV base p v L W) :
    Calls Tryz.prog 59 #[.pointer (some ⟨p, 0, none⟩), obv k x n a l s] W fun e w' => e = .returned (.int .i64 8) ∧ Grown W w' := by
  have CM := Lib.hid (fun W => may_yes k x n a l s hm W)
  obtain ⟨ao, cap, rfl⟩ := hS.slice
  obtain ⟨h0, h1, hown, hne, hp⟩ := id hS
  have hlen : 200 ≤ (L.length : Int) := by omega
  clear hm hS
  go_enter Tryz.func59, Tryz.ntmps59
  go_wp2_with fail
  refine (CM.out _).mono ?_
  rintro e w1 ⟨rfl, g1⟩
  have g2 : Grown W w1 := grown_trans (by (repeat (first | exact Grown.refl _ | apply Grown.drew | apply Grown.alloc))) g1
  have hp1 : w1.cell? ⟨p, 0, none⟩ = some (.slice ao L.length cap) := grown_cell g2 h0
  go_wp2_with fail
  go_ret
  exact ⟨rfl, g2⟩
theorem Pl.flat_get : ∀ (L : List Pl.Ob) (j : Nat) (o : Pl.Ob), L[j]? = some o → ∀ r, r < 6 → (Pl.flat L)[j * 6 + r]? = (Pl.oc o)[r]?
  | [], j, o, h, _, _ => by simp at h
  | q :: L, 0, o, h, r, hr => by
    simp at h
    subst h
    simp only [Pl.flat, Nat.zero_mul, Nat.zero_add]
    rw [List.getElem?_append_left (by simp [Pl.oc]; exact hr)]
  | q :: L, j + 1, o, h, r, hr => by
    have := Pl.flat_get L j o (by simpa using h) r hr
    simp only [Pl.flat]
    rw [List.getElem?_append_right (by simp [Pl.oc]; omega), ← this]
    congr 1
    simp [Pl.oc]; omega
theorem StkV.at {base p : Nat} {v : Value} {L : List Pl.Ob} {W : World} (h : StkV base p v L W) (j : Nat) (o : Pl.Ob) (hj : L[j]? = some o) : ∃ g cap, v = .slice (some ⟨g, 0, none⟩) L.length cap ∧ L.length ≤ cap ∧
    W.cell? ⟨g, j * 6, none⟩ = some (.int .i64 o.1) ∧ W.cell? ⟨g, j * 6 + 1, none⟩ = some (.bool o.2.1) ∧ W.cell? ⟨g, j * 6 + 2, none⟩ = some (.int .i64 o.2.2.1) ∧ W.cell? ⟨g, j * 6 + 3, none⟩ = some (.int .i64 o.2.2.2.1) ∧
    W.cell? ⟨g, j * 6 + 4, none⟩ = some (.int .i64 o.2.2.2.2.1) ∧ W.cell? ⟨g, j * 6 + 5, none⟩ = some (.string o.2.2.2.2.2) := by
  have hl : j < L.length := (List.getElem?_eq_some_iff.1 hj).1
  rcases h.2.2.1.2 with ⟨rfl, h0⟩ | ⟨g, cap, cur, rfl, hb, hg, hc, r⟩
  · omega
  · have c := h.2.2.1
    refine ⟨g, cap, rfl, hc, ?_, ?_, ?_, ?_, ?_, ?_⟩ <;> rw [c.cellAt _ (by omega)]
    · exact (Pl.flat_get L j o hj 0 (by omega)).trans rfl
    · exact (Pl.flat_get L j o hj 1 (by omega)).trans rfl
    · exact (Pl.flat_get L j o hj 2 (by omega)).trans rfl
    · exact (Pl.flat_get L j o hj 3 (by omega)).trans rfl
    · exact (Pl.flat_get L j o hj 4 (by omega)).trans rfl
    · exact (Pl.flat_get L j o hj 5 (by omega)).trans rfl
theorem peek_low (base p : Nat) (v : Value) (L : List Pl.Ob) (i : Int) (hi : i < 0) (W : World) (hS : StkV base p v L W) :
    Calls Tryz.prog 35 #[.pointer (some ⟨p, 0, none⟩), .int .i64 i] W fun e w' => e = .returned (.tuple #[obv 0 false 0 0 0 ⟨#[]⟩, .int .i64 2]) ∧ Grown W w' := by
  clear hS
  go_enter Tryz.func35, Tryz.ntmps35
  go_wp2_with fail
  refine bodyPost_ret (v := .tuple #[obv 0 false 0 0 0 ⟨#[]⟩, .int .i64 2]) (by simp [results, Tryz.results35, go_sem]) rfl ⟨rfl, by (repeat (first | exact Grown.refl _ | assumption | apply Grown.drew | apply Grown.alloc | (refine Grown.setCell ?_ (by simp) _)))⟩
theorem peek_under (base p : Nat) (v : Value) (L : List Pl.Ob) (i : Int) (hi0 : 0 ≤ i) (hi : (L.length : Int) ≤ i) (W : World) (hS : StkV base p v L W) :
    Calls Tryz.prog 35 #[.pointer (some ⟨p, 0, none⟩), .int .i64 i] W fun e w' => e = .returned (.tuple #[obv 0 false 0 0 0 ⟨#[]⟩, .int .i64 7]) ∧ Grown W w' := by
  obtain ⟨ao, cap, rfl⟩ := hS.slice
  obtain ⟨h0, h1, hown, hne, hp⟩ := id hS
  clear hS
  have hp0 : ∀ o t, (W.alloc (.cells o t)).cell? ⟨p, 0, none⟩ = some (.slice ao L.length cap) := fun o t => by rw [World.cell?_alloc_past _ _ _ hp]; exact h0
  go_enter Tryz.func35, Tryz.ntmps35
  go_wp2_with fail
  refine bodyPost_ret (v := .tuple #[obv 0 false 0 0 0 ⟨#[]⟩, .int .i64 7]) (by simp [results, Tryz.results35, go_sem]) rfl ⟨rfl, by (repeat (first | exact Grown.refl _ | assumption | apply Grown.drew | apply Grown.alloc | (refine Grown.setCell ?_ (by simp) _)))⟩
theorem peek_ok (base p : Nat) (v : Value) (L : List Pl.Ob) (i j : Nat) (k : Int) (x : Bool) (n a l : Int) (s : ByteArray) (hij : i + j + 1 = L.length) (hj : L[j]? = some (k, x, n, a, l, s)) (hlen : L.length ≤ 300) (W : World) (hS : StkV base p v L W) :
    Calls Tryz.prog 35 #[.pointer (some ⟨p, 0, none⟩), .int .i64 (i : Int)] W fun e w' => e = .returned (.tuple #[obv k x n a l s, .int .i64 0]) ∧ Grown W w' := by
  obtain ⟨g, cap, rfl, hcap, c0, c1, c2, c3, c4, c5⟩ := hS.at j _ hj
  obtain ⟨h0, h1, hown, hne, hp⟩ := id hS
  have hg := own_lt hown g rfl
  clear hS
  have hO : ObS W W.heap.size 0 false 0 0 0 ⟨#[]⟩ (W.alloc (.cells #[.int .i64 0, .bool false, .int .i64 0, .int .i64 0, .int .i64 0, .string ⟨#[]⟩] 25)) := ⟨by simp [go_sem], by simp [go_sem], by simp [go_sem], by simp [go_sem], by simp [go_sem], by simp [go_sem], (Grown.refl W).alloc _ _⟩
  have hp0 : ∀ o t, (W.alloc (.cells o t)).cell? ⟨p, 0, none⟩ = some (.slice (some ⟨g, 0, none⟩) L.length cap) := fun o t => by rw [World.cell?_alloc_past _ _ _ hp]; exact h0
  have d0 : ∀ o t, (W.alloc (.cells o t)).cell? ⟨g, j * 6, none⟩ = _ := fun o t => (World.cell?_alloc_past _ _ _ hg).trans c0
  have d1 : ∀ o t, (W.alloc (.cells o t)).cell? ⟨g, j * 6 + 1, none⟩ = _ := fun o t => (World.cell?_alloc_past _ _ _ hg).trans c1
  have d2 : ∀ o t, (W.alloc (.cells o t)).cell? ⟨g, j * 6 + 2, none⟩ = _ := fun o t => (World.cell?_alloc_past _ _ _ hg).trans c2
  have d3 : ∀ o t, (W.alloc (.cells o t)).cell? ⟨g, j * 6 + 3, none⟩ = _ := fun o t => (World.cell?_alloc_past _ _ _ hg).trans c3
  have d4 : ∀ o t, (W.alloc (.cells o t)).cell? ⟨g, j * 6 + 4, none⟩ = _ := fun o t => (World.cell?_alloc_past _ _ _ hg).trans c4
  have d5 : ∀ o t, (W.alloc (.cells o t)).cell? ⟨g, j * 6 + 5, none⟩ = _ := fun o t => (World.cell?_alloc_past _ _ _ hg).trans c5
  have e1 : (L.length : Int) - 1 - i = j := by omega
  have e2 : (j : Int) < L.length := by omega
  have e3 : (i : Int) < L.length := by omega
  have e4 : (L.length : Int) ≤ 300 := by omega
  have e5 : 1 ≤ (L.length : Int) := by omega
  go_enter Tryz.func35, Tryz.ntmps35
  go_wp2_with fail
  go_region
  all_goals
    go_wp2_with fail
    refine bodyPost_ret (v := .tuple #[obv k x n a l s, .int .i64 0]) (by simp [results, Tryz.results35, go_sem]) rfl ⟨rfl, by (repeat (first | exact Grown.refl _ | assumption | apply Grown.drew | apply Grown.alloc | (refine Grown.setCell ?_ (by simp) _)))⟩
end Go.Proofs.YtfmmomdmemcbbaaGreat
namespace Go.Proofs.YtfmmomdmemcbbaaGreat
set_option linter.unusedVariables false
open Go.RowKit
theorem run_copy_wide {P : Program} (w : World) (dT sT ty elem : TypeId) (g o dLen dCap : Nat) (a : Addr) (sLen sCap m size : Nat) (cur : Array Value) (t : TypeId) (cs : List Value)
    (hu : P.underlying dT = some (.slice elem)) (hs : (P.info? elem).map (·.size) = some size)
    (hg : w.heap[g]? = some (.cells cur t (0, 0))) (hm : m = Nat.min sLen dLen) (hn : cs.length = m * size)
    (hsrc : ∀ j v, cs[j]? = some v → w.cell? (a.add j) = some v) (hfit : o + cs.length ≤ cur.size) (h1 : ∀ v ∈ cs, v.oneCell' = true) :
    (Builtin.copy_ #[dT, sT] ty #[.slice (some ⟨g, o, none⟩) dLen dCap, .slice (some a) sLen sCap]).run P w =
      .ok (goInt m) (w.setRow g (cur.toList.take o ++ cs ++ cur.toList.drop (o + cs.length)).toArray) := by
  have hl := run_loadCells_list (P := P) w a cs hsrc
  have hst := run_storeCells_at P g o t cs 0 cur w hg (by simpa using hfit) h1
  cases hq : P.info? elem with
  | none => simp [hq] at hs
  | some i =>
    have hi : i.size = size := by simpa [hq] using hs
    simp [Builtin.copy_, run_underlying hu, Builtin.lenOf, Builtin.firstCells, sizeOf, typeInfo, hq, hi, ← hm, ← hn, hl, hst]
theorem step_copy_wide {P : Program} {ops : Array Oper} {o : Oper} {a : Act} {w : World} {K : Act → World → Prop} {Q : Exit → Act → World → Prop} {E : Prop} (hgd : o.guard = none) (d s : Operand) (dT sT : TypeId)
    (ho : o.op = .call { callee := .builtin .copy, args := #[d, s], argTypes := #[dT, sT] }) (elem : TypeId) (size : Nat) (hu : P.underlying dT = some (.slice elem)) (hsz : (P.info? elem).map (·.size) = some size)
    (g off dLen dCap : Nat) (ad : Addr) (sLen sCap m : Nat) (hd : a.eval d = .slice (some ⟨g, off, none⟩) dLen dCap) (hs : a.eval s = .slice (some ad) sLen sCap)
    (cur : Array Value) (t : TypeId) (hg : w.heap[g]? = some (.cells cur t (0, 0))) (cs : List Value) (hm : m = Nat.min sLen dLen) (hn : cs.length = m * size)
    (hsrc : ∀ j v, cs[j]? = some v → w.cell? (ad.add j) = some v) (hfit : off + cs.length ≤ cur.size) (h1 : ∀ v ∈ cs, v.oneCell' = true)
    (h : K (a.put o.dst (goInt m)) (w.setRow g (cur.toList.take off ++ (cs ++ cur.toList.drop (off + cs.length))).toArray)) :
    if Region.wanted o (yielded ops a.tmps) = true then Oper.wp P o a w K Q else E := by
  have hw : Region.wanted o (yielded ops a.tmps) = true := by simp [Region.wanted, hgd]
  rw [if_pos hw]
  have hrun := run_copy_wide (P := P) w dT sT o.type elem g off dLen dCap ad sLen sCap m size cur t cs hu hsz hg hm hn hsrc hfit h1
  unfold Oper.wp
  simp [execOp, ho, resolve, invoke, builtin, hd, hs, hrun, Result.andThen]
  exact h
theorem Fr.setRow (P : Nat → Prop) (W : World) (g : Nat) (cs : Array Value) (h : P g) : Fr P W (W.setRow g cs) :=
  ⟨rfl, rfl, by simp [World.setRow], fun i hi hp => setRow_other _ _ _ _ (fun e => hp (e ▸ h))⟩
theorem top_ok (base p : Nat) (v : Value) (L : List Pl.Ob) (n : Nat) (hn : 1 ≤ n) (hnl : n ≤ L.length) (hlen : L.length ≤ 300) (W : World) (hS : StkV base p v L W) :
    ∃ g cap, v = .slice (some ⟨g, 0, none⟩) L.length cap ∧ Calls Tryz.prog 70 #[.pointer (some ⟨p, 0, none⟩), .int .i64 (n : Int)] W fun e w' => e = .returned (.tuple #[.slice (some ⟨g, (L.length - n) * 6, none⟩) n n, .int .i64 0]) ∧ Grown W w' := by
  obtain ⟨o, ho⟩ : ∃ o, L[0]? = some o := ⟨_, List.getElem?_eq_getElem (by omega)⟩
  obtain ⟨g, cap, rfl, hcap, _⟩ := hS.at 0 o ho
  refine ⟨g, cap, rfl, ?_⟩
  obtain ⟨h0, h1, hown, hne, hp⟩ := id hS
  clear hS ho
  obtain ⟨d, hd⟩ : ∃ d, L.length = d + n := ⟨L.length - n, by omega⟩
  rw [hd] at h0 hcap hlen
  rw [hd]
  have e1 : ((d + n : Nat) : Int) - (n : Int) = d := by omega
  have e2 : d + n - n = d := by omega
  have e3 := Lib.hid (show d + n - d = n by omega)
  rw [e2]
  have c1 : (n : Int) ≤ ((d + n : Nat) : Int) := by omega
  have c2 : ((d + n : Nat) : Int) ≤ 300 := by omega
  have c3 : (0 : Int) ≤ (d : Int) := by omega
  have c4 : (d : Int) ≤ ((d + n : Nat) : Int) := by omega
  have c5 : ((d + n : Nat) : Int) ≤ (cap : Int) := by omega
  have c6 : 1 ≤ (n : Int) := by omega
  clear hown hne hd
  go_enter Tryz.func70, Tryz.ntmps70
  go_wp2_with fail
  go_region
  all_goals
    go_wp2_with fail
    go_ret2
    refine ⟨?_, by (repeat (first | exact Grown.refl _ | assumption | apply Grown.drew | apply Grown.alloc))⟩
    show Ending.returned (.tuple #[.slice (some ⟨g, d * 6, none⟩) (d + n - d) (d + n - d), .int .i64 0]) = _
    rw [e3.out]
end Go.Proofs.YtfmmomdmemcbbaaGreat
