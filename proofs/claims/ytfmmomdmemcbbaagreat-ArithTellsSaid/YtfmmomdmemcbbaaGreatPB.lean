/- Plain facts: what an operator does with operands, it does wi -/
import Derived.Test.YtfmmomdmemcbbaaGreatM7
namespace Go.Proofs.YtfmmomdmemcbbaaGreat
set_option linter.unusedVariables false
open Go.RowKit
def Pl.Sim (D : List Pl.Ob) (R R' : Int × List Pl.Ob) : Prop := (R.1 = 0 → R' = (0, D ++ R.2)) ∧ (R.1 ≠ 0 → R.1 = 7 ∨ R'.1 ≠ 0)
theorem Pl.Sim.ite {D : List Pl.Ob} {a b a' b' : Int × List Pl.Ob} {c : Prop} [Decidable c] (h : Pl.Sim D a a') (k : Pl.Sim D b b') : Pl.Sim D (if c then a else b) (if c then a' else b') := by
  by_cases hc : c
  · rw [if_pos hc, if_pos hc]; exact h
  · rw [if_neg hc, if_neg hc]; exact k
theorem Pl.Sim.under {D l : List Pl.Ob} (R' : Int × List Pl.Ob) : Pl.Sim D (7, l) R' := ⟨fun h => by simp at h, fun _ => .inl rfl⟩
section
variable (D l : List Pl.Ob) (hd : D.length ≤ 49) (hl : l.length ≤ 20)
include hd hl
end
def Pl.Safe (L : List Pl.Ob) (R : Int × List Pl.Ob) : Prop := R.1 ≠ 0 → R.2 = L
theorem Pl.Safe.ite {L : List Pl.Ob} {a b : Int × List Pl.Ob} {c : Prop} [Decidable c] (h : Pl.Safe L a) (k : Pl.Safe L b) : Pl.Safe L (if c then a else b) := by
  by_cases hc : c
  · rw [if_pos hc]; exact h
  · rw [if_neg hc]; exact k
theorem Pl.Safe.same {L : List Pl.Ob} (c : Int) : Pl.Safe L (c, L) := fun _ => rfl
theorem Pl.Safe.ok {L M : List Pl.Ob} : Pl.Safe L (0, M) := fun h => absurd rfl h
section
variable (L : List Pl.Ob)
theorem Pl.giveR_safe (n : Nat) (m : List Pl.Ob) : Pl.Safe L (Pl.giveR L n m) := by unfold Pl.giveR; exact .ite .ok (.same _)
theorem Pl.wholeR_safe (n : Nat) (v : Int) : Pl.Safe L (Pl.wholeR L n v) := by unfold Pl.wholeR; exact .ite (Pl.giveR_safe L _ _) (.same _)
theorem Pl.fixedR_safe (n : Nat) (v : Int) (ok : Bool) : Pl.Safe L (Pl.fixedR L n v ok) := by unfold Pl.fixedR; exact .ite (Pl.giveR_safe L _ _) (.same _)
theorem Pl.numbersR_safe (n : Int) (a b : Pl.Ob) : Pl.Safe L (Pl.numbersR L n a b) := by
  unfold Pl.numbersR
  exact .ite (Pl.wholeR_safe L _ _) (.ite (Pl.wholeR_safe L _ _) (.ite (Pl.wholeR_safe L _ _) (.ite (.same _) (.ite (.same _) (Pl.fixedR_safe L _ _ _)))))
theorem Pl.twoI_safe (n : Int) (a b : Pl.Ob) : Pl.Safe L (Pl.twoI L n a b) := by
  unfold Pl.twoI
  have W := fun v => Pl.wholeR_safe L 2 v
  exact .ite (Pl.numbersR_safe L n a b) (.ite (.same _) (.ite (.ite (.same _) (W _)) (.ite (.ite (W _) (.ite (.ite (W _) (.same _)) (W _))) (.ite (Pl.giveR_safe L 2 _) (W _)))))
theorem Pl.oneI_safe (n : Int) (a : Pl.Ob) : Pl.Safe L (Pl.oneI L n a) := by
  unfold Pl.oneI
  have W := fun v => Pl.wholeR_safe L 1 v
  have F := fun v k => Pl.fixedR_safe L 1 v k
  have G := fun m => Pl.giveR_safe L 1 m
  exact .ite (.ite (G _) (W _)) (.ite (.ite .ok (G _)) (.ite (.ite .ok (F _ _)) (.ite (.same _) (F _ _))))
theorem Pl.twoR_safe (n : Int) : Pl.Safe L (Pl.twoR L n) := by
  unfold Pl.twoR
  match L.reverse with
  | [] => exact .same _
  | [o] => exact .same _
  | o1 :: o0 :: r => exact .ite (Pl.twoI_safe L n o0 o1) (.same _)
theorem Pl.mmR_safe (n : Int) : Pl.Safe L (Pl.mmR L n) := by
  unfold Pl.mmR
  match L.reverse with
  | [] => exact .same _
  | [o] => exact .same _
  | o1 :: o0 :: r => exact .ite (Pl.giveR_safe L 2 _) (.same _)
theorem Pl.oneR_safe (n : Int) : Pl.Safe L (Pl.oneR L n) := by
  unfold Pl.oneR
  match L.reverse with
  | [] => exact .same _
  | o :: r => exact .ite (Pl.oneI_safe L n o) (.same _)
theorem Pl.roundR_safe (n : Int) : Pl.Safe L (Pl.roundR L n) := by
  have G := fun k m => Pl.giveR_safe L k m
  unfold Pl.roundR
  refine .ite (.ite (.same _) .ok) (.ite ?_ (.ite ?_ (.ite ?_ (.ite ?_ (.ite .ok (.ite (G _ _) (.ite (G _ _) ?_)))))))
  · match L.reverse with
    | [] => exact .same _
    | [o] => exact .same _
    | o1 :: o0 :: r => exact G _ _
  · match L.reverse with
    | [] => exact .same _
    | o :: r => exact G _ _
  · match L.reverse with
    | [] => exact .same _
    | o :: r =>
      refine .ite (.ite (.same _) ?_) (.same _)
      match (o :: r)[(o.2.2.1 + 1).toNat]? with
      | none => exact .same _
      | some q => exact G _ _
  · match L.reverse with
    | [] => exact .same _
    | [o] => exact .same _
    | o1 :: o0 :: r => exact .ite (.ite (.same _) (.ite (.same _) .ok)) (.same _)
  · generalize L.reverse.findIdx? (fun q => q.1 == 6) = x
    rcases x with _ | i
    · exact .same _
    · exact .ite .ok (G _ _)
theorem Pl.doR_safe (n : Int) : Pl.Safe L (Pl.doR L n) := by
  unfold Pl.doR
  have G := fun m => Pl.giveR_safe L 0 m
  exact .ite (.same _) (.ite (Pl.roundR_safe L n) (.ite (Pl.twoR_safe L n) (.ite (Pl.oneR_safe L n) (.ite (Pl.mmR_safe L n) (.ite (G _) (.ite (G _) (G _)))))))
end
end Go.Proofs.YtfmmomdmemcbbaaGreat
