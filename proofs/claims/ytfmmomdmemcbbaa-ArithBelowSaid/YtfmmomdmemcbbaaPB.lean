/- Plain facts: what an operator does with operands, it does with them where others lie below; what fails changes nothing. -/
import Derived.Test.YtfmmomdmemcbbaaM6
namespace Go.Proofs.Ytfmmomdmemcbbaa
set_option linter.unusedVariables false
open Go.RowKit

/-- R: what comes of l; R': what comes of l above D -/
def Pl.Sim (D : List Pl.Ob) (R R' : Int × List Pl.Ob) : Prop := (R.1 = 0 → R' = (0, D ++ R.2)) ∧ (R.1 ≠ 0 → R.1 = 7 ∨ R'.1 ≠ 0)
theorem Pl.Sim.ite {D : List Pl.Ob} {a b a' b' : Int × List Pl.Ob} {c : Prop} [Decidable c] (h : Pl.Sim D a a') (k : Pl.Sim D b b') : Pl.Sim D (if c then a else b) (if c then a' else b') := by
  by_cases hc : c
  · rw [if_pos hc, if_pos hc]; exact h
  · rw [if_neg hc, if_neg hc]; exact k
theorem Pl.Sim.under {D l : List Pl.Ob} (R' : Int × List Pl.Ob) : Pl.Sim D (7, l) R' := ⟨fun h => by simp at h, fun _ => .inl rfl⟩
theorem Pl.Sim.no {D l l' : List Pl.Ob} (c : Int) (hc : c ≠ 0) : Pl.Sim D (c, l) (c, l') := ⟨fun h => absurd h hc, fun _ => .inr hc⟩
theorem Pl.Sim.yes {D l : List Pl.Ob} : Pl.Sim D (0, l) (0, D ++ l) := ⟨fun _ => rfl, fun h => absurd rfl h⟩
section
variable (D l : List Pl.Ob) (hd : D.length ≤ 49) (hl : l.length ≤ 20)
include hd hl
theorem Pl.giveR_sim (n : Nat) (m : List Pl.Ob) (hn : n ≤ l.length) (hm : m.length ≤ 2) : Pl.Sim D (Pl.giveR l n m) (Pl.giveR (D ++ l) n m) := by
  unfold Pl.giveR
  rw [if_pos (by omega), if_pos (by rw [List.length_append]; omega), List.length_append, show D.length + l.length - n = D.length + (l.length - n) by omega, List.take_length_add_append, List.append_assoc]
  exact .yes
theorem Pl.wholeR_sim (n : Nat) (v : Int) (hn : n ≤ l.length) : Pl.Sim D (Pl.wholeR l n v) (Pl.wholeR (D ++ l) n v) := by
  unfold Pl.wholeR
  exact .ite (Pl.giveR_sim D l hd hl n _ hn (by simp)) (.no 2 (by decide))
theorem Pl.fixedR_sim (n : Nat) (v : Int) (ok : Bool) (hn : n ≤ l.length) : Pl.Sim D (Pl.fixedR l n v ok) (Pl.fixedR (D ++ l) n v ok) := by
  unfold Pl.fixedR
  exact .ite (Pl.giveR_sim D l hd hl n _ hn (by simp)) (.no 2 (by decide))
theorem Pl.numbersR_sim (n : Int) (a b : Pl.Ob) (hn : 2 ≤ l.length) : Pl.Sim D (Pl.numbersR l n a b) (Pl.numbersR (D ++ l) n a b) := by
  unfold Pl.numbersR
  exact .ite (Pl.wholeR_sim D l hd hl _ _ hn) (.ite (Pl.wholeR_sim D l hd hl _ _ hn) (.ite (Pl.wholeR_sim D l hd hl _ _ hn) (.ite (.no 2 (by decide)) (.ite (.no 19 (by decide)) (Pl.fixedR_sim D l hd hl _ _ _ hn)))))
theorem Pl.twoI_sim (n : Int) (a b : Pl.Ob) (hn : 2 ≤ l.length) : Pl.Sim D (Pl.twoI l n a b) (Pl.twoI (D ++ l) n a b) := by
  unfold Pl.twoI
  have W := fun v => Pl.wholeR_sim D l hd hl 2 v hn
  exact .ite (Pl.numbersR_sim D l hd hl n a b hn) (.ite (.no 6 (by decide)) (.ite (.ite (.no 19 (by decide)) (W _)) (.ite (.ite (W _) (.ite (.ite (W _) (.no 2 (by decide))) (W _))) (.ite (Pl.giveR_sim D l hd hl 2 _ hn (by simp)) (W _)))))
theorem Pl.oneI_sim (n : Int) (a : Pl.Ob) (hn : 1 ≤ l.length) : Pl.Sim D (Pl.oneI l n a) (Pl.oneI (D ++ l) n a) := by
  unfold Pl.oneI
  have W := fun v => Pl.wholeR_sim D l hd hl 1 v hn
  have F := fun v k => Pl.fixedR_sim D l hd hl 1 v k hn
  have G := fun m (k : m.length ≤ 2) => Pl.giveR_sim D l hd hl 1 m hn k
  exact .ite (.ite (G _ (by simp)) (W _)) (.ite (.ite .yes (G _ (by simp))) (.ite (.ite .yes (F _ _)) (.ite (.no 2 (by decide)) (F _ _))))
theorem Pl.twoR_sim (n : Int) : Pl.Sim D (Pl.twoR l n) (Pl.twoR (D ++ l) n) := by
  have hr : (D ++ l).reverse = l.reverse ++ D.reverse := List.reverse_append
  have hlr := (List.length_reverse : l.reverse.length = l.length)
  unfold Pl.twoR
  match hL : l.reverse with
  | [] => exact .under _
  | [o] => exact .under _
  | o1 :: o0 :: r =>
    rw [hL] at hlr hr
    rw [hr]
    exact .ite (Pl.twoI_sim D l hd hl n o0 o1 (by simp at hlr; omega)) (.no 6 (by decide))
theorem Pl.mmR_sim (n : Int) : Pl.Sim D (Pl.mmR l n) (Pl.mmR (D ++ l) n) := by
  have hr : (D ++ l).reverse = l.reverse ++ D.reverse := List.reverse_append
  have hlr := (List.length_reverse : l.reverse.length = l.length)
  unfold Pl.mmR
  match hL : l.reverse with
  | [] => exact .under _
  | [o] => exact .under _
  | o1 :: o0 :: r =>
    rw [hL] at hlr hr
    rw [hr]
    exact .ite (Pl.giveR_sim D l hd hl 2 _ (by simp at hlr; omega) (by simp)) (.no 6 (by decide))
theorem Pl.oneR_sim (n : Int) : Pl.Sim D (Pl.oneR l n) (Pl.oneR (D ++ l) n) := by
  have hr : (D ++ l).reverse = l.reverse ++ D.reverse := List.reverse_append
  have hlr := (List.length_reverse : l.reverse.length = l.length)
  unfold Pl.oneR
  match hL : l.reverse with
  | [] => exact .under _
  | o :: r =>
    rw [hL] at hlr hr
    rw [hr]
    exact .ite (Pl.oneI_sim D l hd hl n o (by simp at hlr; omega)) (.no 6 (by decide))
theorem Pl.roundR_sim (n : Int) (h6 : n ≠ 6) (h7 : n ≠ 7) (hm : ∀ o ∈ D, (o.1 == 6) = false) : Pl.Sim D (Pl.roundR l n) (Pl.roundR (D ++ l) n) := by
  have hr : (D ++ l).reverse = l.reverse ++ D.reverse := List.reverse_append
  have hlr := (List.length_reverse : l.reverse.length = l.length)
  have ht : ∀ k, k ≤ l.length → (D ++ l).take ((D ++ l).length - k) = D ++ l.take (l.length - k) := fun k hk => by
    rw [List.length_append, show D.length + l.length - k = D.length + (l.length - k) by omega, List.take_length_add_append]
  have G := fun k m (hk : k ≤ l.length) (h : m.length ≤ 2) => Pl.giveR_sim D l hd hl k m hk h
  unfold Pl.roundR
  refine .ite ?_ (.ite ?_ (.ite ?_ (.ite ?_ (.ite ?_ ?_))))
  · by_cases h0 : l = []
    · rw [if_pos h0]; exact .under _
    · have hp : 1 ≤ l.length := by
        rcases l with _ | ⟨a, r⟩
        · exact absurd rfl h0
        · simp
      rw [if_neg h0, if_neg (fun q => h0 (List.append_eq_nil_iff.1 q).2), ht 1 hp]
      exact .yes
  · match hL : l.reverse with
    | [] => exact .under _
    | [o] => exact .under _
    | o1 :: o0 :: r =>
      rw [hL] at hlr hr
      rw [hr]
      exact G 2 _ (by simp at hlr; omega) (by simp)
  · match hL : l.reverse with
    | [] => exact .under _
    | o :: r =>
      rw [hL] at hlr hr
      rw [hr]
      exact G 1 _ (by simp at hlr; omega) (by simp)
  · match hL : l.reverse with
    | [] => exact .under _
    | o :: r =>
      rw [hL] at hlr hr
      rw [hr]
      refine .ite (.ite (.no 2 (by decide)) ?_) (.no 6 (by decide))
      match hq : (o :: r)[(o.2.2.1 + 1).toNat]? with
      | none => exact .under _
      | some q =>
        have : (o :: r ++ D.reverse)[(o.2.2.1 + 1).toNat]? = some q := by
          rw [List.getElem?_append_left (List.getElem?_eq_some_iff.1 hq).1]
          exact hq
        rw [this]
        exact G 1 _ (by simp at hlr; omega) (by simp)
  · match hL : l.reverse with
    | [] => exact .under _
    | [o] => exact .under _
    | o1 :: o0 :: r =>
      rw [hL] at hlr hr
      rw [hr]
      refine .ite (.ite (.no 2 (by decide)) ?_) (.no 6 (by decide))
      have h2 : 2 ≤ l.length := by simp at hlr; omega
      by_cases hu : (l.length : Int) - 2 < o0.2.2.1
      · rw [if_pos hu]; exact .under _
      · by_cases hn : o0.2.2.1 < 0
        · rw [if_neg hu, if_neg (by rw [List.length_append]; omega), ht 2 h2]
          rw [show o0.2.2.1.toNat = 0 by omega, Pl.rot_zero, Pl.rot_zero]
          exact .yes
        · rw [if_neg hu, if_neg (by rw [List.length_append]; omega), ht 2 h2]
          have hk : o0.2.2.1.toNat ≤ (l.take (l.length - 2)).length := by rw [List.length_take]; omega
          generalize l.take (l.length - 2) = m at hk
          generalize o0.2.2.1.toNat = k at hk
          have : Pl.rot (D ++ m) k o1.2.2.1 = D ++ Pl.rot m k o1.2.2.1 := by
            unfold Pl.rot
            rw [List.length_append, show D.length + m.length - k = D.length + (m.length - k) by omega, List.take_length_add_append, List.drop_length_add_append, List.append_assoc]
          rw [this]
          exact .yes
  · rw [if_neg h6, if_neg h6, if_neg h7, if_neg h7]
    refine .ite (G 0 _ (by omega) (by simp)) ?_
    have hdm : D.reverse.findIdx? (fun q => q.1 == 6) = none := by
      rw [List.findIdx?_eq_none_iff]
      intro o ho
      exact hm o (List.mem_reverse.1 ho)
    rw [hr, List.findIdx?_append, hdm]
    obtain ⟨x, hf⟩ : ∃ x, l.reverse.findIdx? (fun q => q.1 == 6) = x := ⟨_, rfl⟩
    rw [hf]
    rcases x with _ | i
    · exact .no 10 (by decide)
    · have hi := Pl.toMark_lt l i hf
      show Pl.Sim D (if n = 10 then _ else _) (if n = 10 then _ else _)
      refine .ite ?_ (G 0 _ (by omega) (by simp))
      rw [ht (i + 1) (by omega)]
      exact .yes
/-- operands below stay; what is refused is refused above others too, or lacks operands -/
theorem Pl.doR_sim (n : Int) (h6 : n ≠ 6) (h7 : n ≠ 7) (hm : ∀ o ∈ D, (o.1 == 6) = false) : Pl.Sim D (Pl.doR l n) (Pl.doR (D ++ l) n) := by
  unfold Pl.doR
  have G := fun m (h : m.length ≤ 2) => Pl.giveR_sim D l hd hl 0 m (by omega) h
  exact .ite (.no 1 (by decide)) (.ite (Pl.roundR_sim D l hd hl n h6 h7 hm) (.ite (Pl.twoR_sim D l hd hl n) (.ite (Pl.oneR_sim D l hd hl n) (.ite (Pl.mmR_sim D l hd hl n) (.ite (G _ (by simp)) (.ite (G _ (by simp)) (G _ (by simp))))))))
end
/-- what fails leaves the operands -/
def Pl.Safe (L : List Pl.Ob) (R : Int × List Pl.Ob) : Prop := R.1 ≠ 0 → R.2 = L
theorem Pl.Safe.ite {L : List Pl.Ob} {a b : Int × List Pl.Ob} {c : Prop} [Decidable c] (h : Pl.Safe L a) (k : Pl.Safe L b) : Pl.Safe L (if c then a else b) := by
  by_cases hc : c
  · rw [if_pos hc]; exact h
  · rw [if_neg hc]; exact k
theorem Pl.Safe.same {L : List Pl.Ob} (c : Int) : Pl.Safe L (c, L) := fun _ => rfl
theorem Pl.Safe.ok {L M : List Pl.Ob} : Pl.Safe L (0, M) := fun h => absurd rfl h
section
variable (L : List Pl.Ob)
theorem Pl.giveR_safe (n : Nat) (m : List Pl.Ob) : Pl.Safe L (Pl.giveR L n m) := by unfold Pl.giveR; exact .ite .ok (.same _)
theorem Pl.wholeR_safe (n : Nat) (v : Int) : Pl.Safe L (Pl.wholeR L n v) := by unfold Pl.wholeR; exact .ite (Pl.giveR_safe L _ _) (.same _)
theorem Pl.fixedR_safe (n : Nat) (v : Int) (ok : Bool) : Pl.Safe L (Pl.fixedR L n v ok) := by unfold Pl.fixedR; exact .ite (Pl.giveR_safe L _ _) (.same _)
theorem Pl.numbersR_safe (n : Int) (a b : Pl.Ob) : Pl.Safe L (Pl.numbersR L n a b) := by
  unfold Pl.numbersR
  exact .ite (Pl.wholeR_safe L _ _) (.ite (Pl.wholeR_safe L _ _) (.ite (Pl.wholeR_safe L _ _) (.ite (.same _) (.ite (.same _) (Pl.fixedR_safe L _ _ _)))))
theorem Pl.twoI_safe (n : Int) (a b : Pl.Ob) : Pl.Safe L (Pl.twoI L n a b) := by
  unfold Pl.twoI
  have W := fun v => Pl.wholeR_safe L 2 v
  exact .ite (Pl.numbersR_safe L n a b) (.ite (.same _) (.ite (.ite (.same _) (W _)) (.ite (.ite (W _) (.ite (.ite (W _) (.same _)) (W _))) (.ite (Pl.giveR_safe L 2 _) (W _)))))
theorem Pl.oneI_safe (n : Int) (a : Pl.Ob) : Pl.Safe L (Pl.oneI L n a) := by
  unfold Pl.oneI
  have W := fun v => Pl.wholeR_safe L 1 v
  have F := fun v k => Pl.fixedR_safe L 1 v k
  have G := fun m => Pl.giveR_safe L 1 m
  exact .ite (.ite (G _) (W _)) (.ite (.ite .ok (G _)) (.ite (.ite .ok (F _ _)) (.ite (.same _) (F _ _))))
theorem Pl.twoR_safe (n : Int) : Pl.Safe L (Pl.twoR L n) := by
  unfold Pl.twoR
  match L.reverse with
  | [] => exact .same _
  | [o] => exact .same _
  | o1 :: o0 :: r => exact .ite (Pl.twoI_safe L n o0 o1) (.same _)
theorem Pl.mmR_safe (n : Int) : Pl.Safe L (Pl.mmR L n) := by
  unfold Pl.mmR
  match L.reverse with
  | [] => exact .same _
  | [o] => exact .same _
  | o1 :: o0 :: r => exact .ite (Pl.giveR_safe L 2 _) (.same _)
theorem Pl.oneR_safe (n : Int) : Pl.Safe L (Pl.oneR L n) := by
  unfold Pl.oneR
  match L.reverse with
  | [] => exact .same _
  | o :: r => exact .ite (Pl.oneI_safe L n o) (.same _)
theorem Pl.roundR_safe (n : Int) : Pl.Safe L (Pl.roundR L n) := by
  have G := fun k m => Pl.giveR_safe L k m
  unfold Pl.roundR
  refine .ite (.ite (.same _) .ok) (.ite ?_ (.ite ?_ (.ite ?_ (.ite ?_ (.ite .ok (.ite (G _ _) (.ite (G _ _) ?_)))))))
  · match L.reverse with
    | [] => exact .same _
    | [o] => exact .same _
    | o1 :: o0 :: r => exact G _ _
  · match L.reverse with
    | [] => exact .same _
    | o :: r => exact G _ _
  · match L.reverse with
    | [] => exact .same _
    | o :: r =>
      refine .ite (.ite (.same _) ?_) (.same _)
      match (o :: r)[(o.2.2.1 + 1).toNat]? with
      | none => exact .same _
      | some q => exact G _ _
  · match L.reverse with
    | [] => exact .same _
    | [o] => exact .same _
    | o1 :: o0 :: r => exact .ite (.ite (.same _) (.ite (.same _) .ok)) (.same _)
  · generalize L.reverse.findIdx? (fun q => q.1 == 6) = x
    rcases x with _ | i
    · exact .same _
    · exact .ite .ok (G _ _)
theorem Pl.doR_safe (n : Int) : Pl.Safe L (Pl.doR L n) := by
  unfold Pl.doR
  have G := fun m => Pl.giveR_safe L 0 m
  exact .ite (.same _) (.ite (Pl.roundR_safe L n) (.ite (Pl.twoR_safe L n) (.ite (Pl.oneR_safe L n) (.ite (Pl.mmR_safe L n) (.ite (G _) (.ite (G _) (G _)))))))
end
end Go.Proofs.Ytfmmomdmemcbbaa
