/- numtext: the reader of digits. -/
import Derived.Test.YtpfkijjpophobaaN2
import Derived.Deep.RegionHeld3
namespace Go.Proofs.Ytpfkijjpophobaa
set_option linter.unusedVariables false
open Go.RowKit

/-- the reader at block p: its text and its place -/
def Rd (p : Nat) (s : ByteArray) (at_ : Nat) (W : World) : Prop := W.cell? ⟨p, 0, none⟩ = some (.string s) ∧ W.cell? ⟨p, 1, none⟩ = some (.int .i64 (at_ : Int)) ∧ ∀ o, W.frozen? ⟨p, o, none⟩ = false

set_option maxHeartbeats 2000000 in
set_option maxRecDepth 100000 in
theorem digit_end (p : Nat) (s : ByteArray) (at_ : Nat) (hat : s.size ≤ at_) (hat2 : at_ ≤ 9223372036854775807) (W : World) (h : Rd p s at_ W) :
    Calls Try.prog 34 #[.pointer (some ⟨p, 0, none⟩)] W fun e w' => e = .returned (.tuple #[.int .i64 0, .bool false]) ∧ Grown W w' := by
  obtain ⟨h0, h1, h2⟩ := h
  have e1 : (s.size : Int) ≤ (at_ : Int) := by omega
  go_enter Try.func34, Try.ntmps34
  go_wp2_with fail
  go_region
  all_goals
    go_wp2_with fail
    go_ret2
    refine ⟨rfl, by (repeat (first | exact Grown.refl _ | assumption | apply Grown.drew))⟩

set_option maxHeartbeats 2000000 in
set_option maxRecDepth 100000 in
theorem digit_ok (p : Nat) (s : ByteArray) (at_ c : Nat) (hat : at_ < s.size) (hat2 : s.size ≤ 9223372036854775807) (hc : ∀ W : World, (Instr.index 9 (.string s) (.int .i64 (at_ : Int))).run Try.prog W = .ok (.int .u8 (c : Int)) W) (hc1 : 48 ≤ c) (hc2 : c ≤ 57) (W : World) (h : Rd p s at_ W) :
    Calls Try.prog 34 #[.pointer (some ⟨p, 0, none⟩)] W fun e w' => e = .returned (.tuple #[.int .i64 ((c - 48 : Nat) : Int), .bool true]) ∧ Rd p s (at_ + 1) w' ∧ Fr (fun q => q = p) W w' := by
  obtain ⟨h0, h1, h2⟩ := h
  have e1 : (at_ : Int) < (s.size : Int) := by omega
  have e2 : (s.size : Int) ≤ 9223372036854775807 := by omega
  have e3 : ¬ ((c : Int) < 48) := by omega
  have e4 : ¬ ((57 : Int) < (c : Int)) := by omega
  have e5 : (c : Int) ≤ 57 := by omega
  have g1 : decide (s.size ≤ at_) = false := decide_eq_false (by omega)
  have g2 : decide ((c : Int) < 48) = false := decide_eq_false e3
  have g3 : decide ((57 : Int) < (c : Int)) = false := decide_eq_false e4
  have h2' := h2 1
  go_enter Try.func34, Try.ntmps34
  go_wp2_with fail
  go_region_held3 (fun Z => Z.cell? ⟨p, 0, none⟩ = some (.string s) ∧ Z.cell? ⟨p, 1, none⟩ = some (.int .i64 (at_ : Int)) ∧ Grown W Z)
    (first | assumption | exact ⟨h0, h1, (Grown.refl W).drew⟩)
    (fail)
  go_wp2_with fail
  go_region
  all_goals
    go_wp2_with fail
    go_ret2
    refine ⟨?_, ⟨?_, ?_, ?_⟩, ?_⟩
    · rw [show ((c - 48 : Nat) : Int) = (c : Int) - 48 from by omega]
      rfl
    · show (W.setCell ⟨p, 1, none⟩ (.int .i64 ((at_ : Int) + 1))).cell? ⟨p, 0, none⟩ = _
      rw [World.cell?_setCell_other _ _ _ _ (by simp)]
      exact h0
    · exact World.cell?_setCell_same' _ _ _ (by rw [h1]; rfl)
    · intro o
      simpa using h2 o
    · exact Fr.drew (Fr.drew (Fr.setCell (fun q => q = p) W ⟨p, 1, none⟩ _ rfl))

set_option maxHeartbeats 2000000 in
set_option maxRecDepth 100000 in
theorem digit_no (p : Nat) (s : ByteArray) (at_ c : Nat) (hat : at_ < s.size) (hat2 : s.size ≤ 9223372036854775807) (hc : ∀ W : World, (Instr.index 9 (.string s) (.int .i64 (at_ : Int))).run Try.prog W = .ok (.int .u8 (c : Int)) W) (hc1 : c < 48 ∨ 57 < c) (hc2 : c ≤ 255) (W : World) (h : Rd p s at_ W) :
    Calls Try.prog 34 #[.pointer (some ⟨p, 0, none⟩)] W fun e w' => e = .returned (.tuple #[.int .i64 0, .bool false]) ∧ Grown W w' := by
  obtain ⟨h0, h1, h2⟩ := h
  have e1 : (at_ : Int) < (s.size : Int) := by omega
  have e2 : (s.size : Int) ≤ 9223372036854775807 := by omega
  have g1 : decide (s.size ≤ at_) = false := decide_eq_false (by omega)
  by_cases hlo : c < 48
  · have e3 : (c : Int) < 48 := by omega
    have g2 : decide ((c : Int) < 48) = true := decide_eq_true e3
    have g2n : decide (c < 48) = true := decide_eq_true hlo
    clear hc1
    go_enter Try.func34, Try.ntmps34
    go_wp2_with fail
    go_region
    all_goals
      go_wp2_with fail
      go_ret2
      refine ⟨rfl, by (repeat (first | exact Grown.refl _ | assumption | apply Grown.drew))⟩
  · have hhi : 57 < c := by omega
    have e3 : ¬ ((c : Int) < 48) := by omega
    have e4 : (57 : Int) < (c : Int) := by omega
    have g2 : decide ((c : Int) < 48) = false := decide_eq_false e3
    have g3 : decide ((57 : Int) < (c : Int)) = true := decide_eq_true e4
    clear hlo hc1 hhi
    go_enter Try.func34, Try.ntmps34
    go_wp2_with fail
    go_region_held3 (fun Z => Z.cell? ⟨p, 0, none⟩ = some (.string s) ∧ Z.cell? ⟨p, 1, none⟩ = some (.int .i64 (at_ : Int)) ∧ Grown W Z)
      (first | assumption | exact ⟨h0, h1, (Grown.refl W).drew⟩)
      (fail)
    go_wp2_with fail
    go_ret2
    exact ⟨rfl, (Grown.refl W).drew⟩
end Go.Proofs.Ytpfkijjpophobaa
