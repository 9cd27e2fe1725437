/- The reference's side, from, from0, to (layer 26). -/
import Derived.Test.YtnienpalbfgflaaC4
namespace Go.Proofs.Ytnienpalbfgflaa
set_option linter.unusedVariables false
open Go.RowKit

def Pl.sidev (p s d a : Int) : Int := if a < 0 then -Pl.rsign p s d else Pl.rsign p s d
theorem Pl.sidev_bd (p s d a : Int) : -1 ≤ Pl.sidev p s d a ∧ Pl.sidev p s d a ≤ 1 := by
  have := Pl.rsign_bd p s d
  unfold Pl.sidev
  split <;> omega
theorem side26_any (p s d a : Int) (bp : -4611686018427387904 ≤ p ∧ p ≤ 4611686018427387904) (h : Pl.okq s d) (W : World) :
    Calls Try.prog 55 #[.int .i64 p, .int .i64 s, .int .i64 d, .int .i64 a] W fun e w' => e = .returned (.int .i64 (Pl.sidev p s d a)) ∧ Grown W w' := by
  have S := Lib.hid (fun Z => sign24_ok p s d bp h Z)
  have hb := Pl.rsign_bd p s d
  unfold Pl.sidev
  generalize Pl.rsign p s d = v at S hb ⊢
  clear bp h
  by_cases ha : a < 0
  · rw [if_pos ha]
    go_enter Try.func55, Try.ntmps55
    go_wp2_with fail
    refine (S.out _).mono ?_
    rintro en w1 ⟨rfl, g1⟩
    have G1 := Lib.hid g1
    clear g1
    go_wp2_with fail
    go_ret
    exact ⟨rfl, G1.out⟩
  · rw [if_neg ha]
    go_enter Try.func55, Try.ntmps55
    go_wp2_with fail
    refine (S.out _).mono ?_
    rintro en w1 ⟨rfl, g1⟩
    have G1 := Lib.hid g1
    clear g1
    go_wp2_with fail
    go_ret
    exact ⟨rfl, G1.out⟩
theorem from26_any (a b s d : Int) (bb : -1000000 ≤ b ∧ b ≤ 1000000) (h : Pl.okq s d) (W : World) :
    Calls Try.prog 47 #[.int .i64 a, .int .i64 b, .int .i64 s, .int .i64 d] W fun e w' => e = .returned (.bool (decide (0 ≤ Pl.sidev (-b) s d a))) ∧ Grown W w' := by
  have S := Lib.hid (fun Z => side26_any (-b) s d a (by omega) h Z)
  have hb := Pl.sidev_bd (-b) s d a
  generalize Pl.sidev (-b) s d a = v at S hb ⊢
  clear h
  go_enter Try.func47, Try.ntmps47
  go_wp2_with fail
  refine (S.out _).mono ?_
  rintro en w1 ⟨rfl, g1⟩
  have G1 := Lib.hid g1
  clear g1
  go_wp2_with fail
  go_ret
  exact ⟨rfl, G1.out⟩
theorem from0_26_any (a b s d : Int) (bb : -1000000 ≤ b ∧ b ≤ 1000000) (h : Pl.okq s d) (W : World) :
    Calls Try.prog 50 #[.int .i64 a, .int .i64 b, .int .i64 s, .int .i64 d] W fun e w' => e = .returned (.bool (decide (Pl.sidev (-b) s d a ≤ 0))) ∧ Grown W w' := by
  have S := Lib.hid (fun Z => side26_any (-b) s d a (by omega) h Z)
  have hb := Pl.sidev_bd (-b) s d a
  generalize Pl.sidev (-b) s d a = v at S hb ⊢
  clear h
  go_enter Try.func50, Try.ntmps50
  go_wp2_with fail
  refine (S.out _).mono ?_
  rintro en w1 ⟨rfl, g1⟩
  have G1 := Lib.hid g1
  clear g1
  go_wp2_with fail
  go_ret
  exact ⟨rfl, G1.out⟩
theorem to26_any (a b s d : Int) (o : Bool) (bb : -1000000 ≤ b ∧ b ≤ 1000000) (ba : -1000000 ≤ a ∧ a ≤ 1000000) (h : Pl.okq s d) (W : World) :
    Calls Try.prog 48 #[.int .i64 a, .int .i64 b, .int .i64 s, .int .i64 d, .bool o] W fun e w' => e = .returned (.bool (if o then decide (0 ≤ Pl.sidev (-b - a) s d a) else decide (Pl.sidev (-b - a) s d a ≤ 0))) ∧ Grown W w' := by
  have S := Lib.hid (fun Z => side26_any (-b - a) s d a (by omega) h Z)
  have hb := Pl.sidev_bd (-b - a) s d a
  generalize Pl.sidev (-b - a) s d a = v at S hb ⊢
  clear h
  have hv : v = -1 ∨ v = 0 ∨ v = 1 := by omega
  clear hb
  cases o <;> rcases hv with rfl | rfl | rfl
  all_goals
    go_enter Try.func48, Try.ntmps48
    go_wp2_with fail
    refine (S.out _).mono ?_
    rintro en w1 ⟨rfl, g1⟩
    have G1 := Lib.hid g1
    clear g1
    go_wp2_with fail
    go_ret
    exact ⟨by first | rfl | simp, G1.out⟩
end Go.Proofs.Ytnienpalbfgflaa
