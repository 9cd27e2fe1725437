/- The walks of package obj at any two objects: numbers, Less. -/
import Derived.Test.YtenmbkngkabonaaO7
namespace Go.Proofs.Ytenmbkngkabonaa
set_option linter.unusedVariables false
open Go.RowKit

theorem numbers_by (k : Int) (x : Bool) (n a l : Int) (s : ByteArray) (k' : Int) (x' : Bool) (n' a' l' : Int) (s' : ByteArray) (z z' : Int) (ok ok' : Bool)
    (C : Hid (∀ W, Calls Try.prog 76 #[obv k x n a l s] W fun e w' => e = Ending.returned (.tuple #[.int .i64 z, .bool ok]) ∧ Grown W w'))
    (C' : Hid (∀ W, Calls Try.prog 76 #[obv k' x' n' a' l' s'] W fun e w' => e = Ending.returned (.tuple #[.int .i64 z', .bool ok']) ∧ Grown W w')) (w : World) :
    Calls Try.prog 66 #[obv k x n a l s, obv k' x' n' a' l' s'] w fun e w' => e = Ending.returned (.tuple #[.int .i64 z, .int .i64 z', .bool (ok && ok')]) ∧ Grown w w' := by
  cases ok <;> cases ok'
  all_goals
    go_enter Try.func66, Try.ntmps66
    go_wp2_with fail
    refine (C.out _).mono ?_
    rintro e w1 ⟨rfl, g1⟩
    obtain ⟨c0, c1, c2, c3, c4, c5, gw⟩ : ObS w (w.heap.size + 1) k' x' n' a' l' s' w1 := ObS.grow (by exact ⟨by simp [go_sem], by simp [go_sem], by simp [go_sem], by simp [go_sem], by simp [go_sem], by simp [go_sem], by (repeat (first | exact Grown.refl _ | assumption | apply Grown.drew | apply Grown.alloc))⟩) g1
    clear g1
    go_wp2_with fail
    refine (C'.out _).mono ?_
    rintro e w2 ⟨rfl, g2⟩
    go_wp2
    first
    | exact bodyPost_ret (v := .tuple #[.int .i64 z, .int .i64 z', .bool true]) (by simp [results, Try.results66, go_sem]) rfl ⟨rfl, grown_trans gw g2⟩
    | exact bodyPost_ret (v := .tuple #[.int .i64 z, .int .i64 z', .bool false]) (by simp [results, Try.results66, go_sem]) rfl ⟨rfl, grown_trans gw g2⟩

theorem less_by (k : Int) (x : Bool) (n a l : Int) (s : ByteArray) (k' : Int) (x' : Bool) (n' a' l' : Int) (s' : ByteArray) (z z' : Int) (ok ok' : Bool)
    (C : Hid (∀ W, Calls Try.prog 76 #[obv k x n a l s] W fun e w' => e = Ending.returned (.tuple #[.int .i64 z, .bool ok]) ∧ Grown W w'))
    (C' : Hid (∀ W, Calls Try.prog 76 #[obv k' x' n' a' l' s'] W fun e w' => e = Ending.returned (.tuple #[.int .i64 z', .bool ok']) ∧ Grown W w')) (w : World) :
    Calls Try.prog 33 #[obv k x n a l s, obv k' x' n' a' l' s'] w fun e w' => e = Ending.returned (.tuple #[.bool ((ok && ok') && decide (z < z')), .bool (ok && ok')]) ∧ Grown w w' := by
  have N := Lib.hid (fun W => numbers_by k x n a l s k' x' n' a' l' s' z z' ok ok' C C' W)
  clear C C'
  generalize (ok && ok') = o at *
  cases o
  all_goals
    go_enter Try.func33, Try.ntmps33
    go_wp2_with fail
    refine (N.out _).mono ?_
    rintro e w1 ⟨rfl, g1⟩
    go_wp2
    go_ret2
    exact ⟨by simp, grown_trans (by (repeat (first | exact Grown.refl _ | assumption | apply Grown.drew | apply Grown.alloc))) g1⟩
end Go.Proofs.Ytenmbkngkabonaa
