/- The walks of package obj at any object: size, numbers, Less. -/
import Derived.Test.YtenmbkngkabonaaO5
import Derived.Test.YtenmbkngkabonaaO3
namespace Go.Proofs.Ytenmbkngkabonaa
set_option linter.unusedVariables false
open Go.RowKit

/-- a number that may be: its object -/
def Pl.num (k n a l : Int) (s : ByteArray) : Prop := Pl.isn k n ∧ a = 0 ∧ l = 0 ∧ s = ⟨#[]⟩
theorem Pl.num_may {k n a l : Int} {s : ByteArray} (h : Pl.num k n a l s) : Pl.may k n a l s := by
  obtain ⟨h1, rfl, rfl, rfl⟩ := h
  refine .inr (.inr (.inr ⟨⟨rfl, rfl, rfl⟩, ?_⟩))
  unfold Pl.isn at h1
  rcases h1 with h1 | h1
  · exact .inr (.inl h1)
  · exact .inr (.inr (.inl h1))
theorem Pl.may_num {k n a l : Int} {s : ByteArray} (h : Pl.may k n a l s) (hk : k = 3 ∨ k = 4) : Pl.num k n a l s := by
  rcases h with h | h | h | ⟨⟨h1, h2, h3⟩, h⟩
  · exact absurd h.1 (by omega)
  · exact absurd h.1 (by omega)
  · exact absurd h.1 (by omega)
  · exact ⟨by unfold Pl.isn; omega, h1, h2, h3⟩

theorem size_no (k : Int) (x : Bool) (n a l : Int) (s : ByteArray) (h : ¬ Pl.num k n a l s) (w : World) :
    Calls Try.prog 76 #[obv k x n a l s] w fun e w' => e = Ending.returned (.tuple #[.int .i64 0, .bool false]) ∧ Grown w w' := by
  by_cases hm : Pl.may k n a l s
  · have k3 : (k == 3) = false := Pl.nek (fun e => h (Pl.may_num hm (.inl e)))
    have k4 : (k == 4) = false := Pl.nek (fun e => h (Pl.may_num hm (.inr e)))
    have CM := Lib.hid (fun W => may_yes k x n a l s hm W)
    clear hm h
    go_enter Try.func76, Try.ntmps76
    go_wp2_with fail
    refine (CM.out _).mono ?_
    rintro e w1 ⟨rfl, g1⟩
    obtain ⟨c0, c1, c2, c3, c4, c5, gw⟩ : ObS w w.heap.size k x n a l s w1 := ObS.grow (by exact ⟨by simp [go_sem], by simp [go_sem], by simp [go_sem], by simp [go_sem], by simp [go_sem], by simp [go_sem], by (repeat (first | exact Grown.refl _ | assumption | apply Grown.drew | apply Grown.alloc))⟩) g1
    clear g1
    go_wp2
    go_ret2
    exact ⟨rfl, gw⟩
  · have CM := Lib.hid (fun W => may_no k x n a l s hm W)
    clear hm h
    go_enter Try.func76, Try.ntmps76
    go_wp2_with fail
    refine (CM.out _).mono ?_
    rintro e w1 ⟨rfl, g1⟩
    go_wp2
    go_ret2
    exact ⟨rfl, grown_trans (by (repeat (first | exact Grown.refl _ | assumption | apply Grown.drew | apply Grown.alloc))) g1⟩

/-- what size tells of any object -/
theorem size_any (k : Int) (x : Bool) (n a l : Int) (s : ByteArray) : ∃ (z : Int) (ok : Bool), (ok = true ↔ Pl.num k n a l s) ∧ (Pl.num k n a l s → z = Pl.sz k n) ∧
    ∀ y w, Calls Try.prog 76 #[obv k y n a l s] w fun e w' => e = Ending.returned (.tuple #[.int .i64 z, .bool ok]) ∧ Grown w w' := by
  by_cases h : Pl.num k n a l s
  · refine ⟨Pl.sz k n, true, by simp [h], fun _ => rfl, fun y w => ?_⟩
    obtain ⟨h1, rfl, rfl, rfl⟩ := h
    exact size_num k y n h1 w
  · exact ⟨0, false, by simp [h], fun h' => absurd h' h, fun y w => size_no k y n a l s h w⟩
end Go.Proofs.Ytenmbkngkabonaa
