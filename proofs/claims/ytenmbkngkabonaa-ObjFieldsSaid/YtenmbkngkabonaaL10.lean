/- Layer 10's law functions: number; tympanhelp.Place. -/
import Derived.Test.YtenmbkngkabonaaO3
namespace Go.Proofs.Ytenmbkngkabonaa
set_option linter.unusedVariables false
open Go.RowKit
namespace Pl
theorem tmod_bd (x m : Int) (hm : 0 < m) : -m < x.tmod m ∧ x.tmod m < m := by
  by_cases h : 0 ≤ x
  · have h1 := Int.tmod_nonneg m h
    have h2 := Int.tmod_lt_of_pos x hm
    omega
  · have h1 := Int.tmod_nonneg m (show 0 ≤ -x by omega)
    have h2 := Int.tmod_lt_of_pos (-x) hm
    rw [Int.neg_tmod] at h1 h2
    omega
end Pl
theorem place_any (v n : Int) (hn : 0 < n) (hn' : n ≤ 4611686018427387904) (w : World) :
    Calls Try.prog 29 #[.int .i64 v, .int .i64 n] w fun e w' => e = .returned (.int .i64 (v % n)) ∧ w = w' := by
  have hb := Pl.tmod_bd v n hn
  have he := Lib.hid (Pl.place_eq v n hn)
  by_cases h : v.tmod n < 0
  · go_enter Try.func29, Try.ntmps29
    go_wp2
    go_ret
    exact ⟨ret_int (by rw [← he.out, if_pos (by assumption)]), rfl⟩
  · go_enter Try.func29, Try.ntmps29
    go_wp2
    go_ret
    exact ⟨ret_int (by rw [← he.out, if_neg (by omega)]), rfl⟩

def Pl.nk (y : Bool) : Int := if y then 4 else 3
def Pl.nn (v : Int) (y : Bool) : Int := if y then v % 2147483647 - 1073741823 else v % 4294967295 - 2147483647
theorem Pl.isn_nn (v : Int) (y : Bool) : Pl.isn (Pl.nk y) (Pl.nn v y) := by
  unfold Pl.isn Pl.nk Pl.nn
  cases y <;> simp <;> omega
theorem number_any (v : Int) (y : Bool) (w : World) :
    Calls Try.prog 32 #[.int .i64 v, .bool y] w fun e w' => e = Ending.returned (obv (Pl.nk y) false (Pl.nn v y) 0 0 ⟨#[]⟩) ∧ Grown w w' := by
  cases y
  · have h : Pl.nn v false = v % 4294967295 - 2147483647 := by simp [Pl.nn]
    have hk : Pl.nk false = 3 := by simp [Pl.nk]
    rw [h, hk]
    have C := Lib.hid (fun W => place_any v 4294967295 (by omega) (by omega) W)
    have b1 : 0 ≤ v % 4294967295 := by omega
    have b2 : v % 4294967295 < 4294967295 := by omega
    clear h hk
    generalize v % 4294967295 = p at *
    go_enter Try.func32, Try.ntmps32
    go_wp2_with fail
    refine (C.out _).mono ?_
    rintro e w1 ⟨rfl, rfl⟩
    go_wp2
    exact bodyPost_ret (v := obv 3 false (p - 2147483647) 0 0 ⟨#[]⟩) (by simp [results, Try.results32, go_sem]) rfl ⟨rfl, by (repeat (first | exact Grown.refl _ | assumption | apply Grown.drew | apply Grown.alloc))⟩
  · have h : Pl.nn v true = v % 2147483647 - 1073741823 := by simp [Pl.nn]
    have hk : Pl.nk true = 4 := by simp [Pl.nk]
    rw [h, hk]
    have C := Lib.hid (fun W => place_any v 2147483647 (by omega) (by omega) W)
    have b1 : 0 ≤ v % 2147483647 := by omega
    have b2 : v % 2147483647 < 2147483647 := by omega
    clear h hk
    generalize v % 2147483647 = p at *
    go_enter Try.func32, Try.ntmps32
    go_wp2_with fail
    refine (C.out _).mono ?_
    rintro e w1 ⟨rfl, rfl⟩
    go_wp2
    exact bodyPost_ret (v := obv 4 false (p - 1073741823) 0 0 ⟨#[]⟩) (by simp [results, Try.results32, go_sem]) rfl ⟨rfl, by (repeat (first | exact Grown.refl _ | assumption | apply Grown.drew | apply Grown.alloc))⟩

theorem may_num (k : Int) (x : Bool) (n : Int) (h : Pl.isn k n) (w : World) :
    Calls Try.prog 35 #[obv k x n 0 0 ⟨#[]⟩] w fun e w' => e = Ending.returned (.bool true) ∧ Grown w w' := by
  rcases h with ⟨rfl, h1, h2⟩ | ⟨rfl, h1, h2⟩
  · exact may_int_yes x n h1 h2 w
  · exact may_fix_yes x n h1 h2 w
end Go.Proofs.Ytenmbkngkabonaa
