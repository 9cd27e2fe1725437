/- tympanlaw6.known. -/
import Derived.Test.YtpfkijjpophobaaN12
namespace Go.Proofs.Ytpfkijjpophobaa
set_option linter.unusedVariables false
open Go.RowKit

theorem Kept.of_fr {W w' : World} (h : Fr (fun _ => False) W w') : Kept W w' := (Kept.refl W).fr h (fun _ f => f.elim)
/-- a text, from its bytes -/
def Pl.tx (l : List UInt8) : ByteArray := ⟨l.toArray⟩
theorem read_is (l : List UInt8) (hl : l.length ≤ 1000000) (k v e : Int) (h : Pl.read ⟨l.toArray⟩ = (k, v, e)) (W : World) :
    Calls Try.prog 13 #[.string ⟨l.toArray⟩] W fun x w' => x = .returned (.tuple #[.int .i64 k, .int .i64 v, .int .i64 e]) ∧ Kept W w' :=
  (read_any ⟨l.toArray⟩ (by simp [ByteArray.size]; omega) W).mono fun x w' ⟨hx, hw⟩ => ⟨by rw [hx, h], Kept.of_fr hw⟩
theorem fix_is (v : Int) (hv : -9223372036854775808 ≤ v ∧ v ≤ 9223372036854775807) (l : List UInt8) (h : Pl.fixText v = l) (W : World) :
    Calls Try.prog 16 #[.int .i64 v] W fun e w' => e = .returned (.string ⟨l.toArray⟩) ∧ Grown W w' := by
  rw [← h]
  exact fix_any v hv W
theorem int_is (v : Int) (hv : -9223372036854775808 ≤ v ∧ v ≤ 9223372036854775807) (l : List UInt8) (h : Pl.intText v = l) (W : World) :
    Calls Try.prog 14 #[.int .i64 v] W fun e w' => e = .returned (.string ⟨l.toArray⟩) ∧ Grown W w' := by
  rw [← h]
  exact int_any v hv W
theorem known6 (W : World) : Calls Try.prog 12 #[] W fun e w' => e = .returned (.bool true) ∧ Kept W w' := by
  have R1 := Lib.hid (read_is [49, 54, 35, 70, 70] (by decide) 1 255 0 (by kernel_rfl))
  have R2 := Lib.hid (read_is [45, 46, 53] (by decide) 2 (-32768) 0 (by kernel_rfl))
  have R3 := Lib.hid (read_is [49, 101, 51] (by decide) 0 0 3 (by kernel_rfl))
  have F1 := Lib.hid (fix_is 65536 (by omega) [49, 46, 48] (by kernel_rfl))
  have F2 := Lib.hid (fix_is 1 (by omega) [48, 46, 48, 48, 48, 48, 50] (by kernel_rfl))
  have I1 := Lib.hid (int_is (-7) (by omega) [45, 55] (by kernel_rfl))
  go_enter Try.func12, Try.ntmps12
  go_wp2_with fail
  refine (R1.out _).mono ?_
  rintro e w1 ⟨rfl, g1⟩
  go_wp2_with fail
  refine (R2.out _).mono ?_
  rintro e w2 ⟨rfl, g2⟩
  go_wp2_with fail
  refine (R3.out _).mono ?_
  rintro e w3 ⟨rfl, g3⟩
  go_wp2_with fail
  refine (F1.out _).mono ?_
  rintro e w4 ⟨rfl, g4⟩
  go_wp2_with fail
  refine (F2.out _).mono ?_
  rintro e w5 ⟨rfl, g5⟩
  go_wp2_with fail
  refine (I1.out _).mono ?_
  rintro e w6 ⟨rfl, g6⟩
  go_wp2_with fail
  go_ret
  refine ⟨ret_bool rfl, ((g1.trans g2).trans g3).trans (.of_grown (grown_trans g4 (grown_trans g5 g6)))⟩
end Go.Proofs.Ytpfkijjpophobaa
