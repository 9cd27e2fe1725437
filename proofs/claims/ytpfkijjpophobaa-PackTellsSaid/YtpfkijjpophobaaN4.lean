/- Runs of digits in a text, plain; the byte at a place. -/
import Derived.Test.YtpfkijjpophobaaN3
namespace Go.Proofs.Ytpfkijjpophobaa
set_option linter.unusedVariables false
open Go.RowKit

theorem Pl.len_list (s : ByteArray) : s.data.toList.length = s.size := by
  rw [Array.length_toList]
  rfl
/-- the byte at a place -/
def Pl.bt (s : ByteArray) (i : Nat) : Nat := (s.data.toList[i]?.getD 0).toNat
theorem index_at (s : ByteArray) (i : Nat) (hi : i < s.size) (W : World) : (Instr.index 9 (.string s) (.int .i64 (i : Int))).run Try.prog W = .ok (.int .u8 (Pl.bt s i : Int)) W := by
  rw [run_index_string (P := Try.prog) W 9 s .i64 (i : Int) Try.underlying9]
  have h : 0 ≤ (i : Int) ∧ (i : Int) < (s.size : Int) := by omega
  rw [dif_pos h]
  have hi2 : i < s.data.toList.length := by rw [Pl.len_list]; exact hi
  have e : Pl.bt s i = (s[i]'hi).toNat := by
    unfold Pl.bt
    rw [List.getElem?_eq_getElem hi2]
    rfl
  rw [e]
  rfl
theorem Pl.bt_lt (s : ByteArray) (i : Nat) : Pl.bt s i ≤ 255 := by
  unfold Pl.bt
  have := (s.data.toList[i]?.getD 0).toNat_lt
  omega
/-- the digits from a place on -/
def Pl.dgs (s : ByteArray) (i : Nat) : List Nat := ((s.data.toList.drop i).map UInt8.toNat).takeWhile (fun b => decide (48 ≤ b ∧ b ≤ 57))
theorem Pl.dgs_end (s : ByteArray) (i : Nat) (hi : s.size ≤ i) : Pl.dgs s i = [] := by
  unfold Pl.dgs
  rw [List.drop_of_length_le (by rw [Pl.len_list]; exact hi)]
  rfl
theorem Pl.dgs_step (s : ByteArray) (i : Nat) (hi : i < s.size) : Pl.dgs s i = if 48 ≤ Pl.bt s i ∧ Pl.bt s i ≤ 57 then Pl.bt s i :: Pl.dgs s (i + 1) else [] := by
  have hi2 : i < s.data.toList.length := by rw [Pl.len_list]; exact hi
  have hb : Pl.bt s i = (s.data.toList[i]'hi2).toNat := by
    unfold Pl.bt
    rw [List.getElem?_eq_getElem hi2]
    rfl
  unfold Pl.dgs
  rw [List.drop_eq_getElem_cons hi2, List.map_cons, List.takeWhile_cons, ← hb]
  by_cases h : 48 ≤ Pl.bt s i ∧ Pl.bt s i ≤ 57
  · rw [if_pos h, if_pos (by simpa using h)]
  · rw [if_neg h, if_neg (by simpa using h)]
/-- their number, held at most -/
def Pl.dvl (most : Int) (v : Int) : List Nat → Int
  | [] => v
  | b :: r => Pl.dvl most (min (v * 10 + ((b : Int) - 48)) most) r
theorem Pl.dvl_append (most v : Int) (a b : List Nat) : Pl.dvl most v (a ++ b) = Pl.dvl most (Pl.dvl most v a) b := by
  induction a generalizing v with
  | nil => rfl
  | cons x r ih => simp only [List.cons_append, Pl.dvl, ih]
end Go.Proofs.Ytpfkijjpophobaa
