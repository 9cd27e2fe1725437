/- numtext.based. -/
import Derived.Test.YtpfkijjpophobaaN6
namespace Go.Proofs.Ytpfkijjpophobaa
set_option linter.unusedVariables false
open Go.RowKit

/-- letters read to a base -/
def Pl.bvl (base : Int) : Int → List Nat → Option Int
  | v, [] => some v
  | v, b :: r => if Pl.cv b < 0 ∨ base ≤ Pl.cv b then none else Pl.bvl base (min (v * base + Pl.cv b) 2147483648) r
/-- the bytes from a place on -/
def Pl.bts (s : ByteArray) (i : Nat) : List Nat := (s.data.toList.drop i).map UInt8.toNat
theorem Pl.bts_end (s : ByteArray) (i : Nat) (hi : s.size ≤ i) : Pl.bts s i = [] := by
  unfold Pl.bts
  rw [List.drop_of_length_le (by rw [Pl.len_list]; exact hi)]
  rfl
theorem Pl.bts_step (s : ByteArray) (i : Nat) (hi : i < s.size) : Pl.bts s i = Pl.bt s i :: Pl.bts s (i + 1) := by
  have hi2 : i < s.data.toList.length := by rw [Pl.len_list]; exact hi
  have hb : Pl.bt s i = (s.data.toList[i]'hi2).toNat := by
    unfold Pl.bt
    rw [List.getElem?_eq_getElem hi2]
    rfl
  unfold Pl.bts
  rw [List.drop_eq_getElem_cons hi2, List.map_cons, ← hb]
/-- is there a base ahead of a '#'? -/
def Pl.basedIf (s : ByteArray) : Prop := 1 ≤ (Pl.dgs s 0).length ∧ (Pl.dgs s 0).length ≤ 2 ∧ Pl.bt s 0 ≠ 48 ∧ 2 ≤ Pl.dvl 1000 0 (Pl.dgs s 0) ∧ Pl.dvl 1000 0 (Pl.dgs s 0) ≤ 36 ∧ (Pl.dgs s 0).length < s.size - 1 ∧ Pl.bt s (Pl.dgs s 0).length = 35
theorem Pl.dgs_len (s : ByteArray) (i : Nat) (hi : i ≤ s.size) : i + (Pl.dgs s i).length ≤ s.size := by
  have h : (Pl.dgs s i).length ≤ ((s.data.toList.drop i).map UInt8.toNat).length := by
    unfold Pl.dgs
    exact List.Sublist.length_le (List.takeWhile_sublist _)
  rw [List.length_map, List.length_drop, Pl.len_list] at h
  omega
end Go.Proofs.Ytpfkijjpophobaa
