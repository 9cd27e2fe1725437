/- The walk of tympanlaw6.NumtextTells. -/
import Derived.Test.YtpfkijjpophobaaQ7
namespace Go.Proofs.Ytpfkijjpophobaa
set_option linter.unusedVariables false
open Go.RowKit

set_option maxRecDepth 100000 in
theorem walk_NumtextTells (s : ByteArray) (v : Int) (hs0 : s.size ≤ 9223372036854775807) (hv : (Lit.int .i64 v).wf = true) (w : World) :
    Calls Try.prog 7 #[.string s, .int .i64 v] w fun e w' => e = .returned (.bool true) ∧ Kept w w' := by
  have hv : -9223372036854775808 ≤ v ∧ v ≤ 9223372036854775807 := by simp [Lit.wf, IntKind.min, IntKind.max, IntKind.signed, IntKind.bits] at hv; omega
  obtain ⟨v0, v1⟩ := hv
  have KN := Lib.hid (known6 w)
  by_cases hl : 300 < s.size
  · have hlI : (300 : Int) < (s.size : Int) := by omega
    clear hl
    go_enter Try.func7, Try.ntmps7
    go_wp2_with fail
    refine KN.out.mono ?_
    rintro e w1 ⟨rfl, g1⟩
    go_wp2_with fail
    go_ret
    exact ⟨rfl, g1⟩
  · have hlI : (s.size : Int) ≤ 300 := by omega
    have CR := Lib.hid (fun Z => read_any s (by omega) Z)
    have CS := rread_any s.data.toList (by rw [Pl.len_list]; omega)
    rw [← Pl.tx_eta s] at CS
    have CS := Lib.hid (fun Z => CS Z)
    have CI := Lib.hid (fun Z => int_any v ⟨v0, v1⟩ Z)
    have CJ := Lib.hid (fun Z => rint_any v ⟨v0, v1⟩ Z)
    have CF := Lib.hid (fun Z => fix_any v ⟨v0, v1⟩ Z)
    have CG := Lib.hid (fun Z => rfix_any v ⟨v0, v1⟩ Z)
    obtain ⟨R, hR⟩ : ∃ R, R = Pl.read s := ⟨_, rfl⟩
    rw [← hR] at CR CS
    obtain ⟨x, y, z⟩ := R
    obtain ⟨I, hI⟩ : ∃ I : ByteArray, I = ⟨(Pl.intText v).toArray⟩ := ⟨_, rfl⟩
    obtain ⟨F, hF⟩ : ∃ F : ByteArray, F = ⟨(Pl.fixText v).toArray⟩ := ⟨_, rfl⟩
    rw [← hI] at CI CJ
    rw [← hF] at CF CG
    have CR : Hid (∀ Z, Calls Try.prog 13 #[.string s] Z fun e w' => e = .returned (.tuple #[.int .i64 x, .int .i64 y, .int .i64 z]) ∧ Fr (fun _ => False) Z w') := CR
    have CS : Hid (∀ Z, Calls Try.prog 19 #[.string s] Z fun e w' => e = .returned (.tuple #[.int .i64 x, .int .i64 y, .int .i64 z]) ∧ Grown Z w') := CS
    clear hR hI hF hl hs0
    go_enter Try.func7, Try.ntmps7
    go_wp2_with fail
    refine KN.out.mono ?_
    rintro e w1 ⟨rfl, g1⟩
    go_wp2_with fail
    refine (CR.out _).mono ?_
    rintro e w2 ⟨rfl, g2⟩
    go_wp2_with fail
    refine (CS.out _).mono ?_
    rintro e w3 ⟨rfl, g3⟩
    go_wp2_with fail
    refine (CI.out _).mono ?_
    rintro e w4 ⟨rfl, g4⟩
    go_wp2_with fail
    refine (CJ.out _).mono ?_
    rintro e w5 ⟨rfl, g5⟩
    go_wp2_with fail
    refine (CF.out _).mono ?_
    rintro e w6 ⟨rfl, g6⟩
    go_wp2_with fail
    refine (CG.out _).mono ?_
    rintro e w7 ⟨rfl, g7⟩
    go_wp2_with fail
    go_ret
    exact ⟨ret_bool (by simp), (g1.trans (Kept.of_fr g2)).trans (.of_grown (grown_trans (grown_trans g3 g4) (grown_trans g5 (grown_trans g6 g7))))⟩
end Go.Proofs.Ytpfkijjpophobaa
