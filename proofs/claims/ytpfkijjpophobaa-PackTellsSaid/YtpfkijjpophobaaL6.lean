/- tympanhelp.Place; the walk of tympanlaw6.NumtextBack. -/
import Derived.Test.YtpfkijjpophobaaN15
namespace Go.Proofs.Ytpfkijjpophobaa
set_option linter.unusedVariables false
open Go.RowKit

theorem Pl.tmod_bd (x m : Int) (hm : 0 < m) : -m < x.tmod m ∧ x.tmod m < m := by
  by_cases h : 0 ≤ x
  · have h1 := Int.tmod_nonneg m h
    have h2 := Int.tmod_lt_of_pos x hm
    omega
  · have h1 := Int.tmod_nonneg m (show 0 ≤ -x by omega)
    have h2 := Int.tmod_lt_of_pos (-x) hm
    rw [Int.neg_tmod] at h1 h2
    omega
theorem Pl.place_eq (v n : Int) (hn : 0 < n) : (if v.tmod n < 0 then v.tmod n + n else v.tmod n) = v % n := by
  by_cases hv : 0 ≤ v
  · rw [if_neg (by have := Int.tmod_nonneg n hv; omega), Int.tmod_eq_emod_of_nonneg hv]
  · have h3 : v.tmod n = -((-v) % n) := by
      rw [← Int.neg_neg v, Int.neg_tmod, Int.tmod_eq_emod_of_nonneg (by omega)]; simp
    have h1 := Int.emod_nonneg (-v) (show n ≠ 0 by omega)
    have h2 := Int.emod_lt_of_pos (-v) hn
    by_cases e : (-v) % n = 0
    · rw [h3, e]
      simp
      have := Int.dvd_of_emod_eq_zero e
      exact (Int.emod_eq_zero_of_dvd ((Int.dvd_neg).1 this)).symm
    · rw [if_pos (by omega), h3]
      rw [Int.neg_emod] at e ⊢
      by_cases hd : n ∣ v
      · rw [if_pos hd] at e; exact absurd rfl e
      · rw [if_neg hd]
        have hnn : (n.natAbs : Int) = n := by omega
        omega
theorem place_any (v n : Int) (hn : 0 < n) (hn' : n ≤ 4611686018427387904) (w : World) :
    Calls Try.prog 15 #[.int .i64 v, .int .i64 n] w fun e w' => e = .returned (.int .i64 (v % n)) ∧ w = w' := by
  have hb := Pl.tmod_bd v n hn
  have he := Lib.hid (Pl.place_eq v n hn)
  by_cases h : v.tmod n < 0
  · go_enter Try.func15, Try.ntmps15
    go_wp2
    go_ret
    exact ⟨ret_int (by rw [← he.out, if_pos (by assumption)]), rfl⟩
  · go_enter Try.func15, Try.ntmps15
    go_wp2
    go_ret
    exact ⟨ret_int (by rw [← he.out, if_neg (by omega)]), rfl⟩

theorem Pl.intText_len (v : Int) : (Pl.intText v).length ≤ 21 := by
  unfold Pl.intText
  have := Pl.dec_len v.natAbs
  rw [List.length_append]
  split <;> simp <;> omega
theorem Pl.fixText_len (v : Int) : (Pl.fixText v).length ≤ 60 := by
  unfold Pl.fixText
  split
  · simp
  · unfold Pl.fixAt
    have h1 := Pl.dec_len (Pl.fixN (Pl.mg v) (Pl.fixK (Pl.mg v)) / ((10 ^ (Pl.fixK (Pl.mg v)) : Nat) : Int)).toNat
    have h2 := Pl.dec_len (Pl.fixN (Pl.mg v) (Pl.fixK (Pl.mg v)) % ((10 ^ (Pl.fixK (Pl.mg v)) : Nat) : Int)).toNat
    have h3 : (Pl.sgn v).length ≤ 1 := by unfold Pl.sgn; split <;> simp
    have h4 : Pl.fixK (Pl.mg v) ≤ 5 := (by
      unfold Pl.fixK
      repeat' split
      all_goals omega)
    unfold Pl.pad
    simp only [List.length_append, List.length_replicate, List.length_singleton]
    omega

set_option maxRecDepth 100000 in
theorem walk_NumtextBack (v : Int) (hv : (Lit.int .i64 v).wf = true) (w : World) :
    Calls Try.prog 3 #[.int .i64 v] w fun e w' => e = .returned (.bool true) ∧ Kept w w' := by
  have hv : -9223372036854775808 ≤ v ∧ v ≤ 9223372036854775807 := by simp [Lit.wf, IntKind.min, IntKind.max, IntKind.signed, IntKind.bits] at hv; omega
  obtain ⟨v0, v1⟩ := hv
  have KN := Lib.hid (known6 w)
  have CI := Lib.hid (fun Z => int_is v ⟨v0, v1⟩ _ rfl Z)
  have CF := Lib.hid (fun Z => fix_is v ⟨v0, v1⟩ _ rfl Z)
  have CP := Lib.hid (fun Z => place_any v 2147483647 (by omega) (by omega) Z)
  have e0 : 0 ≤ v % 2147483647 ∧ v % 2147483647 < 2147483647 := by omega
  have CG := Lib.hid (fun Z => fix_is (v % 2147483647 - 1073741823) (by omega) _ rfl Z)
  have RG := Lib.hid (fun Z => read_is (Pl.fixText (v % 2147483647 - 1073741823)) (by have := Pl.fixText_len (v % 2147483647 - 1073741823); omega) 2 (v % 2147483647 - 1073741823) 0 (Pl.read_fix _ (by omega) (by omega)) Z)
  obtain ⟨m, hm⟩ : ∃ m, m = v % 2147483647 := ⟨_, rfl⟩
  rw [← hm] at e0 CG RG CP
  have HT := Lib.hid (Pl.fixText_ne v)
  obtain ⟨F, hF⟩ : ∃ F, F = Pl.fixText v := ⟨_, rfl⟩
  rw [← hF] at CF HT
  obtain ⟨G, hG⟩ : ∃ G, G = Pl.fixText (m - 1073741823) := ⟨_, rfl⟩
  rw [← hG] at CG RG
  have LI := Pl.intText_len v
  have RI := Lib.hid (Pl.read_int v v0 v1)
  obtain ⟨I, hI⟩ : ∃ I, I = Pl.intText v := ⟨_, rfl⟩
  rw [← hI] at CI LI RI
  have HF : (F = [] ∧ v < -1073741823) ∨ (F = [] ∧ 1073741823 < v) ∨ (∃ a b, F = a :: b ∧ -1073741823 ≤ v ∧ v ≤ 1073741823) := by
    by_cases h : v < -1073741823
    · exact .inl ⟨HT.out.2 (.inl h), h⟩
    by_cases h' : 1073741823 < v
    · exact .inr (.inl ⟨HT.out.2 (.inr h'), h'⟩)
    refine .inr (.inr ?_)
    cases F with
    | nil => have := HT.out.1 rfl; omega
    | cons a b => exact ⟨a, b, rfl, by omega, by omega⟩
  clear hm hF hG hI HT
  rcases HF with ⟨rfl, hf⟩ | ⟨rfl, hf⟩ | ⟨a, b, rfl, hf0, hf1⟩
  all_goals
    by_cases hr : v < -2147483647 ∨ 2147483647 < v
    · have CR := Lib.hid (fun Z => read_is I (by omega) 0 0 2 (by have := RI.out; rw [if_pos hr] at this; exact this) Z)
      clear RI
      rcases hr with hr | hr
      all_goals first | (exfalso; omega) | skip
      all_goals
        go_enter Try.func3, Try.ntmps3
        go_wp2_with fail
        refine KN.out.mono ?_
        rintro e w1 ⟨rfl, g1⟩
        go_wp2_with fail
        refine (CI.out _).mono ?_
        rintro e w2 ⟨rfl, g2⟩
        go_wp2_with fail
        refine (CR.out _).mono ?_
        rintro e w3 ⟨rfl, g3⟩
        go_wp2_with fail
        refine (CP.out _).mono ?_
        rintro e w4 ⟨rfl, rfl⟩
        go_wp2_with fail
        refine (CG.out _).mono ?_
        rintro e w5 ⟨rfl, g5⟩
        go_wp2_with fail
        refine (RG.out _).mono ?_
        rintro e w6 ⟨rfl, g6⟩
        go_wp2_with fail
        refine (CF.out _).mono ?_
        rintro e w7 ⟨rfl, g7⟩
        go_wp2_with fail
        go_ret
        refine ⟨ret_bool ?_, (((((g1.trans (.of_grown g2)).trans g3).trans (.of_grown g5)).trans g6).trans (.of_grown g7))⟩
        skip
        first | rfl | (simp; done) | (simp; omega)
    · have CR := Lib.hid (fun Z => read_is I (by omega) 1 v 0 (by have := RI.out; rw [if_neg hr] at this; exact this) Z)
      have hr0 : -2147483647 ≤ v := by omega
      have hr1 : v ≤ 2147483647 := by omega
      clear RI hr
      go_enter Try.func3, Try.ntmps3
      go_wp2_with fail
      refine KN.out.mono ?_
      rintro e w1 ⟨rfl, g1⟩
      go_wp2_with fail
      refine (CI.out _).mono ?_
      rintro e w2 ⟨rfl, g2⟩
      go_wp2_with fail
      refine (CR.out _).mono ?_
      rintro e w3 ⟨rfl, g3⟩
      go_wp2_with fail
      refine (CP.out _).mono ?_
      rintro e w4 ⟨rfl, rfl⟩
      go_wp2_with fail
      refine (CG.out _).mono ?_
      rintro e w5 ⟨rfl, g5⟩
      go_wp2_with fail
      refine (RG.out _).mono ?_
      rintro e w6 ⟨rfl, g6⟩
      go_wp2_with fail
      refine (CF.out _).mono ?_
      rintro e w7 ⟨rfl, g7⟩
      go_wp2_with fail
      go_ret
      refine ⟨ret_bool ?_, (((((g1.trans (.of_grown g2)).trans g3).trans (.of_grown g5)).trans g6).trans (.of_grown g7))⟩
      skip
      first | rfl | (simp; done) | (simp; omega)
end Go.Proofs.Ytpfkijjpophobaa
