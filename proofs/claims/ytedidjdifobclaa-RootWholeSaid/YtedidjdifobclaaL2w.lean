/- The walk of tympanlaw2.RootWhole: of the root of a square nothing is left over. -/
import Derived.Test.YtedidjdifobclaaL2
namespace Go.Proofs.Ytedidjdifobclaa
set_option linter.unusedVariables false
open Go.RowKit

set_option maxHeartbeats 2000000 in
theorem whole_core (q r more m k y v : Int) (hq : -2147483648 ≤ q ∧ q ≤ 2147483647) (hr : 0 ≤ r ∧ r ≤ 65535) (hmo : -128 ≤ more ∧ more ≤ 127) (hm : 0 ≤ m ∧ m ≤ 65535)
    (hk : (r ≤ 46340 ∧ r = k) ∨ (46340 < r ∧ k = 46340)) (hy : q * k = y) (hv : Hid (more / (m + 1) = v)) (w : World) :
    Calls Try.prog 10 #[.int .i32 q, .int .u16 r, .int .i8 more, .int .u16 m] w fun e w' => e = .returned (.bool true) ∧ Grown w w' := by
  have hk0 : 0 ≤ k ∧ k ≤ 46340 := by omega
  have hkk : 0 ≤ k * k ∧ k * k ≤ 2147395600 := by
    refine ⟨Int.mul_nonneg hk0.1 hk0.1, ?_⟩
    have := Int.mul_le_mul_of_nonneg_right hk0.2 hk0.1
    omega
  have hyb : -99514393329664 ≤ y ∧ y ≤ 99514393329664 := by
    rw [← hy]
    have := Pl.mul_mag q k
    have h2 : Pl.mag q * Pl.mag k ≤ 2147483648 * Pl.mag k := Int.mul_le_mul_of_nonneg_right (by unfold Pl.mag; split <;> omega) (Pl.mag_nn k)
    have h3 : Pl.mag k ≤ 46340 := by unfold Pl.mag; split <;> omega
    omega
  have hT : Pl.ss q * (k * k) = Pl.ss y := by rw [← hy, Pl.ss_mul q k hk0.1]
  have hok : Pl.okq q (k * k) := by unfold Pl.okq; omega
  have hsr : Pl.srt (Pl.ss q * (k * k)) = y := by
    have hTb := Pl.T_bd q (k * k) hok
    obtain ⟨s1, s2, _, _⟩ := Pl.srt_spec _ hTb.1 hTb.2
    rw [hT] at s1 s2 ⊢
    have a := Pl.ss_le_iff.1 s1
    have b : ¬ Pl.srt (Pl.ss y) + 1 ≤ y := fun h => by have := Pl.ss_le h; omega
    omega
  have hsg : Pl.rsign (-y + more) q (k * k) = Pl.sg more := by
    unfold Pl.rsign
    rw [hT, ← Int.neg_neg (Pl.ss y), ← Pl.ss_flip, ← Int.sub_eq_add_neg, Pl.sg_diff]
    congr 1; omega
  have hvb : v * (m + 1) ≤ more ∧ more < (v + 1) * (m + 1) := by
    have h1 := Int.mul_ediv_add_emod more (m + 1)
    have h2 := Int.emod_nonneg more (show m + 1 ≠ 0 by omega)
    have h3 := Int.emod_lt_of_pos more (show 0 < m + 1 by omega)
    rw [hv.out, Int.mul_comm] at h1
    rw [Int.add_mul v 1, Int.one_mul]
    omega
  have hvr := Pl.ediv_bd more (m + 1) (by omega)
  rw [hv.out] at hvr
  have hmm : Pl.mag more ≤ 128 := by unfold Pl.mag; split <;> omega
  have hvr' : -128 ≤ v ∧ v ≤ 128 := by omega
  have C1 := Lib.hid (fun w => rsign_ok (-y + more) q (k * k) (by omega) hok w)
  have C2 := Lib.hid (fun w => cut_ok (-y + more) q (k * k) (m + 1) (by unfold Pl.okc; exact ⟨hok, by omega⟩) w)
  rw [hsg] at C1
  rw [hsr, show -y + more + y = more from by omega, hv.out] at C2
  obtain ⟨z, hz⟩ : ∃ z, v * (m + 1) = z := ⟨_, rfl⟩
  have hz1 : (v + 1) * (m + 1) = z + (m + 1) := by rw [Int.add_mul, hz]; omega
  have hny : -q * k = -y := by rw [Int.neg_mul, hy]
  rw [hz, hz1] at hvb
  have hzb : -10000000 ≤ z ∧ z ≤ 10000000 := by omega
  clear hT hsr hsg hvr
  have hsgc : (more < 0 ∧ Hid (Pl.sg more = -1)) ∨ (¬ more < 0 ∧ 0 < more ∧ Hid (Pl.sg more = 1)) ∨ (¬ more < 0 ∧ ¬ 0 < more ∧ Hid (Pl.sg more = 0)) := by
    rcases Pl.sg_cases more with ⟨h, e⟩ | ⟨h, e⟩ | ⟨h, e⟩
    · exact .inl ⟨h, e⟩
    · exact .inr (.inr ⟨by omega, by omega, e⟩)
    · exact .inr (.inl ⟨by omega, h, e⟩)
  rcases hk with ⟨hk1, rfl⟩ | ⟨hk1, rfl⟩ <;> rcases hsgc with ⟨h1, h2⟩ | ⟨h1, h3, h2⟩ | ⟨h1, h3, h2⟩
  all_goals
    rw [h2.out] at C1
    go_enter Try.func10, Try.ntmps10
    go_wp2_with fail
    refine (known2 _).mono ?_
    rintro e w1 ⟨rfl, g1⟩
    go_wp2_with fail
    refine (C1.out _).mono ?_
    rintro e w2 ⟨rfl, g2⟩
    go_wp2_with fail
    refine (C2.out _).mono ?_
    rintro e w3 ⟨rfl, g3⟩
    go_wp2_with fail
    go_ret
    exact ⟨rfl, grown_trans g1 (grown_trans g2 g3)⟩

theorem walk_RootWhole (q r more m : Int) (w0 : (Lit.int .i32 q).wf = true) (w1 : (Lit.int .u16 r).wf = true) (w2 : (Lit.int .i8 more).wf = true) (w3 : (Lit.int .u16 m).wf = true) (w : World) :
    Calls Try.prog 10 #[.int .i32 q, .int .u16 r, .int .i8 more, .int .u16 m] w fun e w' => e = .returned (.bool true) ∧ Grown w w' :=
  whole_core q r more m (if r ≤ 46340 then r else 46340) _ _ (bd32' w0) (bdu16' w1) (bd8' w2) (bdu16' w3)
    (by by_cases h : r ≤ 46340; (exact .inl ⟨h, by rw [if_pos h]⟩); (exact .inr ⟨by omega, by rw [if_neg h]⟩)) rfl (Lib.hid rfl) w
end Go.Proofs.Ytedidjdifobclaa
