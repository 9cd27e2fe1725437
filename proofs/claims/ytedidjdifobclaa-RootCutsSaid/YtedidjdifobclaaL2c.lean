/- The walk of tympanlaw2.RootCuts: a floor isn't above, the next one is. -/
import Derived.Test.YtedidjdifobclaaL2
namespace Go.Proofs.Ytedidjdifobclaa
set_option linter.unusedVariables false
open Go.RowKit

set_option maxHeartbeats 2000000 in
theorem cuts_core (p q d m more a n step t v : Int) (ha : -288230376151711744 < a ∧ a < 288230376151711744) (hq : -2147483648 ≤ q ∧ q ≤ 2147483647) (hd : -2147483648 ≤ d ∧ d ≤ 2147483647)
    (hm : -2147483648 ≤ m ∧ m ≤ 2147483647) (hmo : -32768 ≤ more ∧ more ≤ 32767) (hp : -9223372036854775808 ≤ p ∧ p ≤ 9223372036854775807)
    (hae : p.tmod 288230376151711744 = a) (hn : (0 ≤ d ∧ n = d) ∨ (d < 0 ∧ -(d + 1) = n)) (hst : (0 ≤ m ∧ m + 1 = step) ∨ (m < 0 ∧ -(m + 1) + 1 = step))
    (ht : Hid (Pl.srt (Pl.ss q * n) = t)) (hv : Hid ((a + t) / step = v)) (w : World) :
    Calls Try.prog 12 #[.int .i64 p, .int .i32 q, .int .i32 d, .int .i32 m, .int .i16 more] w fun e w' => e = .returned (.bool true) ∧ Grown w w' := by
  have hn0 : 0 ≤ n ∧ n ≤ 2147483647 := by omega
  have hs0 : 1 ≤ step ∧ step ≤ 2147483648 := by omega
  have hok : Pl.okq q n := by unfold Pl.okq; omega
  have hT := Pl.T_bd q n hok
  have hsp := Pl.srt_spec _ hT.1 hT.2
  rw [ht.out] at hsp
  obtain ⟨k1, k2, k3, k4⟩ := hsp
  have hmb : Pl.mag (a + t) ≤ 288371113640067072 := by unfold Pl.mag; split <;> omega
  have hvb := Pl.ediv_bd (a + t) step (by omega)
  rw [hv.out] at hvb
  have hvb' : -288371113640067072 ≤ v ∧ v ≤ 288371113640067072 := by omega
  obtain ⟨y, hy⟩ : ∃ y, v * step = y := ⟨_, rfl⟩
  have hy1 : (v + 1) * step = y + step := by rw [Int.add_mul, hy]; omega
  have hyb : y ≤ a + t ∧ a + t < y + step := by
    have h1 := Int.mul_ediv_add_emod (a + t) step
    have h2 := Int.emod_nonneg (a + t) (show step ≠ 0 by omega)
    have h3 := Int.emod_lt_of_pos (a + t) (show 0 < step by omega)
    rw [hv.out, Int.mul_comm, hy] at h1
    omega
  have e1 : 0 ≤ Pl.rsign (a - y) q n := by
    unfold Pl.rsign
    rw [Pl.sg_nonneg]
    have h1 := Pl.ss_le (a := -t) (b := a - y) (by omega)
    rw [Pl.ss_flip] at h1
    omega
  have e2 : Pl.rsign (a - (y + step)) q n < 0 := by
    have h2 : ¬ 0 ≤ Pl.rsign (a - (y + step)) q n := by
      unfold Pl.rsign
      rw [Pl.sg_nonneg]
      have h1 := Pl.ss_le (a := a - (y + step)) (b := -(t + 1)) (by omega)
      rw [Pl.ss_flip] at h1
      omega
    omega
  obtain ⟨z, hz⟩ : ∃ z, more * step = z := ⟨_, rfl⟩
  have hzb : -70368744177664 ≤ z ∧ z ≤ 70368744177664 := by
    rw [← hz]
    have := Pl.mul_mag more step
    have h2 : Pl.mag more * Pl.mag step ≤ 32768 * Pl.mag step := Int.mul_le_mul_of_nonneg_right (by unfold Pl.mag; split <;> omega) (Pl.mag_nn step)
    have h3 : Pl.mag step ≤ 2147483648 := by unfold Pl.mag; split <;> omega
    omega
  have e3 : (a + z + t) / step = v + more := by
    rw [← hz, ← hv.out, show a + more * step + t = a + t + more * step from by omega, Int.add_mul_ediv_right _ _ (by omega)]
  have C1 := Lib.hid (fun w => cut_ok a q n step (by unfold Pl.okc; exact ⟨hok, by omega⟩) w)
  have C2 := Lib.hid (fun w => cut_ok (a + z) q n step (by unfold Pl.okc; exact ⟨hok, by omega⟩) w)
  have C3 := Lib.hid (fun w => rsign_ok (a - y) q n (by omega) hok w)
  have C4 := Lib.hid (fun w => rsign_ok (a - (y + step)) q n (by omega) hok w)
  rw [ht.out, hv.out] at C1
  rw [ht.out, e3] at C2
  have hne : (v + more != v + more) = false := by simp
  clear e3 hvb k1 k2 hT
  rcases hn with ⟨hn1, rfl⟩ | ⟨hn1, hn2⟩ <;> rcases hst with ⟨hs1, hs2⟩ | ⟨hs1, hs2⟩
  all_goals
    go_enter Try.func12, Try.ntmps12
    go_wp2_with fail
    refine (known2 _).mono ?_
    rintro e w1 ⟨rfl, g1⟩
    go_wp2_with fail
    refine (C1.out _).mono ?_
    rintro e w2 ⟨rfl, g2⟩
    go_wp2_with fail
    refine (C2.out _).mono ?_
    rintro e w3 ⟨rfl, g3⟩
    go_wp2_with fail
    refine (C3.out _).mono ?_
    rintro e w4 ⟨rfl, g4⟩
    go_wp2_with fail
    refine (C4.out _).mono ?_
    rintro e w5 ⟨rfl, g5⟩
    go_wp2_with fail
    go_ret
    exact ⟨rfl, grown_trans g1 (grown_trans g2 (grown_trans g3 (grown_trans g4 g5)))⟩

theorem walk_RootCuts (p q d m more : Int) (w0 : (Lit.int .i64 p).wf = true) (w1 : (Lit.int .i32 q).wf = true) (w2 : (Lit.int .i32 d).wf = true) (w3 : (Lit.int .i32 m).wf = true) (w4 : (Lit.int .i16 more).wf = true) (w : World) :
    Calls Try.prog 12 #[.int .i64 p, .int .i32 q, .int .i32 d, .int .i32 m, .int .i16 more] w fun e w' => e = .returned (.bool true) ∧ Grown w w' := by
  have ha := Pl.tmod_bd p 288230376151711744 (by omega)
  exact cuts_core p q d m more (p.tmod 288230376151711744) (if d < 0 then -(d + 1) else d) (if m < 0 then -(m + 1) + 1 else m + 1) _ _ ha (bd32' w1) (bd32' w2) (bd32' w3) (bd16' w4) (bd64' w0) rfl
    (by by_cases h : d < 0; (exact .inr ⟨h, by rw [if_pos h]⟩); (exact .inl ⟨by omega, by rw [if_neg h]⟩)) (by by_cases h : m < 0; (exact .inr ⟨h, by rw [if_pos h]⟩); (exact .inl ⟨by omega, by rw [if_neg h]⟩)) (Lib.hid rfl) (Lib.hid rfl) w
end Go.Proofs.Ytedidjdifobclaa
