/- The reference's Sign, by one plain function; what tells of edges in the reference of layer 25. -/
import Derived.Test.YtnienpalbfgflaaC2
namespace Go.Proofs.Ytnienpalbfgflaa
set_option linter.unusedVariables false
open Go.RowKit

theorem Pl.sg_of_neg {v : Int} (h : v < 0) : Pl.sg v = -1 := by unfold Pl.sg; rw [if_pos h]
theorem Pl.sg_of_pos {v : Int} (h : 0 < v) : Pl.sg v = 1 := by unfold Pl.sg; rw [if_neg (by omega), if_pos h]
theorem Pl.ss_of_neg {v : Int} (h : v < 0) : Pl.ss v < 0 := by
  rw [Pl.ss_neg (by omega)]
  have := Int.mul_pos_of_neg_of_neg h h
  omega
theorem Pl.ss_of_pos {v : Int} (h : 0 < v) : 0 < Pl.ss v := by
  rw [Pl.ss_pos (by omega)]
  exact Int.mul_pos h h
theorem sign24_ok (p q d : Int) (bp : -4611686018427387904 ≤ p ∧ p ≤ 4611686018427387904) (h : Pl.okq q d) (w : World) :
    Calls Try.prog 51 #[.int .i64 p, .int .i64 q, .int .i64 d] w fun e w' => e = .returned (.int .i64 (Pl.rsign p q d)) ∧ Grown w w' := by
  obtain ⟨h1, h2, h3, h4⟩ := h
  rcases Int.lt_or_eq_of_le h3 with hd | hd
  · rcases Int.lt_trichotomy p 0 with hp | hp | hp <;> rcases Int.lt_trichotomy q 0 with hq | hq | hq
    · rw [show Pl.rsign p q d = -1 by unfold Pl.rsign; exact Pl.sg_of_neg (by have := Pl.ss_of_neg hp; have := Int.mul_neg_of_neg_of_pos (Pl.ss_of_neg hq) hd; omega)]
      exact sign24_nn p q d hp hq hd w
    · rw [show Pl.rsign p q d = -1 by unfold Pl.rsign; rw [hq, Pl.ss_zero, Int.zero_mul]; exact Pl.sg_of_neg (by have := Pl.ss_of_neg hp; omega)]
      exact sign24_nz p q d hp hq hd w
    · rw [show Pl.rsign p q d = Pl.cmp (q * q * d) (p * p) by unfold Pl.rsign; rw [Pl.cmp_sg, Pl.ss_neg (by omega : p ≤ 0), Pl.ss_pos (by omega : 0 ≤ q)]; congr 1; omega]
      exact sign24_np p q d hp hq hd bp ⟨h1, h2⟩ h4 w
    · rw [show Pl.rsign p q d = -1 by unfold Pl.rsign; rw [hp, Pl.ss_zero, Int.zero_add]; exact Pl.sg_of_neg (Int.mul_neg_of_neg_of_pos (Pl.ss_of_neg hq) hd)]
      exact sign24_zn p q d hp hq hd w
    · rw [show Pl.rsign p q d = 0 by unfold Pl.rsign; rw [hp, hq, Pl.ss_zero, Int.zero_mul]; rfl]
      exact sign24_zz p q d hp hq hd w
    · rw [show Pl.rsign p q d = 1 by unfold Pl.rsign; rw [hp, Pl.ss_zero, Int.zero_add]; exact Pl.sg_of_pos (Int.mul_pos (Pl.ss_of_pos hq) hd)]
      exact sign24_zp p q d hp hq hd w
    · rw [show Pl.rsign p q d = -Pl.cmp (q * q * d) (p * p) by
        unfold Pl.rsign
        rw [Pl.cmp_sg, Pl.ss_pos (by omega : 0 ≤ p), Pl.ss_neg (by omega : q ≤ 0), ← Pl.sg_neg, Int.neg_mul]
        congr 1
        omega]
      exact sign24_pn p q d hp hq hd bp ⟨h1, h2⟩ h4 w
    · rw [show Pl.rsign p q d = 1 by unfold Pl.rsign; rw [hq, Pl.ss_zero, Int.zero_mul]; exact Pl.sg_of_pos (by have := Pl.ss_of_pos hp; omega)]
      exact sign24_pz p q d hp hq hd w
    · rw [show Pl.rsign p q d = 1 by unfold Pl.rsign; exact Pl.sg_of_pos (by have := Pl.ss_of_pos hp; have := Int.mul_pos (Pl.ss_of_pos hq) hd; omega)]
      exact sign24_pp p q d hp hq hd w
  · subst hd
    rw [Pl.rsign_flat0]
    rcases Int.lt_trichotomy p 0 with hp | hp | hp
    · rw [Pl.sg_of_neg hp]; exact sign24_d0n p q hp w
    · subst hp; exact sign24_d0z 0 q rfl w
    · rw [Pl.sg_of_pos hp]; exact sign24_d0p p q hp w
theorem coords25_any (x y : Int) (w : World) : Calls Try.prog 40 #[.int .i64 x, .int .i64 y] w fun e w' => e = .returned (.bool (decide (Pl.crd x ∧ Pl.crd y))) ∧ w = w' := by
  have C1 := Lib.hid (fun Z => coord24_any x Z)
  have C2 := Lib.hid (fun Z => coord24_any y Z)
  by_cases hx : Pl.crd x
  · rw [decide_eq_true hx] at C1
    by_cases hy : Pl.crd y
    · rw [decide_eq_true hy] at C2
      rw [decide_eq_true ⟨hx, hy⟩]
      clear hx hy
      go_enter Try.func40, Try.ntmps40
      go_wp2_with fail
      refine (C1.out _).mono ?_
      rintro e w1 ⟨rfl, rfl⟩
      go_wp2_with fail
      refine (C2.out _).mono ?_
      rintro e w1 ⟨rfl, rfl⟩
      go_wp2_with fail
      go_ret
      exact ⟨rfl, rfl⟩
    · rw [decide_eq_false hy] at C2
      rw [decide_eq_false (fun q => hy q.2)]
      clear hx hy
      go_enter Try.func40, Try.ntmps40
      go_wp2_with fail
      refine (C1.out _).mono ?_
      rintro e w1 ⟨rfl, rfl⟩
      go_wp2_with fail
      refine (C2.out _).mono ?_
      rintro e w1 ⟨rfl, rfl⟩
      go_wp2_with fail
      go_ret
      exact ⟨rfl, rfl⟩
  · rw [decide_eq_false hx] at C1
    rw [decide_eq_false (fun q => hx q.1)]
    clear hx
    go_enter Try.func40, Try.ntmps40
    go_wp2_with fail
    refine (C1.out _).mono ?_
    rintro e w1 ⟨rfl, rfl⟩
    go_wp2_with fail
    go_ret
    exact ⟨rfl, rfl⟩
end Go.Proofs.Ytnienpalbfgflaa
