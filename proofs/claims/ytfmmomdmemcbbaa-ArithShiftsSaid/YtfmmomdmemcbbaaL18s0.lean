/- ArithShifts: the walk where the shift is out of range. -/
import Derived.Test.YtfmmomdmemcbbaaL18m
import Derived.Test.YtfmmomdmemcbbaaA16
import Derived.Test.YtfmmomdmemcbbaaCls
import Derived.Deep.QuietTactic
import Derived.Deep.Cut
namespace Go.Proofs.Ytfmmomdmemcbbaa
set_option linter.unusedVariables false
open Go.RowKit

theorem Pl.doR_31 (L : List Pl.Ob) : Pl.doR L 31 = Pl.twoR L 31 := by unfold Pl.doR; simp
theorem Pl.shift_form (x k : Int) : Pl.doR [Pl.intO x, Pl.intO k] 31 = (if k < 0 then Pl.wholeR [Pl.intO x, Pl.intO k] 2 (x / 2 ^ (if 63 < -k then 63 else -k).toNat) else if 31 < k then (if x = 0 then Pl.wholeR [Pl.intO x, Pl.intO k] 2 0 else (2, [Pl.intO x, Pl.intO k])) else Pl.wholeR [Pl.intO x, Pl.intO k] 2 (x * 2 ^ k.toNat)) := by
  rw [Pl.doR_31, Pl.two_form (Pl.intO x) (Pl.intO k) 31 (show Pl.fits (Pl.kinds2 31) 3 = true by decide) (show Pl.fits (Pl.kinds2 31) 3 = true by decide)]
  unfold Pl.twoI
  rw [if_neg (by decide), if_neg (by simp [Pl.intO]), if_neg (by decide), if_pos rfl]
  rfl
theorem Pl.wholeR_in (L : List Pl.Ob) (a b : Pl.Ob) (v : Int) (h : Pl.inInt v) : Pl.wholeR [a, b] 2 v = (0, [Pl.intO v]) := by
  unfold Pl.wholeR
  rw [if_pos h]
  rfl
theorem Pl.pow31 (j : Nat) (h : j ≤ 31) : (1 : Int) ≤ 2 ^ j ∧ (2 : Int) ^ j ≤ 2147483648 := by
  have h1 : (0 : Int) < 2 ^ j := Int.pow_pos (by decide)
  have h2 : (2 : Int) ^ j ≤ 2 ^ 31 := by
    have := Nat.pow_le_pow_right (n := 2) (by decide) h
    exact_mod_cast this
  have e : (2 : Int) ^ 31 = 2147483648 := by decide
  omega
theorem shift_up (x k P : Int) (hk : 0 ≤ k ∧ k ≤ 31) (hP : P = 2 ^ k.toNat) (h : Pl.inInt (x * P)) : Pl.doR [Pl.intO x, Pl.intO k] 31 = (0, [Pl.intO (x * P)]) := by
  rw [Pl.shift_form, if_neg (by omega), if_neg (by omega), ← hP, Pl.wholeR_in [] _ _ _ h]
theorem shift_over (x k P : Int) (hk : 0 ≤ k ∧ k ≤ 31) (hP : P = 2 ^ k.toNat) (h : ¬ Pl.inInt (x * P)) : Pl.doR [Pl.intO x, Pl.intO k] 31 = (2, [Pl.intO x, Pl.intO k]) := by
  rw [Pl.shift_form, if_neg (by omega), if_neg (by omega), ← hP]
  unfold Pl.wholeR
  rw [if_neg h]
theorem shift_down (x k P : Int) (hk : 0 ≤ k ∧ k ≤ 31) (hP : P = 2 ^ k.toNat) (hb : Pl.inInt (x / P)) : Pl.doR [Pl.intO x, Pl.intO (-k)] 31 = (0, [Pl.intO (x / P)]) := by
  rw [Pl.shift_form]
  by_cases h : k = 0
  · subst h
    have hP1 : P = 1 := by rw [hP]; rfl
    subst hP1
    rw [if_neg (by omega), if_neg (by omega)]
    rw [Int.ediv_one] at hb ⊢
    rw [show x * 2 ^ ((-0 : Int)).toNat = x by simp]
    exact Pl.wholeR_in [] _ _ _ hb
  · rw [if_pos (by omega), if_neg (by omega), show (-(-k)).toNat = k.toNat by omega, ← hP]
    exact Pl.wholeR_in [] _ _ _ hb
theorem Pl.div_in (x P : Int) (hx : Pl.inInt x) (hP : 1 ≤ P ∧ P ≤ 2147483648) : Pl.inInt (x / P) ∧ (x / P) * P ≤ x ∧ x < (x / P + 1) * P := by
  have h1 := Int.mul_ediv_add_emod x P
  have h2 := Int.emod_nonneg x (show P ≠ 0 by omega)
  have h3 := Int.emod_lt_of_pos x (show 0 < P by omega)
  have e : (x / P + 1) * P = (x / P) * P + P := by rw [Int.add_mul, Int.one_mul]
  have e2 : (x / P) * P = P * (x / P) := Int.mul_comm _ _
  refine ⟨?_, by omega, by omega⟩
  unfold Pl.inInt at hx ⊢
  constructor
  · exact (Int.le_ediv_iff_mul_le (by omega)).2 (by have := Int.mul_le_mul_of_nonneg_left hP.1 (show (0 : Int) ≤ 2147483647 by decide); omega)
  · have := Int.ediv_le_ediv (show 0 < P by omega) hx.2
    have h4 : (2147483647 : Int) / P ≤ 2147483647 := Int.ediv_le_self _ (by decide)
    omega
theorem Pl.mul_in (x P : Int) (hx : Pl.inInt x) (hP : 1 ≤ P ∧ P ≤ 2147483648) : -4611686018427387904 ≤ x * P ∧ x * P ≤ 4611686018427387904 := by
  unfold Pl.inInt at hx
  have h1 : x * P ≤ 2147483648 * P := Int.mul_le_mul_of_nonneg_right (by omega) (by omega)
  have h2 : -2147483648 * P ≤ x * P := Int.mul_le_mul_of_nonneg_right (by omega) (by omega)
  omega
set_option maxHeartbeats 8000000 in
set_option maxRecDepth 100000 in
theorem walk_shift_over (a b : Int) (ha : -2147483648 ≤ a ∧ a ≤ 2147483647) (hb : 0 ≤ b ∧ b ≤ 255) (x k P v : Int) (hx : (-2147483647 ≤ a ∧ x = a) ∨ (a = -2147483648 ∧ x = -2147483647)) (hk : b.tmod 32 = k) (hP : Hid (P = 2 ^ k.toNat)) (hv : x * P = v) (hc : ¬ Pl.inInt v) (w : World) :
    Calls Try.prog 5 #[.int .i32 a, .int .u8 b] w fun en w' => en = .returned (.bool true) ∧ Kept w w' := by
  have bk : 0 ≤ k ∧ k ≤ 31 := by rw [Int.tmod_eq_emod_of_nonneg hb.1] at hk; omega
  have bx : Pl.inInt x := by unfold Pl.inInt; omega
  have bP : 1 ≤ P ∧ P ≤ 2147483648 := by rw [hP.out]; exact Pl.pow31 _ (by omega)
  have bv := Pl.mul_in x P bx bP
  rw [hv] at bv
  obtain ⟨m, hm⟩ : ∃ m, x / P = m := ⟨_, rfl⟩
  obtain ⟨bm, m1, m2⟩ := Pl.div_in x P bx bP
  have D2 := shift_down x k P bk hP.out bm
  rw [hm] at bm m1 m2 D2
  have bm1 := Pl.mul_in m P bm bP
  obtain ⟨mP, hmP⟩ : ∃ q, m * P = q := ⟨_, rfl⟩
  obtain ⟨mQ, hmQ⟩ : ∃ q, (m + 1) * P = q := ⟨_, rfl⟩
  have emq : mQ = mP + P := by rw [← hmQ, ← hmP, Int.add_mul, Int.one_mul]
  rw [hmP] at m1 bm1
  rw [hmQ] at m2
  have D1 := shift_over x k P bk hP.out (by rw [hv]; exact hc)
  have mx := Pl.may_intO (v := x) bx
  have mk := Pl.may_intO (v := k) (by unfold Pl.inInt; omega)
  have mn := Pl.may_intO (v := -k) (by unfold Pl.inInt; omega)
  have R1 := Lib.hid (fun Z b (hA : RowV Z (.slice (some ⟨b, 0, none⟩) 2 2) [Pl.intO x, Pl.intO k]) => run18o Z b [Pl.intO x, Pl.intO k] 2 rfl hA (Pl.may_two mx mk) (by simp) ⟨#[98, 105, 116, 115, 104, 105, 102, 116]⟩ 31 op_bitshift 2 [Pl.intO x, Pl.intO k] D1)
  have R2 := Lib.hid (fun Z b (hA : RowV Z (.slice (some ⟨b, 0, none⟩) 2 2) [Pl.intO x, Pl.intO (-k)]) => run18 Z b [Pl.intO x, Pl.intO (-k)] 2 rfl hA (Pl.may_two mx mn) (by simp) ⟨#[98, 105, 116, 115, 104, 105, 102, 116]⟩ 31 op_bitshift 0 [Pl.intO m] D2)
  clear D1 D2 mx mk mn hm
  have NX := Lib.hid (fun Z => num18 x Z)
  have NK := Lib.hid (fun Z => num18 k Z)
  have NM := Lib.hid (fun Z => num18 (-k) Z)
  have NV := Lib.hid (fun Z => num18 v Z)
  unfold Pl.intO at NX NK NM NV
  unfold Pl.inInt at bx bm hc
  have K := Lib.hid known18
  have wn : IntKind.i64.wrap (-k) = -k := by unfold IntKind.wrap IntKind.bits IntKind.signed; simp; omega
  have wv : IntKind.i64.wrap v = v := by unfold IntKind.wrap IntKind.bits IntKind.signed; simp; omega
  have wp' : IntKind.i64.wrap mP = mP := by unfold IntKind.wrap IntKind.bits IntKind.signed; simp; omega
  have wq : IntKind.i64.wrap mQ = mQ := by unfold IntKind.wrap IntKind.bits IntKind.signed; simp; omega
  go_enter Try.func5, Try.ntmps5
  go_wp2_with fail
  refine (K.out _).mono ?_
  rintro en w0 ⟨rfl, f0⟩
  have F0 := Lib.hid f0
  clear f0 K
  go_upto_region 3 with fail
  go_cut [5, 6] (fun sa sb wx => sa = .int .i64 x ∧ sb = .int .i64 k ∧ Hid (Fr (fun _ => False) w wx))
  case first =>
    rcases hx with ⟨hx0, rfl⟩ | ⟨rfl, rfl⟩
    all_goals
      go_wp2_with fail
      go_meet
      case rel => exact ⟨by go_num, by go_num, F0⟩
  case rest =>
    obtain ⟨rfl, rfl, F1⟩ := hcut
    clear F0
    rename World => wx
    have F0 := F1
    clear F1 hx
    go_wp2_with fail
    go_loop [7, 9] (fun p i => ∃ (I q : Int), p = .int .i64 q ∧ i = .int .i64 I ∧ 0 ≤ I ∧ I ≤ k ∧ 1 ≤ q ∧ q ≤ 2147483648 ∧ Hid (q = 2 ^ I.toNat)) (fun _ i => (k - intOf i).toNat)
    case atStart => exact ⟨0, 1, rfl, rfl, by omega, by omega, by omega, by omega, Lib.hid rfl⟩
    case round =>
      obtain ⟨I, q, rfl, rfl, hI0, hI, hq1, hq2, hq⟩ := hrel
      by_cases hlt : I < k
      · have hpw := Pl.pow31 (I.toNat + 1) (by omega)
        rw [Int.pow_succ, ← hq.out] at hpw
        go_wp2_with fail
        go_round
        case rel => exact ⟨I + 1, 2 * q, by go_num, by go_num, by omega, by omega, by omega, by omega, Lib.hid (by rw [show (I + 1).toNat = I.toNat + 1 by omega, Int.pow_succ, ← hq.out]; omega)⟩
        case measure => simp [intOf] <;> omega
      · have hIk : k = I := by omega
        have hqP : q = P := by rw [hq.out, hP.out, hIk]
        clear hq
        subst hqP
        subst hIk
        go_wp2_with fail
        refine (NX.out _).mono ?_
        rintro en u1 ⟨rfl, h1⟩
        go_wp2_with fail
        refine (NK.out _).mono ?_
        rintro en u2 ⟨rfl, h2⟩
        have RV0 := Lib.hid (row_new u2 [Pl.intO x, Pl.intO k] #[.int .i64 3, .bool false, .int .i64 x, .int .i64 0, .int .i64 0, .string ⟨#[]⟩, .int .i64 3, .bool false, .int .i64 k, .int .i64 0, .int .i64 0, .string ⟨#[]⟩] rfl 2 rfl)
        have F2 := Lib.hid (((F0.out.trans (Fr.of_grown _ h1)).trans (Fr.of_grown _ h2)).trans (Fr.alloc (fun _ => False) u2 (.cells #[.int .i64 3, .bool false, .int .i64 x, .int .i64 0, .int .i64 0, .string ⟨#[]⟩, .int .i64 3, .bool false, .int .i64 k, .int .i64 0, .int .i64 0, .string ⟨#[]⟩] 24)))
        clear h1 h2 F0 NK
        obtain ⟨B, hB⟩ : ∃ B, B = u2.heap.size := ⟨_, rfl⟩
        go_wp2_with fail
        rw [← hB] at RV0 ⊢
        clear hB
        generalize hZ0 : u2.alloc (.cells #[.int .i64 3, .bool false, .int .i64 x, .int .i64 0, .int .i64 0, .string ⟨#[]⟩, .int .i64 3, .bool false, .int .i64 k, .int .i64 0, .int .i64 0, .string ⟨#[]⟩] 24) = Z0 at *
        clear hZ0
        refine (R1.out _ _ RV0.out).mono ?_
        rintro en w1 ⟨z1, rfl, ro, oo, ow, fo⟩
        obtain ⟨ao1, cp1, rfl, hr1⟩ := ro
        have F3 := Lib.hid (F2.out.trans fo)
        clear hr1 oo ow fo F2 RV0 R1
        go_wp2_with fail
        refine (NX.out _).mono ?_
        rintro en u3 ⟨rfl, h3⟩
        go_wp2_with fail
        refine (NM.out _).mono ?_
        rintro en u4 ⟨rfl, h4⟩
        have RV1 := Lib.hid (row_new u4 [Pl.intO x, Pl.intO (-k)] #[.int .i64 3, .bool false, .int .i64 x, .int .i64 0, .int .i64 0, .string ⟨#[]⟩, .int .i64 3, .bool false, .int .i64 (-k), .int .i64 0, .int .i64 0, .string ⟨#[]⟩] rfl 2 rfl)
        have F4 := Lib.hid (((Fr.of_grown (fun _ => False) h3).trans (Fr.of_grown _ h4)).trans (Fr.alloc (fun _ => False) u4 (.cells #[.int .i64 3, .bool false, .int .i64 x, .int .i64 0, .int .i64 0, .string ⟨#[]⟩, .int .i64 3, .bool false, .int .i64 (-k), .int .i64 0, .int .i64 0, .string ⟨#[]⟩] 24)))
        clear h3 h4
        go_wp2_with fail
        refine (R2.out _ _ RV1.out).mono ?_
        rintro en w2 ⟨z2, rfl, ro, oo, fo⟩
        obtain ⟨g2, cp2, rfl, hcp2, hg2, ⟨d0, d1, d2, d3, d4, d5⟩⟩ := row_get1 ro oo
        have FF := Lib.hid (F4.out.trans fo)
        clear ro oo fo F4 RV1 R2
        have hv1 : v < -2147483647 ∨ (-2147483647 ≤ v ∧ 2147483647 < v) := by omega
        clear hc
        rcases hv1 with hv1 | ⟨hv1, hv2⟩
        all_goals
          go_wp2_with fail
          go_ret
          exact ⟨rfl, Kept.of_fr (F3.out.trans FF.out)⟩
end Go.Proofs.Ytfmmomdmemcbbaa
