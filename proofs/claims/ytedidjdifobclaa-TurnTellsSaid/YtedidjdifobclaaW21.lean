/- The walk of tympanref4.Dir. -/
import Derived.Test.YtedidjdifobclaaW20
namespace Go.Proofs.Ytedidjdifobclaa
set_option linter.unusedVariables false
open Go.RowKit

theorem Pl.share_comm (a b d : Int) : Pl.share a b d = Pl.share b a d := by
  unfold Pl.share Pl.sgn3
  rw [Int.mul_comm (Pl.mag a) (Pl.mag b)]
  cases decide (a < 0) <;> cases decide (b < 0) <;> rfl
theorem Pl.share_all (a : Int) (h : 0 < a) : Pl.share a 65536 a = 65536 := by rw [Pl.share_comm]; exact Pl.share_self 65536 a (by omega)

theorem Pl.cs0 : Pl.cos 5898240 = 0 ∧ Pl.sin 5898240 = 65536 ∧ Pl.cos 11796480 = -65536 ∧ Pl.sin 11796480 = 0 ∧ Pl.cos 17694720 = 0 ∧ Pl.sin 17694720 = -65536 ∧ Pl.cos 23592960 = 65536 ∧ Pl.sin 23592960 = 0 := by decide +kernel
theorem Pl.g90 (y x : Int) (h : ¬ (y = 0 ∧ x = 0)) : Pl.gAt y x 90 < 0 := by
  obtain ⟨c1, s1, c2, s2, c3, s3, c4, s4⟩ := Pl.cs0
  unfold Pl.gAt Pl.ahead
  have hb : Pl.begin y x = if 0 < x ∧ 0 ≤ y then 0 else if x ≤ 0 ∧ 0 < y then 5898240 else if x < 0 then 11796480 else 17694720 := rfl
  split at hb
  · rw [hb, show (0 : Int) + ((90 : Nat) : Int) * 65536 = 5898240 from by decide, c1, s1]; omega
  · split at hb
    · rw [hb, show (5898240 : Int) + ((90 : Nat) : Int) * 65536 = 11796480 from by decide, c2, s2]; omega
    · split at hb
      · rw [hb, show (11796480 : Int) + ((90 : Nat) : Int) * 65536 = 17694720 from by decide, c3, s3]; omega
      · rw [hb, show (17694720 : Int) + ((90 : Nat) : Int) * 65536 = 23592960 from by decide, c4, s4]; omega

theorem between4_any (d a f : Int) (hd : 0 ≤ d ∧ d ≤ 33000000) (ha : 0 < a) (ha' : a ≤ 140737488355328) (hf : f ≤ 0) (hf' : -140737488355328 ≤ f) (w : World) :
    Calls Try.prog 103 #[.int .i64 d, .int .i64 a, .int .i64 f] w fun e w' => e = .returned (.int .i64 ((d + Pl.share a 65536 (a - f)) % 23592960)) ∧ Grown w w' := by
  have hs := Pl.share_part a (a - f) ha (by omega)
  have M := Lib.hid (fun w => rmuldiv_ok a 65536 (a - f) (by unfold Pl.i64; omega) (by decide) (by unfold Pl.i64; omega) (by omega) (by unfold Pl.i64; omega) w)
  obtain ⟨s, hh⟩ : ∃ s, Pl.share a 65536 (a - f) = s := ⟨_, rfl⟩
  have M := M.out
  rw [hh] at M hs
  rw [hh]
  have M := Lib.hid M
  have t1 : (d + s).tmod 23592960 = (d + s) % 23592960 := Int.tmod_eq_emod_of_nonneg (by omega)
  clear hh
  go_enter Try.func103, Try.ntmps103
  go_wp2_with fail
  refine (M.out _).mono ?_
  rintro e w1 ⟨rfl, g1⟩
  go_wp2_with fail
  go_ret
  exact ⟨rfl, g1⟩

theorem dir4_no (y x : Int) (h : (y = 0 ∧ x = 0) ∨ ¬ (-1073741823 ≤ y ∧ y ≤ 1073741823) ∨ ¬ (-1073741823 ≤ x ∧ x ≤ 1073741823)) (w : World) :
    Calls Try.prog 69 #[.int .i64 y, .int .i64 x] w fun e w' => e = .returned (.tuple #[.int .i64 0, .bool false]) ∧ Grown w w' := by
  by_cases hz : y = 0 ∧ x = 0
  · obtain ⟨rfl, rfl⟩ := hz
    go_enter Try.func69, Try.ntmps69
    go_wp2_with fail
    go_ret2
    exact ⟨rfl, Grown.refl _⟩
  have hc : ((x == 0) = false ∧ (y == y) = true) ∨ ((x == 0) = true ∧ (y == 0) = false) := by
    by_cases c : x = 0
    · exact .inr ⟨beq_iff_eq.2 c, beq_eq_false_iff_ne.2 (fun e => hz ⟨e, c⟩)⟩
    · exact .inl ⟨beq_eq_false_iff_ne.2 c, by simp⟩
  by_cases hx : Pl.fx x
  · have hy : ¬ Pl.fx y := by unfold Pl.fx at *; omega
    have A := Lib.hid (r3may_yes x hx)
    have B := Lib.hid (r3may_no y hy)
    clear h hz hx hy
    rcases hc with ⟨h0, h1⟩ | ⟨h0, h1⟩
    all_goals
      go_enter Try.func69, Try.ntmps69
      go_wp2_with fail
      refine (A.out _).mono ?_
      rintro e w1 ⟨rfl, rfl⟩
      go_wp2_with fail
      refine (B.out _).mono ?_
      rintro e w1 ⟨rfl, rfl⟩
      go_wp2_with fail
      go_ret2
      exact ⟨rfl, Grown.refl _⟩
  · have A := Lib.hid (r3may_no x hx)
    clear h hz hx
    rcases hc with ⟨h0, h1⟩ | ⟨h0, h1⟩
    all_goals
      go_enter Try.func69, Try.ntmps69
      go_wp2_with fail
      refine (A.out _).mono ?_
      rintro e w1 ⟨rfl, rfl⟩
      go_wp2_with fail
      go_ret2
      exact ⟨rfl, Grown.refl _⟩

set_option maxRecDepth 100000 in
set_option maxHeartbeats 4000000 in
theorem dir4_core (y x low : Int) (J : Nat) (hy : -1073741823 ≤ y ∧ y ≤ 1073741823) (hx : -1073741823 ≤ x ∧ x ≤ 1073741823) (hz : ¬ (y = 0 ∧ x = 0)) (h0 : ((x == 0) = false ∧ (y == y) = true) ∨ ((x == 0) = true ∧ (y == 0) = false))
    (hl : Hid (Pl.begin y x = low)) (hJ : Hid (Pl.dirJ y x = J)) (w : World) :
    Calls Try.prog 69 #[.int .i64 y, .int .i64 x] w fun e w' => e = .returned (.tuple #[.int .i64 (Pl.dir y x), .bool true]) ∧ Grown w w' := by
  have hlb := Pl.begin_bd y x
  rw [hl.out] at hlb
  have CA := Lib.hid (fun (j : Nat) (W : World) => (show Calls Try.prog 102 #[.int .i64 (low + (j : Int) * 65536), .int .i64 y, .int .i64 x] W fun e w' => e = .returned (.int .i64 (Pl.gAt y x j)) ∧ Grown W w' from by
    have := side4_any (low + (j : Int) * 65536) y x hy hx W
    unfold Pl.gAt Pl.ahead
    rw [hl.out]
    exact this))
  have A := Lib.hid (r3may_yes x hx)
  have B := Lib.hid (r3may_yes y hy)
  have QU := fun w => quarter4_any y x w
  rw [hl.out] at QU
  have QU := Lib.hid QU
  have hG := Lib.hid (fun j => Pl.gAt_bd y x j hy hx)
  have g90 := Lib.hid (Pl.g90 y x hz)
  have hd : Pl.dir y x = if Pl.gAt y x 0 ≤ 0 then Pl.begin y x else Pl.dirEnd y x (Pl.dirJ y x) := rfl
  rw [hl.out, hJ.out] at hd
  have HD := Lib.hid hd; clear hd
  have hst : Hid (Pl.stopFrom (Pl.gAt y x) 90 1 = J) := hJ.out
  have hes : ∀ j : Nat, 1 ≤ j → 0 < Pl.gAt y x (j - 1) → Pl.gAt y x j ≤ 0 → Pl.dirEnd y x j = (low + ((j : Int) - 1) * 65536 + Pl.share (Pl.gAt y x (j - 1)) 65536 (Pl.gAt y x (j - 1) - Pl.gAt y x j)) % 23592960 := by
    intro j h1 hp hn
    unfold Pl.dirEnd
    rw [hl.out]
    split
    · congr 1; omega
    · rw [show Pl.gAt y x (j - 1) - Pl.gAt y x j = Pl.gAt y x (j - 1) from by omega, Pl.share_all _ hp]
      congr 1; omega
  have HE := Lib.hid hes; clear hes
  have e0 : low + ((0 : Nat) : Int) * 65536 = low := by omega
  have C0 := fun W => CA.out 0 W
  rw [e0] at C0
  have C0 := Lib.hid C0
  have e90 : low + ((90 : Nat) : Int) * 65536 = low + 5898240 := by omega
  have C90 := fun W => CA.out 90 W
  rw [e90] at C90
  have C90 := Lib.hid C90
  clear e0 e90 hy hx hz
  generalize Pl.gAt y x = G at *
  have hG0 := hG.out 0
  by_cases hle : G 0 ≤ 0
  · have HR := Lib.hid (HD.out.trans (if_pos hle))
    rcases h0 with ⟨h0, h1⟩ | ⟨h0, h1⟩
    all_goals
      go_enter Try.func69, Try.ntmps69
      go_wp2_with fail
      refine (A.out _).mono ?_
      rintro e w1 ⟨rfl, rfl⟩
      go_wp2_with fail
      refine (B.out _).mono ?_
      rintro e w1 ⟨rfl, rfl⟩
      go_wp2_with fail
      refine (QU.out _).mono ?_
      rintro e w1 ⟨rfl, rfl⟩
      go_wp2_with fail
      refine (C0.out _).mono ?_
      rintro e w1 ⟨rfl, g1⟩
      go_wp2_with fail
      go_ret2
      exact ⟨ret_ib (by rw [HR.out]) rfl, g1⟩
  · have HR := Lib.hid (HD.out.trans (if_neg hle))
    have hpos : 0 < G 0 := by omega
    clear hle
    rcases h0 with ⟨h0, h1⟩ | ⟨h0, h1⟩
    all_goals
      go_enter Try.func69, Try.ntmps69
      go_wp2_with fail
      refine (A.out _).mono ?_
      rintro e w1 ⟨rfl, rfl⟩
      go_wp2_with fail
      refine (B.out _).mono ?_
      rintro e w1 ⟨rfl, rfl⟩
      go_wp2_with fail
      refine (QU.out _).mono ?_
      rintro e w1 ⟨rfl, rfl⟩
      go_wp2_with fail
      refine (C0.out _).mono ?_
      rintro e w1 ⟨rfl, g1⟩
      go_wp2_with fail
      go_loopw [7, 8] (fun was k wr => ∃ (j : Nat), 1 ≤ j ∧ j ≤ 90 ∧ k = .int .i64 (j : Int) ∧ was = .int .i64 (G (j - 1)) ∧ 0 < G (j - 1) ∧ Hid (Pl.stopFrom G (91 - j) j = J) ∧ Grown w wr)
        (fun _ k _ => (90 - intOf k).toNat)
      case atStart => exact ⟨1, by omega, by omega, rfl, rfl, hpos, hst, g1⟩
      case round =>
        obtain ⟨j, hj1, hj2, rfl, rfl, hwas, HST, hg⟩ := hrel
        have hgj := hG.out j
        have hgw := hG.out (j - 1)
        have hunf : Pl.stopFrom G (91 - j) j = if 0 < G j ∧ j < 90 then Pl.stopFrom G (91 - (j + 1)) (j + 1) else j := by
          rw [show 91 - j = (91 - (j + 1)) + 1 by omega]; rfl
        have HU := Lib.hid (hunf.symm.trans HST.out); clear hunf
        by_cases c9 : j < 90
        · have CJ := Lib.hid (fun W => CA.out j W)
          by_cases c : 0 < G j
          · have HJ := HU.out
            rw [if_pos ⟨c, c9⟩] at HJ
            have HJ' := Lib.hid HJ; clear HJ
            go_wp2_with fail
            refine (CJ.out _).mono ?_
            rintro e w2 ⟨rfl, g2⟩
            go_wp2_with fail
            go_roundw
            case rel => exact ⟨j + 1, by omega, by omega, by go_num, rfl, c, HJ'.out, grown_trans hg g2⟩
            case measure => simp [intOf] <;> omega
          · have HJ := HU.out
            rw [if_neg (fun h => c h.1)] at HJ
            subst HJ
            have HEJ := Lib.hid (HE.out j hj1 hwas (by omega))
            have BT := Lib.hid (fun W => between4_any (low + ((j : Int) - 1) * 65536) (G (j - 1)) (G j) (by omega) hwas (by omega) (by omega) (by omega) W)
            go_wp2_with fail
            refine (CJ.out _).mono ?_
            rintro e w2 ⟨rfl, g2⟩
            go_wp2_with fail
            refine (BT.out _).mono ?_
            rintro e w3 ⟨rfl, g3⟩
            go_wp2_with fail
            go_ret2
            exact ⟨ret_ib (by rw [HR.out, HEJ.out]) rfl, grown_trans hg (grown_trans g2 g3)⟩
        · obtain rfl : j = 90 := by omega
          have HJ := HU.out
          rw [if_neg (fun h => c9 h.2)] at HJ
          subst HJ
          have HEJ := Lib.hid (HE.out 90 (by omega) hwas (by have := g90.out; omega))
          have BT := Lib.hid (fun W => between4_any (low + 5832704) (G 89) (G 90) (by omega) hwas (by have := hG.out 89; omega) (by have := g90.out; omega) (by have := hG.out 90; omega) W)
          go_wp2_with fail
          refine (C90.out _).mono ?_
          rintro e w2 ⟨rfl, g2⟩
          go_wp2_with fail
          refine (BT.out _).mono ?_
          rintro e w3 ⟨rfl, g3⟩
          go_wp2_with fail
          go_ret2
          exact ⟨ret_ib (by rw [HR.out, HEJ.out]; rfl) rfl, grown_trans hg (grown_trans g2 g3)⟩

theorem dir4_ok (y x : Int) (hy : -1073741823 ≤ y ∧ y ≤ 1073741823) (hx : -1073741823 ≤ x ∧ x ≤ 1073741823) (h : ¬ (y = 0 ∧ x = 0)) (w : World) :
    Calls Try.prog 69 #[.int .i64 y, .int .i64 x] w fun e w' => e = .returned (.tuple #[.int .i64 (Pl.dir y x), .bool true]) ∧ Grown w w' := by
  refine dir4_core y x _ _ hy hx h ?_ (Lib.hid rfl) (Lib.hid rfl) w
  by_cases h0 : x = 0
  · exact .inr ⟨beq_iff_eq.2 h0, beq_eq_false_iff_ne.2 (fun h1 => h ⟨h1, h0⟩)⟩
  · exact .inl ⟨beq_eq_false_iff_ne.2 h0, by simp⟩

theorem dir2_ex (y x : Int) : ∃ (v : Int) (ok : Bool),
    (∀ w, Calls Try.prog 52 #[.int .i64 y, .int .i64 x] w fun e w' => e = .returned (.tuple #[.int .i64 v, .bool ok]) ∧ Grown w w') ∧
    (∀ w, Calls Try.prog 69 #[.int .i64 y, .int .i64 x] w fun e w' => e = .returned (.tuple #[.int .i64 v, .bool ok]) ∧ Grown w w') := by
  by_cases hy : -1073741823 ≤ y ∧ y ≤ 1073741823
  · by_cases hx : -1073741823 ≤ x ∧ x ≤ 1073741823
    · by_cases hz : y = 0 ∧ x = 0
      · exact ⟨0, false, fun w => dir_no y x (.inl hz) w, fun w => dir4_no y x (.inl hz) w⟩
      · exact ⟨_, true, fun w => dir_ok y x hy hx hz w, fun w => dir4_ok y x hy hx hz w⟩
    · exact ⟨0, false, fun w => dir_no y x (.inr (.inr hx)) w, fun w => dir4_no y x (.inr (.inr hx)) w⟩
  · exact ⟨0, false, fun w => dir_no y x (.inr (.inl hy)) w, fun w => dir4_no y x (.inr (.inl hy)) w⟩
end Go.Proofs.Ytedidjdifobclaa
