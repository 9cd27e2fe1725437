/- The reference of layer 6: Fix of any number; the walk of tympanlaw6.NumtextTells. -/
import Derived.Test.YtpfkijjpophobaaQ6
namespace Go.Proofs.Ytpfkijjpophobaa
set_option linter.unusedVariables false
open Go.RowKit

theorem rmay3 (v : Int) (W : World) :
    Calls Try.prog 47 #[.int .i64 v] W fun e w' => e = .returned (.bool (decide (-1073741823 ≤ v ∧ v ≤ 1073741823))) ∧ W = w' := by
  go_enter Try.func47, Try.ntmps47
  go_wp2_with fail
  all_goals
    go_ret
    refine ⟨ret_bool ?_, rfl⟩
    first | (simp; done) | (simp; omega)
theorem Pl.fixAt_len (z : Int) : (Pl.fixAt [] z (Pl.fixK z)).length ≤ 100 := by
  unfold Pl.fixAt
  have h1 := Pl.dec_len (Pl.fixN z (Pl.fixK z) / ((10 ^ (Pl.fixK z) : Nat) : Int)).toNat
  have h2 := Pl.dec_len (Pl.fixN z (Pl.fixK z) % ((10 ^ (Pl.fixK z) : Nat) : Int)).toNat
  have h4 : Pl.fixK z ≤ 5 := (by
    unfold Pl.fixK
    repeat' split
    all_goals omega)
  unfold Pl.pad
  simp only [List.length_append, List.length_replicate, List.length_singleton, List.length_nil]
  omega
set_option maxHeartbeats 4000000 in
set_option maxRecDepth 100000 in
theorem rfix_in (v : Int) (h0 : 0 ≤ v) (h1 : v ≤ 1073741823) (W : World) :
    Calls Try.prog 21 #[.int .i64 v] W fun e w' => e = .returned (.string ⟨(Pl.fixAt [] v (Pl.fixK v)).toArray⟩) ∧ Grown W w' := by
  have CM := rmay3 v
  rw [decide_eq_true (show -1073741823 ≤ v ∧ v ≤ 1073741823 by omega)] at CM
  have CM := Lib.hid (fun Z => CM Z)
  go_enter Try.func21, Try.ntmps21
  go_wp2_with fail
  refine (CM.out _).mono ?_
  rintro e w1 ⟨rfl, rfl⟩
  go_wp2_with fail
  clear CM
  go_loopw [3] (fun s3 wr => ∃ k : Nat, s3 = .int .i64 (k : Int) ∧ 1 ≤ k ∧ k ≤ 5 ∧ Hid (∀ j, 1 ≤ j → j < k → ¬ Pl.fixOk v j) ∧ Hid (Grown W wr)) (fun s3 _ => (6 - intOf s3).toNat)
  case atStart => exact ⟨1, rfl, by omega, by omega, Lib.hid (fun j h1 h2 => by omega), Lib.hid (Grown.refl W)⟩
  case round =>
    obtain ⟨k, rfl, hk1, hk5, HJ, HG⟩ := hrel
    have CT := Lib.hid (fun Z => rten_any k (by omega) Z)
    have hb : 10 ^ k ≤ 10 ^ 5 := Nat.pow_le_pow_right (by omega) hk5
    have hb0 : 10 ^ 1 ≤ 10 ^ k := Nat.pow_le_pow_right (by omega) hk1
    have hn0 : 0 ≤ Pl.fixN v k := (Pl.nst_le _ _ (Int.mul_nonneg h0 (Int.natCast_nonneg _)) (by omega)).1
    have HN : Hid (Pl.fixN v k = Pl.nst (v * ((10 ^ k : Nat) : Int)) 65536) := Lib.hid rfl
    have HOK := Lib.hid (Pl.read_fixAt [] (.inl rfl) v h0 h1 k hk1 hk5)
    have HNO := Lib.hid (fun n hn hn1 => Pl.read_not v k hk1 hk5 h0 n hn hn1)
    have HPL := Lib.hid (Pl.plc_fixAt v k h0)
    obtain ⟨p, hp⟩ : ∃ p, p = 10 ^ k := ⟨_, rfl⟩
    rw [← hp] at CT hb hb0 HN
    have hp1 : 10 ≤ (p : Int) := by omega
    have hp2 : (p : Int) ≤ 100000 := by omega
    have m0 : 0 ≤ v * (p : Int) := Int.mul_nonneg h0 (by omega)
    have m1 : v * (p : Int) ≤ 1073741823 * 100000 := Int.mul_le_mul h1 hp2 (by omega) (by omega)
    have CD := Lib.hid (fun Z => muldiv_small v (p : Int) 65536 (v * (p : Int)) (by omega) (by omega) (by omega) rfl (by omega) Z)
    have hn1 : Pl.nst (v * (p : Int)) 65536 ≤ 1638400000 := by
      unfold Pl.nst
      split <;> omega
    rw [← HN.out] at CD hn1
    obtain ⟨n, hn⟩ : ∃ n : Nat, Pl.fixN v k = (n : Int) := ⟨(Pl.fixN v k).toNat, by omega⟩
    rw [hn] at CD hn1 HPL
    rw [Int.toNat_natCast] at HPL
    have HNO1 := Lib.hid (HNO.out n hn (by omega))
    have CP := Lib.hid (fun Z => places_any n k hk1 hk5 (by omega) Z)
    have CR := Lib.hid (fun Z => rread_any (Pl.plc n k) (by have := Pl.plc_len n k hk5; omega) Z)
    obtain ⟨B, hB⟩ : ∃ B, B = Pl.tx (Pl.plc n k) := ⟨_, rfl⟩
    have HB := Lib.hid hB
    have CP : Hid (∀ Z, Calls Try.prog 50 #[.int .i64 (n : Int), .int .i64 (k : Int)] Z fun e w' => e = .returned (.string B) ∧ Grown Z w') := Lib.hid (fun Z => by rw [hB]; exact CP.out Z)
    rw [← hB] at CR HNO1
    have HOK1 : Hid (Pl.fixOk v k → (Pl.read B).2.1 = v ∧ (Pl.read B).2.2 = 0) := Lib.hid (fun q => by
      have h := HOK.out q
      rw [HPL.out, ← hB] at h
      rw [h]
      exact ⟨rfl, rfl⟩)
    have HBF : Hid (Ending.returned (.string B) = Ending.returned (.string ⟨(Pl.fixAt [] v k).toArray⟩)) := Lib.hid (by rw [HB.out, HPL.out]; rfl)
    obtain ⟨R, hR⟩ : ∃ R, R = Pl.read B := ⟨_, rfl⟩
    rw [← hR] at CR HNO1 HOK1
    obtain ⟨x, y, z⟩ := R
    have CR : Hid (∀ Z, Calls Try.prog 19 #[.string B] Z fun e w' => e = .returned (.tuple #[.int .i64 x, .int .i64 y, .int .i64 z]) ∧ Grown Z w') := CR
    have HNO1 : Hid (¬ Pl.fixOk v k → z = 2 ∨ (z = 0 ∧ y ≠ v)) := HNO1
    have HOK1 : Hid (Pl.fixOk v k → y = v ∧ z = 0) := HOK1
    clear HOK HNO HPL HB hB hR hp hb hb0 HN hn hn0
    rcases Nat.lt_or_eq_of_le hk5 with hlt | rfl
    · by_cases hq : Pl.fixOk v k
      · obtain ⟨e1, e2⟩ := HOK1.out hq
        have HK : Hid (Pl.fixK v = k) := Lib.hid (Pl.fixK_of _ k hk1 hk5 hq HJ.out)
        subst e1 e2
        clear HOK1 HNO1 hq HJ
        go_wp2_with fail
        refine (CT.out _).mono ?_
        rintro e w2 ⟨rfl, rfl⟩
        go_wp2_with fail
        refine (CD.out _).mono ?_
        rintro e w3 ⟨rfl, g3⟩
        go_wp2_with fail
        refine (CP.out _).mono ?_
        rintro e w4 ⟨rfl, g4⟩
        go_wp2_with fail
        refine (CR.out _).mono ?_
        rintro e w5 ⟨rfl, g5⟩
        go_wp2_with fail
        go_ret
        rw [HK.out]
        exact ⟨HBF.out, grown_trans (grown_trans HG.out g3) (grown_trans g4 g5)⟩
      · have hno := HNO1.out hq
        have HJ' : Hid (∀ j, 1 ≤ j → j < k + 1 → ¬ Pl.fixOk v j) := Lib.hid (fun j h1 h2 => by
          rcases Nat.lt_or_eq_of_le (Nat.le_of_lt_succ h2) with h | h
          · exact HJ.out j h1 h
          · rw [h]; exact hq)
        clear HOK1 HNO1 HJ hq
        rcases hno with rfl | ⟨rfl, hne⟩
        · go_wp2_with fail
          refine (CT.out _).mono ?_
          rintro e w2 ⟨rfl, rfl⟩
          go_wp2_with fail
          refine (CD.out _).mono ?_
          rintro e w3 ⟨rfl, g3⟩
          go_wp2_with fail
          refine (CP.out _).mono ?_
          rintro e w4 ⟨rfl, g4⟩
          go_wp2_with fail
          refine (CR.out _).mono ?_
          rintro e w5 ⟨rfl, g5⟩
          go_wp2_with fail
          exact ⟨⟨k + 1, by simp, by omega, by omega, HJ', Lib.hid (grown_trans (grown_trans HG.out g3) (grown_trans g4 g5))⟩, by simp [intOf]; omega⟩
        · have hb : (y == v) = false := beq_eq_false_iff_ne.2 hne
          clear hne
          go_wp2_with fail
          refine (CT.out _).mono ?_
          rintro e w2 ⟨rfl, rfl⟩
          go_wp2_with fail
          refine (CD.out _).mono ?_
          rintro e w3 ⟨rfl, g3⟩
          go_wp2_with fail
          refine (CP.out _).mono ?_
          rintro e w4 ⟨rfl, g4⟩
          go_wp2_with fail
          refine (CR.out _).mono ?_
          rintro e w5 ⟨rfl, g5⟩
          go_wp2_with fail
          exact ⟨⟨k + 1, by simp, by omega, by omega, HJ', Lib.hid (grown_trans (grown_trans HG.out g3) (grown_trans g4 g5))⟩, by simp [intOf]; omega⟩
    · have HK : Hid (Pl.fixK v = 5) := Lib.hid (Pl.fixK_of _ 5 hk1 hk5 (Pl.fixOk5 v h0 h1) HJ.out)
      clear HOK1 HNO1 HJ CR
      go_wp2_with fail
      refine (CT.out _).mono ?_
      rintro e w2 ⟨rfl, rfl⟩
      go_wp2_with fail
      refine (CD.out _).mono ?_
      rintro e w3 ⟨rfl, g3⟩
      go_wp2_with fail
      refine (CP.out _).mono ?_
      rintro e w4 ⟨rfl, g4⟩
      go_wp2_with fail
      go_ret
      rw [HK.out]
      exact ⟨HBF.out, grown_trans (grown_trans HG.out g3) g4⟩
set_option maxRecDepth 100000 in
theorem rfix_any (v : Int) (hv : -9223372036854775808 ≤ v ∧ v ≤ 9223372036854775807) (W : World) :
    Calls Try.prog 21 #[.int .i64 v] W fun e w' => e = .returned (.string ⟨(Pl.fixText v).toArray⟩) ∧ Grown W w' := by
  obtain ⟨v0, v1⟩ := hv
  unfold Pl.fixText
  by_cases h : v < -1073741823 ∨ 1073741823 < v
  · rw [if_pos h]
    have CM := rmay3 v
    rw [decide_eq_false (show ¬ (-1073741823 ≤ v ∧ v ≤ 1073741823) by omega)] at CM
    have CM := Lib.hid (fun Z => CM Z)
    go_enter Try.func21, Try.ntmps21
    go_wp2_with fail
    refine (CM.out _).mono ?_
    rintro e w1 ⟨rfl, rfl⟩
    go_wp2_with fail
    go_ret
    exact ⟨rfl, Grown.refl _⟩
  · rw [if_neg h]
    by_cases hn : v < 0
    · have CM := rmay3 v
      rw [decide_eq_true (show -1073741823 ≤ v ∧ v ≤ 1073741823 by omega)] at CM
      have CM := Lib.hid (fun Z => CM Z)
      have CF := Lib.hid (fun Z => rfix_in (-v) (by omega) (by omega) Z)
      have HS : Hid (Pl.fixAt (Pl.sgn v) (Pl.mg v) (Pl.fixK (Pl.mg v)) = [45] ++ Pl.fixAt [] (-v) (Pl.fixK (-v))) := Lib.hid (by
        unfold Pl.sgn Pl.mg Pl.fixAt
        rw [if_pos hn, if_pos hn]
        simp)
      have hl := Pl.fixAt_len (-v)
      obtain ⟨D, hD⟩ : ∃ D : ByteArray, D = ⟨(Pl.fixAt [] (-v) (Pl.fixK (-v))).toArray⟩ := ⟨_, rfl⟩
      rw [← hD] at CF
      have hDs : D.size ≤ 100 := by rw [hD]; simpa [ByteArray.size] using hl
      have HD := Lib.hid hD
      obtain ⟨R, hR⟩ : ∃ R : ByteArray, R = ByteArray.mk #[45] ++ D := ⟨_, rfl⟩
      have hLB : ByteArray.mk #[45] ++ D = R := hR.symm
      have hsz : ¬ (9223372036854775807 < (ByteArray.mk #[45]).size + D.size) := by rw [show (ByteArray.mk #[45]).size = 1 from rfl]; omega
      have HR : Hid (R = ⟨(Pl.fixAt (Pl.sgn v) (Pl.mg v) (Pl.fixK (Pl.mg v))).toArray⟩) := Lib.hid (by
        rw [HS.out, hR, hD]
        apply ByteArray.ext
        simp)
      obtain ⟨u, hu⟩ : ∃ u, -v = u := ⟨_, rfl⟩
      rw [hu] at CF
      have hu0 : 0 < u := by omega
      have hu1 : u ≤ 1073741823 := by omega
      have hwr : IntKind.i64.wrap (-v) = u := by rw [hu, IntKind.wrap_i64]; omega
      clear hD hl hR HS HD h
      go_enter Try.func21, Try.ntmps21
      go_wp2_with fail
      refine (CM.out _).mono ?_
      rintro e w1 ⟨rfl, rfl⟩
      go_wp2_with fail
      refine (CF.out _).mono ?_
      rintro e w2 ⟨rfl, g2⟩
      go_wp2_with fail
      go_ret
      refine ⟨?_, g2⟩
      show Ending.returned (.string R) = _
      rw [HR.out]
    · have e : Pl.fixAt (Pl.sgn v) (Pl.mg v) (Pl.fixK (Pl.mg v)) = Pl.fixAt [] v (Pl.fixK v) := by
        unfold Pl.sgn Pl.mg
        rw [if_neg hn, if_neg hn]
      rw [e]
      exact rfix_in v (by omega) (by omega) W
end Go.Proofs.Ytpfkijjpophobaa
