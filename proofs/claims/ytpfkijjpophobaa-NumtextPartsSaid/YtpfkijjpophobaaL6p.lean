/- The walk of tympanlaw6.NumtextParts. -/
import Derived.Test.YtpfkijjpophobaaN16
namespace Go.Proofs.Ytpfkijjpophobaa
set_option linter.unusedVariables false
open Go.RowKit

theorem sign_at0 (W : World) : (Instr.index 34 (.agg #[.string ⟨#[]⟩, .string ⟨#[43]⟩, .string ⟨#[45]⟩]) (.int .u8 0)).run Try.prog W = .ok (.string ⟨#[]⟩) W := by kernel_rfl
theorem sign_at1 (W : World) : (Instr.index 34 (.agg #[.string ⟨#[]⟩, .string ⟨#[43]⟩, .string ⟨#[45]⟩]) (.int .u8 1)).run Try.prog W = .ok (.string ⟨#[43]⟩) W := by kernel_rfl
theorem sign_at2 (W : World) : (Instr.index 34 (.agg #[.string ⟨#[]⟩, .string ⟨#[43]⟩, .string ⟨#[45]⟩]) (.int .u8 2)).run Try.prog W = .ok (.string ⟨#[45]⟩) W := by kernel_rfl
/-- a tie goes to the even one -/
theorem Pl.nst_tie (a b : Int) (hb : 1 ≤ b) (h : 2 * (Pl.nst a b * b - a) = b ∨ 2 * (a - Pl.nst a b * b) = b) : Pl.nst a b % 2 = 0 := by
  have h1 := Int.mul_ediv_add_emod a b
  have h2 := Int.emod_nonneg a (show b ≠ 0 by omega)
  have h3 := Int.emod_lt_of_pos a (show 0 < b by omega)
  obtain ⟨q, hq⟩ : ∃ q, q = a / b := ⟨_, rfl⟩
  obtain ⟨r, hr⟩ : ∃ r, r = a % b := ⟨_, rfl⟩
  unfold Pl.nst at h ⊢
  rw [← hq, ← hr] at h h1
  rw [← hr] at h2 h3
  rw [← hq, ← hr]
  obtain ⟨m, hm⟩ : ∃ m, m = b * q := ⟨_, rfl⟩
  rw [← hm] at h1
  split
  · rename_i hc
    rw [if_pos hc, Int.add_mul, Int.one_mul, Int.mul_comm q b, ← hm] at h
    omega
  · rename_i hc
    rw [if_neg hc, Int.mul_comm q b, ← hm] at h
    omega
theorem Pl.nst_bound (p T : Int) (h0 : 0 ≤ p) (hpT : p < T) : 0 ≤ Pl.nst (p * 65536) T ∧ Pl.nst (p * 65536) T ≤ 65536 := by
  have h1 := Pl.nst_near (p * 65536) T (by omega)
  have h0 := (Pl.nst_le (p * 65536) T (by omega) (by omega)).1
  obtain ⟨y, hy⟩ : ∃ y, y = Pl.nst (p * 65536) T := ⟨_, rfl⟩
  rw [← hy] at h1 h0 ⊢
  refine ⟨h0, Int.not_lt.1 (fun h => ?_)⟩
  have h3 : 65537 * T ≤ y * T := Int.mul_le_mul_of_nonneg_right (by omega) (by omega)
  omega
/-- the text of digits and of digits behind a point, with a sign -/
theorem Pl.read_parts (S : List UInt8) (hS : S = [] ∨ S = [43] ∨ S = [45]) (w p N : Nat) (hN : 1 ≤ N) (hN9 : N ≤ 9) (hw : w < 16000) (hp : p < 10 ^ N) :
    Pl.read (Pl.tx (S ++ (Pl.dec w ++ [46] ++ Pl.pad N (Pl.dec p)))) = (2, Pl.sgd (decide (S = [45])) ((w : Int) * 65536 + Pl.nst ((p : Int) * 65536) ((10 ^ N : Nat) : Int)), 0) := by
  have hb : 10 ^ N ≤ 10 ^ 9 := Nat.pow_le_pow_right (by omega) hN9
  have hb0 : 10 ^ 1 ≤ 10 ^ N := Nat.pow_le_pow_right (by omega) hN
  have e : S ++ (Pl.dec w ++ [46] ++ Pl.pad N (Pl.dec p)) = S ++ Pl.dec w ++ [46] ++ Pl.pad N (Pl.dec p) := by simp
  have hsh := Pl.dec_short p N hN hp (by omega)
  have hpl := Pl.pad_len N _ hsh
  rw [e, Pl.read_point S _ _ hS (Pl.dec_dig _) (Pl.pad_dig _ _ (Pl.dec_dig _)), Pl.dec_nm _ (by omega)]
  unfold Pl.readPart
  rw [List.length_map, hpl, if_neg (by simp; omega), if_neg (by omega), Pl.dvl_nm _ (by omega) _ (Pl.pad_dig _ _ (Pl.dec_dig _)), Pl.pad_nm, Pl.dec_nm _ (by omega)]
  rw [show min (w : Int) 2147483648 = (w : Int) by omega, show min (p : Int) 1000000000000 = (p : Int) by omega]
  have h2 := (Pl.nst_bound (p : Int) ((10 ^ N : Nat) : Int) (by omega) (by omega)).2
  rw [if_neg (by omega)]
theorem Pl.over_ok (w p T Y : Int) (hT : 1 ≤ T) (hY : Y = w * 65536 + Pl.nst (p * 65536) T) :
    2 * (Y * T - (w * T + p) * 65536) ≤ T ∧ -T ≤ 2 * (Y * T - (w * T + p) * 65536) ∧ (2 * (Y * T - (w * T + p) * 65536) = T ∨ 2 * (Y * T - (w * T + p) * 65536) = -T → Y % 2 = 0) := by
  have h1 := Pl.nst_near (p * 65536) T hT
  have h2 := Pl.nst_tie (p * 65536) T hT
  obtain ⟨y, hy⟩ : ∃ y, y = Pl.nst (p * 65536) T := ⟨_, rfl⟩
  rw [← hy] at h1 h2 hY
  have e : Y * T - (w * T + p) * 65536 = y * T - p * 65536 := by
    rw [hY, Int.add_mul, Int.add_mul, Int.mul_assoc, Int.mul_comm 65536 T, ← Int.mul_assoc]
    omega
  rw [e]
  refine ⟨by omega, by omega, fun h => ?_⟩
  have := h2 (by omega)
  omega
set_option maxRecDepth 100000 in
set_option maxHeartbeats 4000000 in
theorem parts_with (a0 a1 a2 a3 : Int) (w0 : 0 ≤ a0 ∧ a0 ≤ 65535) (w1 : 0 ≤ a1 ∧ a1 ≤ 4294967295) (w2 : 0 ≤ a2 ∧ a2 ≤ 255) (w3 : 0 ≤ a3 ∧ a3 ≤ 255)
    (g : Nat) (hg : a3 % 3 = (g : Int)) (SB : List UInt8) (hSB : (g = 0 ∧ SB = []) ∨ (g = 1 ∧ SB = [43]) ∨ (g = 2 ∧ SB = [45])) (w : World) :
    Calls Try.prog 6 #[.int .u16 a0, .int .u32 a1, .int .u8 a2, .int .u8 a3] w fun e w' => e = .returned (.bool true) ∧ Kept w w' := by
  obtain ⟨w00, w01⟩ := w0
  obtain ⟨w10, w11⟩ := w1
  obtain ⟨w20, w21⟩ := w2
  obtain ⟨w30, w31⟩ := w3
  have KN := Lib.hid (known6 w)
  obtain ⟨N, hN⟩ : ∃ N : Nat, 1 + a2 % 9 = (N : Int) := ⟨(1 + a2 % 9).toNat, by omega⟩
  have hN1 : 1 ≤ N := by omega
  have hN9 : N ≤ 9 := by omega
  have hb : 10 ^ N ≤ 10 ^ 9 := Nat.pow_le_pow_right (by omega) hN9
  have hb0 : 10 ^ 1 ≤ 10 ^ N := Nat.pow_le_pow_right (by omega) hN1
  obtain ⟨z, hz⟩ : ∃ z : Nat, a0 % 16000 = (z : Int) := ⟨(a0 % 16000).toNat, by omega⟩
  have hz1 : z < 16000 := by omega
  go_enter Try.func6, Try.ntmps6
  go_wp2_with fail
  refine KN.out.mono ?_
  rintro e w1 ⟨rfl, g1⟩
  go_wp2_with fail
  go_loopw [10, 11] (fun t i wr => ∃ k : Nat, t = .int .i64 ((10 ^ k : Nat) : Int) ∧ i = .int .i64 (k : Int) ∧ k ≤ N ∧ wr = w1) (fun _ i _ => ((N : Int) - intOf i).toNat)
  case atStart => exact ⟨0, rfl, rfl, by omega, rfl⟩
  case round =>
    obtain ⟨k, rfl, rfl, hk, rfl⟩ := hrel
    rcases Nat.lt_or_eq_of_le hk with hlt | rfl
    · have hlt' : (k : Int) < (N : Int) := by omega
      have hbk : 10 ^ k ≤ 10 ^ 9 := Nat.pow_le_pow_right (by omega) (by omega)
      have hpw : 10 * 10 ^ k = 10 ^ (k + 1) := by rw [Nat.pow_succ]; omega
      have HP := Lib.hid hpw
      obtain ⟨T, hT⟩ : ∃ T : Nat, T = 10 ^ k := ⟨_, rfl⟩
      rw [← hT] at hbk HP ⊢
      have hb1 : (T : Int) ≤ 1000000000 := by omega
      have hb2 : (0 : Int) ≤ (T : Int) := by omega
      clear hT hbk hpw hb hb0
      go_wp2_with fail
      go_roundw
      case rel => exact ⟨k + 1, by rw [← HP.out]; simp, by simp, by omega, trivial⟩
      case measure => simp [intOf] <;> omega
    · obtain ⟨p, hp⟩ : ∃ p : Nat, a1 % ((10 ^ k : Nat) : Int) = (p : Int) := ⟨(a1 % ((10 ^ k : Nat) : Int)).toNat, by
        have := Int.emod_nonneg a1 (show ((10 ^ k : Nat) : Int) ≠ 0 by omega)
        omega⟩
      have hpT : p < 10 ^ k := by
        have := Int.emod_lt_of_pos a1 (show 0 < ((10 ^ k : Nat) : Int) by omega)
        omega
      have HR := Lib.hid (Pl.read_parts SB (by rcases hSB with ⟨_, h⟩ | ⟨_, h⟩ | ⟨_, h⟩ <;> simp [h]) z p k hN1 hN9 hz1 hpT)
      obtain ⟨T, hT⟩ : ∃ T : Nat, T = 10 ^ k := ⟨_, rfl⟩
      have hdl := Pl.dec_short p k hN1 hpT (by omega)
      rw [← hT] at hb hb0 hp hpT HR ⊢
      have hT1 : 10 ≤ (T : Int) := by omega
      have hT2 : (T : Int) ≤ 1000000000 := by omega
      have hTne : ¬ (T : Int) = 0 := by omega
      have hp1 : (p : Int) < (T : Int) := by omega
      have C1 := Lib.hid (fun Z => digits6 p (by omega) Z)
      clear hT hb hb0
      go_wp2_with fail
      go_quiet (fail)
      go_wp2_with fail
      refine (C1.out _).mono ?_
      rintro e w4 ⟨rfl, g4⟩
      have G4 : Hid (Kept w w4) := Lib.hid (Kept.trans (b := wr.drewN _) g1 (.of_grown g4))
      obtain ⟨D, hD⟩ : ∃ D, D = Pl.dec p := ⟨_, rfl⟩
      rw [← hD] at hdl HR
      rw [← hD]
      obtain ⟨B0, hB0⟩ : ∃ B0 : ByteArray, B0 = ⟨D.toArray⟩ := ⟨_, rfl⟩
      rw [← hB0]
      have HB0 : Hid (B0 = ⟨(List.replicate 0 (48 : UInt8) ++ D).toArray⟩) := Lib.hid (by rw [hB0]; simp)
      obtain ⟨d, hd⟩ : ∃ d, d = D.length := ⟨_, rfl⟩
      have hs0 : B0.size = d := by rw [hB0, hd]; simp [ByteArray.size]
      have HD := Lib.hid hd
      rw [← hd] at hdl
      have C2 := Lib.hid (fun Z => digits6 z (by omega) Z)
      have hzl := Pl.dec_len z
      obtain ⟨ZB, hZB⟩ : ∃ ZB : ByteArray, ZB = ⟨(Pl.dec z).toArray⟩ := ⟨_, rfl⟩
      have hZs : ZB.size ≤ 20 := by rw [hZB]; simpa [ByteArray.size] using hzl
      rw [← hZB] at C2
      have HZB := Lib.hid hZB
      clear hD hB0 hd C1 g4 g1 hZB hzl KN
      go_wp2_with fail
      go_loopw [14] (fun s14 wq => ∃ (j : Nat) (B : ByteArray), s14 = .string B ∧ j ≤ k - d ∧ B.size = j + d ∧ Hid (B = ⟨(List.replicate j (48 : UInt8) ++ D).toArray⟩) ∧ Hid (Kept w wq)) (fun s14 _ => (match s14 with | .string B => 40 - B.size | _ => 0))
      case atStart => exact ⟨0, B0, rfl, by omega, by omega, HB0, G4⟩
      case round =>
        obtain ⟨j, B, rfl, hj, hBs, HB, HG5⟩ := hrel
        by_cases hlt : j + d < k
        · have hltI : (B.size : Int) < (k : Int) := by omega
          obtain ⟨R, hR⟩ : ∃ R : ByteArray, R = ByteArray.mk #[48] ++ B := ⟨_, rfl⟩
          have hLB : ByteArray.mk #[48] ++ B = R := hR.symm
          have hRs : R.size = (j + 1) + d := by
            rw [hR, ByteArray.size_append, hBs, show (ByteArray.mk #[48]).size = 1 from rfl]
            omega
          have hsz : ¬ (9223372036854775807 < (ByteArray.mk #[48]).size + B.size) := by
            rw [hBs, show (ByteArray.mk #[48]).size = 1 from rfl]
            omega
          have HR' : Hid (R = ⟨(List.replicate (j + 1) (48 : UInt8) ++ D).toArray⟩) := Lib.hid (by
            rw [hR, HB.out]
            apply ByteArray.ext
            simp [List.replicate_succ])
          clear hR
          go_wp2_with fail
          refine ⟨⟨j + 1, R, rfl, by omega, hRs, HR', HG5⟩, ?_⟩
          show 40 - R.size < 40 - B.size
          omega
        · have hltI : ¬ ((B.size : Int) < (k : Int)) := by omega
          have hjd : Hid (j = k - d) := Lib.hid (by omega)
          obtain ⟨X1, hX1⟩ : ∃ X1 : ByteArray, X1 = ZB ++ ByteArray.mk #[46] := ⟨_, rfl⟩
          obtain ⟨X2, hX2⟩ : ∃ X2 : ByteArray, X2 = X1 ++ B := ⟨_, rfl⟩
          have hX1s : X1.size ≤ 21 := by rw [hX1, ByteArray.size_append, show (ByteArray.mk #[46]).size = 1 from rfl]; omega
          have hX2s : X2.size ≤ 40 := by rw [hX2, ByteArray.size_append]; omega
          have z1' : ¬ (9223372036854775807 < ZB.size + (ByteArray.mk #[46]).size) := by rw [show (ByteArray.mk #[46]).size = 1 from rfl]; omega
          have z2' : ¬ (9223372036854775807 < X1.size + B.size) := by omega
          have e1 := hX1.symm
          have e2 := hX2.symm
          have HX : Hid (X2 = ⟨(Pl.dec z ++ [46] ++ Pl.pad k D).toArray⟩) := Lib.hid (by
            rw [hX2, hX1, HZB.out, HB.out]
            apply ByteArray.ext
            unfold Pl.pad
            rw [← HD.out, hjd.out]
            simp)
          clear hX1 hX2
          go_wp2_with fail
          refine (C2.out _).mono ?_
          rintro e w6 ⟨rfl, g6⟩
          have G6 := Lib.hid (HG5.out.trans (.of_grown g6))
          have HOV := Pl.over_ok (z : Int) (p : Int) (T : Int) _ (by omega) rfl
          have hyb := Pl.nst_bound (p : Int) (T : Int) (by omega) (by omega)
          obtain ⟨y, hy⟩ : ∃ y, y = Pl.nst ((p : Int) * 65536) (T : Int) := ⟨_, rfl⟩
          rw [← hy] at HR HOV hyb
          obtain ⟨Y, hY⟩ : ∃ Y, Y = (z : Int) * 65536 + y := ⟨_, rfl⟩
          rw [← hY] at HR HOV
          have Y0 : 0 ≤ Y := by omega
          have Y1 : Y ≤ 1073741823 := by omega
          have A0 : 0 ≤ Y * (T : Int) := Int.mul_nonneg Y0 (by omega)
          have A1 : Y * (T : Int) ≤ 1073741823 * 1000000000 := Int.mul_le_mul Y1 hT2 (by omega) (by omega)
          have B0' : 0 ≤ (z : Int) * (T : Int) := Int.mul_nonneg (by omega) (by omega)
          have B1' : (z : Int) * (T : Int) ≤ 16000 * 1000000000 := Int.mul_le_mul (by omega) hT2 (by omega) (by omega)
          have hp0 : 0 ≤ (p : Int) := by omega
          obtain ⟨A, hA⟩ : ∃ A, Y * (T : Int) = A := ⟨_, rfl⟩
          obtain ⟨Bz, hBz⟩ : ∃ Bz, (z : Int) * (T : Int) = Bz := ⟨_, rfl⟩
          rw [hA] at HOV A0 A1
          rw [hBz] at HOV B0' B1'
          obtain ⟨o1, o2, o3⟩ := HOV
          have hO : (A - (Bz + (p : Int)) * 65536 < 0 ∧ 2 * (-(A - (Bz + (p : Int)) * 65536)) < (T : Int)) ∨ (A - (Bz + (p : Int)) * 65536 < 0 ∧ 2 * (-(A - (Bz + (p : Int)) * 65536)) = (T : Int) ∧ Y % 2 = 0) ∨ (¬ (A - (Bz + (p : Int)) * 65536 < 0) ∧ 2 * (A - (Bz + (p : Int)) * 65536) < (T : Int)) ∨ (¬ (A - (Bz + (p : Int)) * 65536 < 0) ∧ 2 * (A - (Bz + (p : Int)) * 65536) = (T : Int) ∧ Y % 2 = 0) := by
            by_cases c1 : A - (Bz + (p : Int)) * 65536 < 0
            · by_cases c2 : 2 * (-(A - (Bz + (p : Int)) * 65536)) < (T : Int)
              · exact .inl ⟨c1, c2⟩
              · exact .inr (.inl ⟨c1, by omega, o3 (by omega)⟩)
            · by_cases c2 : 2 * (A - (Bz + (p : Int)) * 65536) < (T : Int)
              · exact .inr (.inr (.inl ⟨c1, c2⟩))
              · exact .inr (.inr (.inr ⟨c1, by omega, o3 (by omega)⟩))
          have RD : Hid (∀ l : ByteArray, l = ⟨(SB ++ (Pl.dec z ++ [46] ++ Pl.pad k D)).toArray⟩ → ∀ Z, Calls Try.prog 13 #[.string l] Z fun x w' => x = .returned (.tuple #[.int .i64 2, .int .i64 (Pl.sgd (decide (SB = [45])) Y), .int .i64 0]) ∧ Kept Z w') := Lib.hid (by
            intro l hl Z
            rw [hl]
            refine read_is _ ?_ _ _ _ HR.out Z
            have h1 := Pl.dec_len z
            have h2 : SB.length ≤ 1 := by rcases hSB with ⟨_, h⟩ | ⟨_, h⟩ | ⟨_, h⟩ <;> simp [h]
            have h3 := HD.out
            unfold Pl.pad
            simp only [List.length_append, List.length_replicate, List.length_singleton]
            omega)
          have Ix0 := sign_at0
          have Ix1 := sign_at1
          have Ix2 := sign_at2
          clear HR hy hY hyb o1 o2 o3 C2
          have fin : ∀ Z, Kept w6 Z → Kept w Z := fun Z h => G6.out.trans h
          have FIN := Lib.hid fin
          clear fin G6 G4 HG5 g6
          rcases hSB with ⟨rfl, rfl⟩ | ⟨rfl, rfl⟩ | ⟨rfl, rfl⟩
          · have hg' : a3 % 3 = 0 := hg
            clear hg
            rw [show Pl.sgd (decide (([] : List UInt8) = [45])) Y = Y from rfl] at RD
            rcases hO with ⟨c1, c2⟩ | ⟨c1, c2, c3⟩ | ⟨c1, c2⟩ | ⟨c1, c2, c3⟩
            all_goals
              go_wp2_with fail
              refine (RD.out _ (by rw [HX.out]; first | rfl | (apply ByteArray.ext; simp)) _).mono ?_
              rintro e w7 ⟨rfl, g7⟩
              go_wp2_with fail
              go_ret
              exact ⟨rfl, FIN.out _ g7⟩
          · have hg' : a3 % 3 = 1 := hg
            clear hg
            rw [show Pl.sgd (decide (([43] : List UInt8) = [45])) Y = Y from rfl] at RD
            rcases hO with ⟨c1, c2⟩ | ⟨c1, c2, c3⟩ | ⟨c1, c2⟩ | ⟨c1, c2, c3⟩
            all_goals
              go_wp2_with fail
              refine (RD.out _ (by rw [HX.out]; first | rfl | (apply ByteArray.ext; simp)) _).mono ?_
              rintro e w7 ⟨rfl, g7⟩
              go_wp2_with fail
              go_ret
              exact ⟨rfl, FIN.out _ g7⟩
          · have hg' : a3 % 3 = 2 := hg
            clear hg
            rw [show Pl.sgd (decide (([45] : List UInt8) = [45])) Y = -Y from rfl] at RD
            rcases hO with ⟨c1, c2⟩ | ⟨c1, c2, c3⟩ | ⟨c1, c2⟩ | ⟨c1, c2, c3⟩
            all_goals
              go_wp2_with fail
              refine (RD.out _ (by rw [HX.out]; first | rfl | (apply ByteArray.ext; simp)) _).mono ?_
              rintro e w7 ⟨rfl, g7⟩
              go_wp2_with fail
              go_ret
              exact ⟨rfl, FIN.out _ g7⟩
theorem walk_NumtextParts (a0 a1 a2 a3 : Int) (w0 : (Lit.int .u16 a0).wf = true) (w1 : (Lit.int .u32 a1).wf = true) (w2 : (Lit.int .u8 a2).wf = true) (w3 : (Lit.int .u8 a3).wf = true) (w : World) :
    Calls Try.prog 6 #[.int .u16 a0, .int .u32 a1, .int .u8 a2, .int .u8 a3] w fun e w' => e = .returned (.bool true) ∧ Kept w w' := by
  have w0 : 0 ≤ a0 ∧ a0 ≤ 65535 := by simp [Lit.wf, IntKind.min, IntKind.max, IntKind.signed, IntKind.bits] at w0; omega
  have w1 : 0 ≤ a1 ∧ a1 ≤ 4294967295 := by simp [Lit.wf, IntKind.min, IntKind.max, IntKind.signed, IntKind.bits] at w1; omega
  have w2 : 0 ≤ a2 ∧ a2 ≤ 255 := by simp [Lit.wf, IntKind.min, IntKind.max, IntKind.signed, IntKind.bits] at w2; omega
  have w3 : 0 ≤ a3 ∧ a3 ≤ 255 := by simp [Lit.wf, IntKind.min, IntKind.max, IntKind.signed, IntKind.bits] at w3; omega
  have h : a3 % 3 = 0 ∨ a3 % 3 = 1 ∨ a3 % 3 = 2 := by omega
  rcases h with h | h | h
  · exact parts_with a0 a1 a2 a3 w0 w1 w2 w3 0 h [] (.inl ⟨rfl, rfl⟩) w
  · exact parts_with a0 a1 a2 a3 w0 w1 w2 w3 1 h [43] (.inr (.inl ⟨rfl, rfl⟩)) w
  · exact parts_with a0 a1 a2 a3 w0 w1 w2 w3 2 h [45] (.inr (.inr ⟨rfl, rfl⟩)) w
end Go.Proofs.Ytpfkijjpophobaa
