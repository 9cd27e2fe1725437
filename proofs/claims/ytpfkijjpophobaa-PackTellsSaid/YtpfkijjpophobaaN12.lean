/- numtext.Fix: what it answers, plain; the walk. -/
import Derived.Test.YtpfkijjpophobaaN11
namespace Go.Proofs.Ytpfkijjpophobaa
set_option linter.unusedVariables false
open Go.RowKit

def Pl.fixN (z : Int) (k : Nat) : Int := Pl.nst (z * ((10 ^ k : Nat) : Int)) 65536
def Pl.fixOk (z : Int) (k : Nat) : Prop := Pl.nst (Pl.fixN z k * 65536) ((10 ^ k : Nat) : Int) = z
instance (z : Int) (k : Nat) : Decidable (Pl.fixOk z k) := inferInstanceAs (Decidable (Pl.nst (Pl.fixN z k * 65536) ((10 ^ k : Nat) : Int) = z))
def Pl.fixK (z : Int) : Nat := if Pl.fixOk z 1 then 1 else if Pl.fixOk z 2 then 2 else if Pl.fixOk z 3 then 3 else if Pl.fixOk z 4 then 4 else 5
def Pl.pad (k : Nat) (D : List UInt8) : List UInt8 := List.replicate (k - D.length) 48 ++ D
def Pl.fixAt (S : List UInt8) (z : Int) (k : Nat) : List UInt8 :=
  S ++ Pl.dec (Pl.fixN z k / ((10 ^ k : Nat) : Int)).toNat ++ [46] ++ Pl.pad k (Pl.dec (Pl.fixN z k % ((10 ^ k : Nat) : Int)).toNat)
def Pl.sgn (v : Int) : List UInt8 := if v < 0 then [45] else []
def Pl.mg (v : Int) : Int := if v < 0 then -v else v
def Pl.fixText (v : Int) : List UInt8 := if v < -1073741823 ∨ 1073741823 < v then [] else Pl.fixAt (Pl.sgn v) (Pl.mg v) (Pl.fixK (Pl.mg v))
theorem Pl.fixOk5 (z : Int) (h0 : 0 ≤ z) (h1 : z ≤ 1073741823) : Pl.fixOk z 5 := by
  unfold Pl.fixOk Pl.fixN
  rw [show ((10 ^ 5 : Nat) : Int) = 100000 from rfl]
  obtain ⟨n, hn⟩ : ∃ n, n = Pl.nst (z * 100000) 65536 := ⟨_, rfl⟩
  have h : n * 65536 - 32768 ≤ z * 100000 ∧ z * 100000 ≤ n * 65536 + 32768 := by
    rw [hn]
    unfold Pl.nst
    split <;> omega
  rw [← hn]
  clear hn
  unfold Pl.nst
  split <;> omega
theorem Pl.fixK_of (z : Int) (k : Nat) (h1 : 1 ≤ k) (h5 : k ≤ 5) (hk : Pl.fixOk z k) (hj : ∀ j, 1 ≤ j → j < k → ¬ Pl.fixOk z j) : Pl.fixK z = k := by
  unfold Pl.fixK
  have hc : k = 1 ∨ k = 2 ∨ k = 3 ∨ k = 4 ∨ k = 5 := by omega
  rcases hc with rfl | rfl | rfl | rfl | rfl
  · rw [if_pos hk]
  · rw [if_neg (hj 1 (by omega) (by omega)), if_pos hk]
  · rw [if_neg (hj 1 (by omega) (by omega)), if_neg (hj 2 (by omega) (by omega)), if_pos hk]
  · rw [if_neg (hj 1 (by omega) (by omega)), if_neg (hj 2 (by omega) (by omega)), if_neg (hj 3 (by omega) (by omega)), if_pos hk]
  · rw [if_neg (hj 1 (by omega) (by omega)), if_neg (hj 2 (by omega) (by omega)), if_neg (hj 3 (by omega) (by omega)), if_neg (hj 4 (by omega) (by omega))]
theorem Pl.dec_len (n : Nat) : (Pl.dec n).length ≤ 20 := Pl.digs_len 20 n

theorem fix_out (v : Int) (hv : v < -1073741823 ∨ 1073741823 < v) (h0 : -9223372036854775808 ≤ v) (h1 : v ≤ 9223372036854775807) (W : World) :
    Calls Try.prog 16 #[.int .i64 v] W fun e w' => e = .returned (.string ⟨#[]⟩) ∧ Grown W w' := by
  rcases hv with hv | hv
  all_goals
    go_enter Try.func16, Try.ntmps16
    go_wp2_with fail
    go_ret
    exact ⟨rfl, Grown.refl _⟩

set_option maxHeartbeats 4000000 in
set_option maxRecDepth 100000 in
theorem fix_in (v : Int) (h0 : -1073741823 ≤ v) (h1 : v ≤ 1073741823) (W : World) :
    Calls Try.prog 16 #[.int .i64 v] W fun e w' => e = .returned (.string ⟨(Pl.fixAt (Pl.sgn v) (Pl.mg v) (Pl.fixK (Pl.mg v))).toArray⟩) ∧ Grown W w' := by
  obtain ⟨SG, hSG⟩ : ∃ SG : ByteArray, SG = ⟨(Pl.sgn v).toArray⟩ := ⟨_, rfl⟩
  have hSG1 : SG.size ≤ 1 := by rw [hSG]; unfold Pl.sgn; split <;> decide
  have HSG := Lib.hid hSG
  obtain ⟨z, hz⟩ : ∃ z, z = Pl.mg v := ⟨_, rfl⟩
  have z0 : 0 ≤ z := by rw [hz]; unfold Pl.mg; split <;> omega
  have z1 : z ≤ 1073741823 := by rw [hz]; unfold Pl.mg; split <;> omega
  have HZ := Lib.hid hz
  go_enter Try.func16, Try.ntmps16
  rw [← hz]
  clear hSG hz
  go_upto_if 17 with fail
  go_cut [3, 4] (fun a b wx => a = .string SG ∧ b = .int .i64 z ∧ W = wx)
  case first =>
    by_cases hn : v < 0
    · have e1 : Hid (SG = ⟨#[45]⟩) := Lib.hid (by rw [HSG.out]; unfold Pl.sgn; rw [if_pos hn])
      have e2 : Hid (z = -v) := Lib.hid (by rw [HZ.out]; unfold Pl.mg; rw [if_pos hn])
      clear HSG HZ hSG1
      go_wp2_with fail
      go_meet
      case rel => exact ⟨by rw [e1.out], by rw [e2.out], rfl⟩
    · have e1 : Hid (SG = ⟨#[]⟩) := Lib.hid (by rw [HSG.out]; unfold Pl.sgn; rw [if_neg hn])
      have e2 : Hid (z = v) := Lib.hid (by rw [HZ.out]; unfold Pl.mg; rw [if_neg hn])
      clear HSG HZ hSG1
      go_wp2_with fail
      go_meet
      case rel => exact ⟨by rw [e1.out], by rw [e2.out], rfl⟩
  case rest =>
    obtain ⟨rfl, rfl, rfl⟩ := hcut
    go_wp2_with fail
    go_loopw [5] (fun s5 wr => ∃ k : Nat, s5 = .int .i64 (k : Int) ∧ 1 ≤ k ∧ k ≤ 5 ∧ Hid (∀ j, 1 ≤ j → j < k → ¬ Pl.fixOk z j) ∧ Hid (Grown W wr)) (fun s5 _ => (6 - intOf s5).toNat)
    case atStart => exact ⟨1, rfl, by omega, by omega, Lib.hid (fun j h1 h2 => by omega), Lib.hid (Grown.refl W)⟩
    case round =>
      obtain ⟨k, rfl, hk1, hk5, HJ, HG⟩ := hrel
      have CT := Lib.hid (fun Z => tens_any k (by omega) Z)
      have hb : 10 ^ k ≤ 10 ^ 5 := Nat.pow_le_pow_right (by omega) hk5
      have hb0 : 10 ^ 1 ≤ 10 ^ k := Nat.pow_le_pow_right (by omega) hk1
      have HE : Hid (Pl.fixAt (Pl.sgn v) (Pl.mg v) k = Pl.sgn v ++ Pl.dec (Pl.fixN z k / ((10 ^ k : Nat) : Int)).toNat ++ [46] ++ Pl.pad k (Pl.dec (Pl.fixN z k % ((10 ^ k : Nat) : Int)).toNat)) := Lib.hid (by rw [← HZ.out]; rfl)
      have HOK : Hid (Pl.fixOk z k ↔ Pl.nst (Pl.fixN z k * 65536) ((10 ^ k : Nat) : Int) = z) := Lib.hid Iff.rfl
      have HN : Hid (Pl.fixN z k = Pl.nst (z * ((10 ^ k : Nat) : Int)) 65536) := Lib.hid rfl
      obtain ⟨p, hp⟩ : ∃ p, p = 10 ^ k := ⟨_, rfl⟩
      rw [← hp] at CT hb hb0 HE HOK HN
      have hp1 : 10 ≤ (p : Int) := by omega
      have hp2 : (p : Int) ≤ 100000 := by omega
      have m0 : 0 ≤ z * (p : Int) := Int.mul_nonneg z0 (by omega)
      have m1 : z * (p : Int) ≤ 1073741823 * 100000 := Int.mul_le_mul z1 hp2 (by omega) (by omega)
      have C1 := Lib.hid (fun Z => nearest_any (z * (p : Int)) 65536 (by omega) (by omega) Z)
      have hn0 : 0 ≤ Pl.nst (z * (p : Int)) 65536 := (Pl.nst_le _ _ m0 (by omega)).1
      have hn1 : Pl.nst (z * (p : Int)) 65536 ≤ 1638400000 := by
        unfold Pl.nst
        split <;> omega
      rw [← HN.out] at C1 hn0 hn1
      obtain ⟨n, hn⟩ : ∃ n, n = Pl.fixN z k := ⟨_, rfl⟩
      rw [← hn] at C1 hn0 hn1 HE HOK
      have C2 := Lib.hid (fun Z => nearest_any (n * 65536) (p : Int) (by omega) (by omega) Z)
      obtain ⟨y, hy⟩ : ∃ y, y = Pl.nst (n * 65536) (p : Int) := ⟨_, rfl⟩
      rw [← hy] at C2 HOK
      clear hb hb0 hp hn hy
      go_wp2_with fail
      refine (CT.out _).mono ?_
      rintro e w1 ⟨rfl, rfl⟩
      go_wp2_with fail
      refine (C1.out _).mono ?_
      rintro e w2 ⟨rfl, g2⟩
      have G2 := Lib.hid (grown_trans HG.out g2)
      go_wp2_with fail
      refine (C2.out _).mono ?_
      rintro e w3 ⟨rfl, g3⟩
      have G3 := Lib.hid (grown_trans G2.out g3)
      clear CT C1 C2 g2 G2
      by_cases hyz : y = z
      · subst hyz
        have HK : Hid (Pl.fixK y = k) := Lib.hid (Pl.fixK_of _ k hk1 hk5 (HOK.out.2 rfl) HJ.out)
        have r0 := Int.emod_nonneg n (show (p : Int) ≠ 0 by omega)
        have r1 := Int.emod_lt_of_pos n (show 0 < (p : Int) by omega)
        have q0 : 0 ≤ n / (p : Int) := Int.ediv_nonneg hn0 (by omega)
        have q1 : n / (p : Int) ≤ n := Int.ediv_le_self _ hn0
        have hpne : ¬ (p : Int) = 0 := by omega
        obtain ⟨q, hq⟩ : ∃ q : Nat, n / (p : Int) = (q : Int) := ⟨(n / (p : Int)).toNat, by omega⟩
        obtain ⟨r, hr⟩ : ∃ r : Nat, n % (p : Int) = (r : Int) := ⟨(n % (p : Int)).toNat, by omega⟩
        rw [hq] at q0 q1 HE
        rw [hr] at r0 r1 HE
        rw [Int.toNat_natCast, Int.toNat_natCast] at HE
        have hqb : (q : Int) ≤ 1638400000 := by omega
        have hrb : (r : Int) ≤ 100000 := by omega
        have CD1 := Lib.hid (fun Z => decimal_any r (by omega) Z)
        have CD2 := Lib.hid (fun Z => decimal_any q (by omega) Z)
        clear HOK HJ
        go_wp2_with fail
        refine (CD1.out _).mono ?_
        rintro e w4 ⟨rfl, g4⟩
        have G4 := Lib.hid (grown_trans G3.out g4)
        have hdl := Pl.dec_len r
        obtain ⟨D, hD⟩ : ∃ D, D = Pl.dec r := ⟨_, rfl⟩
        rw [← hD] at hdl HE
        rw [← hD]
        obtain ⟨B0, hB0⟩ : ∃ B0 : ByteArray, B0 = ⟨D.toArray⟩ := ⟨_, rfl⟩
        rw [← hB0]
        have HB0 : Hid (B0 = ⟨(List.replicate 0 (48 : UInt8) ++ D).toArray⟩) := Lib.hid (by rw [hB0]; simp)
        obtain ⟨d, hd⟩ : ∃ d, d = D.length := ⟨_, rfl⟩
        have hs0 : B0.size = d := by rw [hB0, hd]; simp [ByteArray.size]
        have HD := Lib.hid hd
        rw [← hd] at hdl
        clear hD hB0 hd CD1 g3 g4 G3
        go_wp2_with fail
        go_loopw [8] (fun s8 wq => ∃ (j : Nat) (B : ByteArray), s8 = .string B ∧ j ≤ k - d ∧ B.size = j + d ∧ Hid (B = ⟨(List.replicate j (48 : UInt8) ++ D).toArray⟩) ∧ Hid (Grown W wq)) (fun s8 _ => (match s8 with | .string B => 40 - B.size | _ => 0))
        case atStart => exact ⟨0, B0, rfl, by omega, by omega, HB0, G4⟩
        case round =>
          obtain ⟨j, B, rfl, hj, hBs, HB, HG5⟩ := hrel
          by_cases hlt : j + d < k
          · have hltI : (B.size : Int) < (k : Int) := by omega
            obtain ⟨R, hR⟩ : ∃ R : ByteArray, R = ByteArray.mk #[48] ++ B := ⟨_, rfl⟩
            have hLB : ByteArray.mk #[48] ++ B = R := hR.symm
            have hRs : R.size = (j + 1) + d := by
              rw [hR, ByteArray.size_append, hBs, show (ByteArray.mk #[48]).size = 1 from rfl]
              omega
            have hsz : ¬ (9223372036854775807 < (ByteArray.mk #[48]).size + B.size) := by
              rw [hBs, show (ByteArray.mk #[48]).size = 1 from rfl]
              omega
            have HR : Hid (R = ⟨(List.replicate (j + 1) (48 : UInt8) ++ D).toArray⟩) := Lib.hid (by
              rw [hR, HB.out]
              apply ByteArray.ext
              simp [List.replicate_succ])
            clear hR
            go_wp2_with fail
            refine ⟨⟨j + 1, R, rfl, by omega, hRs, HR, HG5⟩, ?_⟩
            show 40 - R.size < 40 - B.size
            omega
          · have hltI : ¬ ((B.size : Int) < (k : Int)) := by omega
            have hjd : Hid (j = k - d) := Lib.hid (by omega)
            go_wp2_with fail
            refine (CD2.out _).mono ?_
            rintro e w6 ⟨rfl, g6⟩
            have G6 := Lib.hid (grown_trans HG5.out g6)
            have hql := Pl.dec_len q
            obtain ⟨Q, hQ⟩ : ∃ Q : ByteArray, Q = ⟨(Pl.dec q).toArray⟩ := ⟨_, rfl⟩
            rw [← hQ]
            have hQs : Q.size ≤ 20 := by rw [hQ]; simpa [ByteArray.size] using hql
            obtain ⟨X1, hX1⟩ : ∃ X1 : ByteArray, X1 = SG ++ Q := ⟨_, rfl⟩
            obtain ⟨X2, hX2⟩ : ∃ X2 : ByteArray, X2 = X1 ++ ByteArray.mk #[46] := ⟨_, rfl⟩
            obtain ⟨X3, hX3⟩ : ∃ X3 : ByteArray, X3 = X2 ++ B := ⟨_, rfl⟩
            have hX1s : X1.size ≤ 21 := by rw [hX1, ByteArray.size_append]; omega
            have hX2s : X2.size ≤ 22 := by rw [hX2, ByteArray.size_append, show (ByteArray.mk #[46]).size = 1 from rfl]; omega
            have z1' : ¬ (9223372036854775807 < SG.size + Q.size) := by omega
            have z2' : ¬ (9223372036854775807 < X1.size + (ByteArray.mk #[46]).size) := by rw [show (ByteArray.mk #[46]).size = 1 from rfl]; omega
            have z3' : ¬ (9223372036854775807 < X2.size + B.size) := by omega
            have e1 := hX1.symm
            have e2 := hX2.symm
            have e3 := hX3.symm
            have HX : Hid (X3 = ⟨(Pl.fixAt (Pl.sgn v) (Pl.mg v) k).toArray⟩) := Lib.hid (by
              rw [HE.out, hX3, hX2, hX1, HSG.out, hQ, HB.out]
              apply ByteArray.ext
              unfold Pl.pad
              rw [← HD.out, hjd.out]
              simp)
            clear hX1 hX2 hX3 hQ hql CD2
            go_wp2_with fail
            go_ret
            refine ⟨?_, G6.out⟩
            have hx := HX.out
            rw [← HZ.out] at hx
            rw [HK.out]
            show Ending.returned (.string X3) = _
            rw [hx]
      · have hyz' : (y == z) = false := beq_eq_false_iff_ne.2 hyz
        have hk5' : Hid (k < 5) := Lib.hid (by
          rcases Nat.lt_or_eq_of_le hk5 with h | h
          · exact h
          · subst h
            exact absurd (HOK.out.1 (Pl.fixOk5 z z0 z1)) hyz)
        have HJ' : Hid (∀ j, 1 ≤ j → j < k + 1 → ¬ Pl.fixOk z j) := Lib.hid (fun j h1 h2 => by
          rcases Nat.lt_or_eq_of_le (Nat.le_of_lt_succ h2) with h | h
          · exact HJ.out j h1 h
          · rw [h]; exact fun q => hyz (HOK.out.1 q))
        clear HOK HJ
        go_wp2_with fail
        exact ⟨⟨k + 1, by simp, by omega, by have := hk5'.out; omega, HJ', G3⟩, by simp [intOf]; omega⟩

/-- numtext.Fix of any number -/
theorem fix_any (v : Int) (hv : -9223372036854775808 ≤ v ∧ v ≤ 9223372036854775807) (W : World) :
    Calls Try.prog 16 #[.int .i64 v] W fun e w' => e = .returned (.string ⟨(Pl.fixText v).toArray⟩) ∧ Grown W w' := by
  unfold Pl.fixText
  by_cases h : v < -1073741823 ∨ 1073741823 < v
  · rw [if_pos h]
    exact fix_out v h hv.1 hv.2 W
  · rw [if_neg h]
    exact fix_in v (by omega) (by omega) W
end Go.Proofs.Ytpfkijjpophobaa
