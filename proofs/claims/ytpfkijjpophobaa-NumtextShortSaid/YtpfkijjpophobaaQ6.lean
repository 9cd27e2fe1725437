/- The reference of layer 6: places, Fix: plain facts and the walks. -/
import Derived.Test.YtpfkijjpophobaaQ5
namespace Go.Proofs.Ytpfkijjpophobaa
set_option linter.unusedVariables false
open Go.RowKit

theorem Pl.pad_step (k n : Nat) (hn : n < 18446744073709551616) : Pl.pad (k + 2) (Pl.dec n) = Pl.pad (k + 1) (Pl.dec (n / 10)) ++ [UInt8.ofNat (48 + n % 10)] := by
  rw [Pl.dec_step n (by omega)]
  unfold Pl.pad
  by_cases h : n < 10
  · rw [if_pos h, List.nil_append, show n / 10 = 0 by omega, show Pl.dec 0 = [48] from rfl]
    rw [List.length_singleton, List.length_singleton, show k + 2 - 1 = k + 1 by omega, show k + 1 - 1 = k by omega, List.replicate_succ']
  · rw [if_neg h, List.length_append, List.length_singleton, show k + 2 - ((Pl.dec (n / 10)).length + 1) = k + 1 - (Pl.dec (n / 10)).length by omega, List.append_assoc]
def Pl.low : Nat → Nat → List UInt8
  | 0, _ => []
  | k + 1, n => Pl.low k (n / 10) ++ [UInt8.ofNat (48 + n % 10)]
theorem Pl.low_len : ∀ k n, (Pl.low k n).length = k
  | 0, _ => rfl
  | k + 1, n => by rw [Pl.low, List.length_append, Pl.low_len k, List.length_singleton]
theorem Pl.pad_low (k : Nat) : ∀ n, n < 18446744073709551616 → Pl.pad (k + 1) (Pl.dec n) = Pl.dec (n / 10 ^ k) ++ Pl.low k n := by
  induction k with
  | zero =>
    intro n hn
    have := List.length_pos_iff.2 (Pl.dec_ne n)
    unfold Pl.pad
    rw [show 0 + 1 - (Pl.dec n).length = 0 by omega, Nat.pow_zero, Nat.div_one]
    simp [Pl.low]
  | succ k ih =>
    intro n hn
    rw [Pl.pad_step k n hn, ih (n / 10) (by omega), Pl.low, Nat.div_div_eq_div_mul, Nat.pow_succ, Nat.mul_comm 10, List.append_assoc]
theorem Pl.pad_low2 (k : Nat) : ∀ n, n < 18446744073709551616 → n < 10 ^ (k + 1) → Pl.pad (k + 1) (Pl.dec n) = Pl.low (k + 1) n := by
  induction k with
  | zero =>
    intro n hn h
    rw [Pl.dec_step n (by omega), if_pos (by simpa using h), Pl.low, Pl.low]
    rfl
  | succ k ih =>
    intro n hn h
    rw [Pl.pad_step k n hn, ih (n / 10) (by omega) (by rw [Nat.pow_succ] at h; omega)]
    rfl
theorem Pl.low_mod (k : Nat) : ∀ n, Pl.low k (n % 10 ^ k) = Pl.low k n := by
  induction k with
  | zero => intro n; rfl
  | succ k ih =>
    intro n
    rw [Pl.low, Pl.low, Nat.pow_succ, Nat.mul_comm, Nat.mod_mul_right_div_self, ih, Nat.mod_mul_right_mod]
/-- what places writes -/
def Pl.plc (n k : Nat) : List UInt8 := Pl.dec (n / 10 ^ k) ++ [46] ++ Pl.pad k (Pl.dec (n % 10 ^ k))
theorem Pl.plc_pad (n k : Nat) (hk : 1 ≤ k) (hn : n < 18446744073709551616) : Pl.pad (k + 1) (Pl.dec n) = Pl.dec (n / 10 ^ k) ++ Pl.pad k (Pl.dec (n % 10 ^ k)) := by
  obtain ⟨j, rfl⟩ : ∃ j, k = j + 1 := ⟨k - 1, by omega⟩
  have hp := Nat.pow_pos (n := j + 1) (show 0 < 10 by omega)
  rw [Pl.pad_low (j + 1) n hn, Pl.pad_low2 j (n % 10 ^ (j + 1)) (Nat.lt_of_le_of_lt (Nat.mod_le _ _) hn) (Nat.mod_lt _ hp), Pl.low_mod]
theorem Pl.plc_fixAt (z : Int) (k : Nat) (h0 : 0 ≤ z) : Pl.fixAt [] z k = Pl.plc (Pl.fixN z k).toNat k := by
  unfold Pl.fixAt Pl.plc
  have hn0 : 0 ≤ Pl.fixN z k := (Pl.nst_le _ _ (Int.mul_nonneg h0 (Int.natCast_nonneg _)) (by omega)).1
  obtain ⟨n, hn⟩ : ∃ n : Nat, Pl.fixN z k = (n : Int) := ⟨(Pl.fixN z k).toNat, by omega⟩
  rw [hn, ← Int.natCast_ediv, ← Int.natCast_emod, Int.toNat_natCast, Int.toNat_natCast, Int.toNat_natCast, List.nil_append]
theorem Pl.read_plc (n k : Nat) (hk1 : 1 ≤ k) (hk5 : k ≤ 5) (hn : n < 18446744073709551616) :
    Pl.read (Pl.tx (Pl.plc n k)) = if 16383 < n / 10 ^ k ∨ 1073741823 < Pl.nst ((n : Int) * 65536) ((10 ^ k : Nat) : Int) then (0, 0, 2) else (2, Pl.nst ((n : Int) * 65536) ((10 ^ k : Nat) : Int), 0) := by
  have hb : 10 ^ k ≤ 10 ^ 5 := Nat.pow_le_pow_right (by omega) hk5
  have hb0 : 10 ^ 1 ≤ 10 ^ k := Nat.pow_le_pow_right (by omega) hk1
  have hq : n / 10 ^ k ≤ n := Nat.div_le_self _ _
  have hr := Nat.mod_lt n (show 0 < 10 ^ k by omega)
  have hdm := Nat.div_add_mod n (10 ^ k)
  have hsh := Pl.dec_short _ k hk1 hr (by omega)
  have hpl := Pl.pad_len k _ hsh
  have hdp := List.length_pos_iff.2 (Pl.dec_ne (n / 10 ^ k))
  have h := Pl.read_point [] (Pl.dec (n / 10 ^ k)) (Pl.pad k (Pl.dec (n % 10 ^ k))) (.inl rfl) (Pl.dec_dig _) (Pl.pad_dig _ _ (Pl.dec_dig _))
  rw [List.nil_append] at h
  have hsum : ((n / 10 ^ k : Nat) : Int) * 65536 + Pl.nst (((n % 10 ^ k : Nat) : Int) * 65536) ((10 ^ k : Nat) : Int) = Pl.nst ((n : Int) * 65536) ((10 ^ k : Nat) : Int) := by
    rw [← Pl.nst_add _ _ _ (by omega) (by omega)]
    obtain ⟨p, hp⟩ : ∃ p, p = 10 ^ k := ⟨_, rfl⟩
    rw [← hp] at hdm ⊢
    refine congrArg (fun x => Pl.nst x (p : Int)) ?_
    show ((n % p : Nat) : Int) * 65536 + ((n / p : Nat) : Int) * 65536 * (p : Int) = (n : Int) * 65536
    have hdmI : (p : Int) * ((n / p : Nat) : Int) + ((n % p : Nat) : Int) = (n : Int) := by exact_mod_cast hdm
    have hc : ((n / p : Nat) : Int) * 65536 * (p : Int) = (p : Int) * ((n / p : Nat) : Int) * 65536 := by
      rw [Int.mul_comm, ← Int.mul_assoc]
    rw [hc]
    omega
  unfold Pl.plc
  rw [h]
  unfold Pl.readPart
  rw [List.length_map, hpl, if_neg (by rintro (q | q); cases q; omega), Pl.dvl_nm _ (by omega) _ (Pl.pad_dig _ _ (Pl.dec_dig _)), Pl.pad_nm, Pl.dec_nm _ (by omega), Pl.dec_nm _ (by omega), show min (((n % 10 ^ k : Nat) : Int)) 1000000000000 = ((n % 10 ^ k : Nat) : Int) by omega]
  by_cases hv : 16383 < n / 10 ^ k
  · rw [if_pos (show 12 < k ∨ 16383 < min (((n / 10 ^ k : Nat) : Int)) 2147483648 by omega), if_pos (.inl hv)]
  · rw [if_neg (show ¬ (12 < k ∨ 16383 < min (((n / 10 ^ k : Nat) : Int)) 2147483648) by omega), show min (((n / 10 ^ k : Nat) : Int)) 2147483648 = ((n / 10 ^ k : Nat) : Int) by omega, hsum]
    by_cases hw : 1073741823 < Pl.nst ((n : Int) * 65536) ((10 ^ k : Nat) : Int)
    · rw [if_pos hw, if_pos (.inr hw)]
    · rw [if_neg hw, if_neg (by rintro (q | q); exact hv q; exact hw q)]
      rfl
theorem Pl.read_not (z : Int) (k : Nat) (hk1 : 1 ≤ k) (hk5 : k ≤ 5) (h0 : 0 ≤ z) (n : Nat) (hn : Pl.fixN z k = (n : Int)) (hn1 : n < 18446744073709551616) (hno : ¬ Pl.fixOk z k) :
    (Pl.read (Pl.tx (Pl.plc n k))).2.2 = 2 ∨ ((Pl.read (Pl.tx (Pl.plc n k))).2.2 = 0 ∧ (Pl.read (Pl.tx (Pl.plc n k))).2.1 ≠ z) := by
  rw [Pl.read_plc n k hk1 hk5 hn1]
  split
  · exact .inl rfl
  · refine .inr ⟨rfl, fun q => hno ?_⟩
    unfold Pl.fixOk
    rw [hn]
    exact q
theorem Pl.plc_len (n k : Nat) (hk : k ≤ 5) : (Pl.plc n k).length ≤ 60 := by
  unfold Pl.plc
  have h1 := Pl.dec_len (n / 10 ^ k)
  have h2 := Pl.dec_len (n % 10 ^ k)
  unfold Pl.pad
  simp only [List.length_append, List.length_replicate, List.length_singleton]
  omega
set_option maxHeartbeats 4000000 in
set_option maxRecDepth 100000 in
theorem places_any (n k : Nat) (hk1 : 1 ≤ k) (hk5 : k ≤ 5) (hn : n < 9223372036854775808) (W : World) :
    Calls Try.prog 50 #[.int .i64 (n : Int), .int .i64 (k : Int)] W fun e w' => e = .returned (.string ⟨(Pl.plc n k).toArray⟩) ∧ Grown W w' := by
  have CP := Lib.hid (fun Z => positive6 n (by omega) Z)
  have hdl := Pl.dec_len n
  have HPP := Lib.hid (Pl.plc_pad n k hk1 (by omega))
  have hsh := Nat.mod_lt n (show 0 < 10 ^ k from Nat.pow_pos (by omega))
  have hb : 10 ^ k ≤ 10 ^ 5 := Nat.pow_le_pow_right (by omega) hk5
  have HLN := Lib.hid (Pl.pad_len k _ (Pl.dec_short _ k hk1 hsh (by omega)))
  have hqd := Pl.dec_len (n / 10 ^ k)
  obtain ⟨Q, hQ⟩ : ∃ Q, Q = Pl.dec (n / 10 ^ k) := ⟨_, rfl⟩
  obtain ⟨E, hE⟩ : ∃ E, E = Pl.pad k (Pl.dec (n % 10 ^ k)) := ⟨_, rfl⟩
  have HT : Hid (Pl.plc n k = Q ++ [46] ++ E) := Lib.hid (by rw [hQ, hE]; rfl)
  rw [← hQ, ← hE] at HPP
  rw [← hE] at HLN
  rw [← hQ] at hqd
  obtain ⟨D, hD⟩ : ∃ D, D = Pl.dec n := ⟨_, rfl⟩
  rw [← hD] at HPP hdl CP
  obtain ⟨d, hd⟩ : ∃ d, d = D.length := ⟨_, rfl⟩
  rw [← hd] at hdl
  have HD := Lib.hid hd
  obtain ⟨B0, hB0⟩ : ∃ B0, B0 = Pl.tx D := ⟨_, rfl⟩
  have hs0 : B0.size = d := by rw [hB0, Pl.tx_size, hd]
  have HB0 : Hid (B0 = Pl.tx (List.replicate 0 (48 : UInt8) ++ D)) := Lib.hid (by rw [hB0]; rfl)
  have CP : Hid (∀ Z, Calls Try.prog 45 #[.int .u64 (n : Int)] Z fun e w' => e = .returned (.string B0) ∧ Grown Z w') := Lib.hid (fun Z => by rw [hB0]; exact CP.out Z)
  have hnI : (n : Int) ≤ 9223372036854775807 := by omega
  clear hQ hE hD hd hB0 hsh hb hn
  go_enter Try.func50, Try.ntmps50
  go_wp2_with fail
  refine (CP.out _).mono ?_
  rintro e w1 ⟨rfl, g1⟩
  have G1 := Lib.hid g1
  clear CP g1
  go_wp2_with fail
  go_loopw [5] (fun s5 wq => ∃ (j : Nat) (B : ByteArray), s5 = .string B ∧ j ≤ k + 1 - d ∧ B.size = j + d ∧ Hid (B = Pl.tx (List.replicate j (48 : UInt8) ++ D)) ∧ Hid (Grown W wq)) (fun s5 _ => (match s5 with | .string B => 40 - B.size | _ => 0))
  case atStart => exact ⟨0, B0, rfl, by omega, by omega, HB0, G1⟩
  case round =>
    obtain ⟨j, B, rfl, hj, hBs, HB, HG⟩ := hrel
    by_cases hlt : j + d ≤ k
    · have hltI : (B.size : Int) ≤ (k : Int) := by omega
      obtain ⟨R, hR⟩ : ∃ R : ByteArray, R = ByteArray.mk #[48] ++ B := ⟨_, rfl⟩
      have hLB : ByteArray.mk #[48] ++ B = R := hR.symm
      have hRs : R.size = (j + 1) + d := by
        rw [hR, ByteArray.size_append, hBs, show (ByteArray.mk #[48]).size = 1 from rfl]
        omega
      have hsz : ¬ (9223372036854775807 < (ByteArray.mk #[48]).size + B.size) := by
        rw [hBs, show (ByteArray.mk #[48]).size = 1 from rfl]
        omega
      have HR : Hid (R = Pl.tx (List.replicate (j + 1) (48 : UInt8) ++ D)) := Lib.hid (by
        rw [hR, HB.out]
        apply ByteArray.ext
        simp [List.replicate_succ, Pl.tx])
      clear hR
      go_wp2_with fail
      refine ⟨⟨j + 1, R, rfl, by omega, hRs, HR, HG⟩, ?_⟩
      show 40 - R.size < 40 - B.size
      omega
    · have hltI : ¬ ((B.size : Int) ≤ (k : Int)) := by omega
      have hB : B = Pl.tx (Q ++ E) := by
        rw [HB.out, ← HPP.out]
        unfold Pl.pad
        rw [← HD.out, show j = k + 1 - d by omega]
      have hln : E.length = k := HLN.out
      have hBsz : B.size = Q.length + k := by rw [hB, Pl.tx_size, List.length_append, hln]
      have s1 := slice_to (Q ++ E) Q.length (by rw [List.length_append]; omega)
      rw [List.take_left, ← hB] at s1
      have s2 := slice_from (Q ++ E) Q.length (by rw [List.length_append]; omega)
      rw [List.drop_left, ← hB] at s2
      obtain ⟨q, hq⟩ : ∃ q, q = Q.length := ⟨_, rfl⟩
      rw [← hq] at s1 s2 hqd hBsz
      obtain ⟨X1, hX1⟩ : ∃ X1, X1 = Pl.tx Q := ⟨_, rfl⟩
      obtain ⟨X2, hX2⟩ : ∃ X2, X2 = Pl.tx E := ⟨_, rfl⟩
      rw [← hX1] at s1
      rw [← hX2] at s2
      obtain ⟨X3, hX3⟩ : ∃ X3 : ByteArray, X3 = X1 ++ ByteArray.mk #[46] := ⟨_, rfl⟩
      obtain ⟨X4, hX4⟩ : ∃ X4 : ByteArray, X4 = X3 ++ X2 := ⟨_, rfl⟩
      have z1 : X1.size ≤ 20 := by rw [hX1, Pl.tx_size]; omega
      have z3 : X3.size ≤ 21 := by rw [hX3, ByteArray.size_append, show (ByteArray.mk #[46]).size = 1 from rfl]; omega
      have z2 : X2.size ≤ 5 := by rw [hX2, Pl.tx_size]; omega
      have y1 : ¬ (9223372036854775807 < X1.size + (ByteArray.mk #[46]).size) := by rw [show (ByteArray.mk #[46]).size = 1 from rfl]; omega
      have y2 : ¬ (9223372036854775807 < X3.size + X2.size) := by omega
      have e1 := hX3.symm
      have e2 := hX4.symm
      have HX : Hid (X4 = ⟨(Pl.plc n k).toArray⟩) := Lib.hid (by
        rw [HT.out, hX4, hX3, hX1, hX2]
        apply ByteArray.ext
        simp [Pl.tx])
      have hsb : (B.size : Int) - (k : Int) = (q : Int) := by omega
      have hwr : IntKind.i64.wrap ((B.size : Int) - (k : Int)) = (q : Int) := by rw [hsb, IntKind.wrap_i64]; omega
      have HBS := Lib.hid hBs
      clear hX1 hX2 hX3 hX4 hq hln hB hBs hBsz hlt z1 z2 z3 hj
      go_wp2_with fail
      go_quiet (fail)
      go_wp2_with fail
      go_ret
      refine ⟨?_, grown_drewN HG.out _⟩
      show Ending.returned (.string X4) = _
      rw [HX.out]
end Go.Proofs.Ytpfkijjpophobaa
