/- numtext.decimal and Int: the digits of a number. -/
import Derived.Test.YtpfkijjpophobaaN1
namespace Go.Proofs.Ytpfkijjpophobaa
set_option linter.unusedVariables false
open Go.RowKit

/-- a number's digits, the first one first (as bytes) -/
def Pl.digs : Nat → Nat → List UInt8
  | 0, _ => []
  | f + 1, n => (if n < 10 then [] else Pl.digs f (n / 10)) ++ [UInt8.ofNat (48 + n % 10)]
def Pl.dec (n : Nat) : List UInt8 := Pl.digs 20 n
theorem Pl.digs_fuel : ∀ (f g n : Nat), n < 10 ^ f → n < 10 ^ g → 1 ≤ f → 1 ≤ g → Pl.digs f n = Pl.digs g n
  | 0, _, _, _, _, h, _ => by omega
  | _, 0, _, _, _, _, h => by omega
  | f + 1, g + 1, n, hf, hg, _, _ => by
    unfold Pl.digs
    by_cases h : n < 10
    · rw [if_pos h, if_pos h]
    · rw [if_neg h, if_neg h]
      have h1 : n / 10 < 10 ^ f := by rw [Nat.pow_succ] at hf; omega
      have h2 : n / 10 < 10 ^ g := by rw [Nat.pow_succ] at hg; omega
      have h3 : 1 ≤ f := by
        rcases Nat.eq_zero_or_pos f with rfl | h3
        · simp at h1; omega
        · exact h3
      have h4 : 1 ≤ g := by
        rcases Nat.eq_zero_or_pos g with rfl | h4
        · simp at h2; omega
        · exact h4
      rw [Pl.digs_fuel f g (n / 10) h1 h2 h3 h4]
/-- a digit more in front -/
theorem Pl.dec_step (n : Nat) (hn : n < 10 ^ 20) : Pl.dec n = (if n < 10 then [] else Pl.dec (n / 10)) ++ [UInt8.ofNat (48 + n % 10)] := by
  show Pl.digs (19 + 1) n = _
  unfold Pl.digs
  by_cases h : n < 10
  · rw [if_pos h, if_pos h]
  · rw [if_neg h, if_neg h]
    congr 1
    exact Pl.digs_fuel 19 20 (n / 10) (by omega) (by omega) (by omega) (by omega)

theorem Pl.digs_len : ∀ (f n : Nat), (Pl.digs f n).length ≤ f
  | 0, _ => by simp [Pl.digs]
  | f + 1, n => by
    unfold Pl.digs
    have := Pl.digs_len f (n / 10)
    split <;> simp <;> omega
theorem one_letter (w : World) (x : Nat) (hx : x < 10) : (convert 30 9 (.slice (some ⟨w.heap.size, 0, none⟩) 1 1)).run Try.prog (w.alloc (.cells #[.int .u8 (48 + (x : Int))] 5)) = .ok (.string ⟨#[UInt8.ofNat (48 + x)]⟩) (w.alloc (.cells #[.int .u8 (48 + (x : Int))] 5)) := by
  have h := run_convert_bytes_back (P := Try.prog) (w.alloc (.cells #[.int .u8 (48 + (x : Int))] 5)) 30 9 5 ⟨w.heap.size, 0, none⟩ 1 [UInt8.ofNat (48 + x)] Try.underlying30 Try.underlying5 Try.underlying9 (fun j hj => by
    have hj0 : j = 0 := by simpa using hj
    subst hj0
    have hx2 : (48 + x) % 256 = 48 + x := Nat.mod_eq_of_lt (by omega)
    simp [go_sem, Addr.add, UInt8.toNat_ofNat', hx2])
  exact h

set_option maxHeartbeats 2000000 in
set_option maxRecDepth 100000 in
theorem decimal_any (n : Nat) (hn : n < 18446744073709551616) (W : World) :
    Calls Try.prog 39 #[.int .u64 (n : Int)] W fun e w' => e = .returned (.string ⟨(Pl.dec n).toArray⟩) ∧ Grown W w' := by
  go_enter Try.func39, Try.ntmps39
  go_wp2_with fail
  go_loopw [0, 3] (fun v s wr => ∃ (m : Nat) (S : List UInt8) (B : ByteArray), v = .int .u64 (m : Int) ∧ s = .string B ∧ m ≤ n ∧ Hid (B = ⟨S.toArray⟩) ∧ Hid (Pl.dec n = Pl.dec m ++ S) ∧ Grown W wr) (fun v _ _ => (intOf v).toNat)
  case atStart => exact ⟨n, [], ⟨#[]⟩, rfl, rfl, by omega, Lib.hid rfl, Lib.hid (by simp), Grown.refl W⟩
  case round =>
    obtain ⟨m, S, B, rfl, rfl, hm, HB, HS, g1⟩ := hrel
    have hm0 : (0 : Int) ≤ (m : Int) := by omega
    have hm1 : (m : Int) < 18446744073709551616 := by omega
    have hstep := Pl.dec_step m (by omega)
    obtain ⟨x, hx⟩ : ∃ x, x = m % 10 := ⟨_, rfl⟩
    have hmx : (m : Int) % 10 = (x : Int) := by omega
    have hx9 : x < 10 := by omega
    have hx9' : (x : Int) ≤ 9 := by omega
    rw [← hx] at hstep
    obtain ⟨L, hL⟩ : ∃ L : ByteArray, L = ⟨#[UInt8.ofNat (48 + x)]⟩ := ⟨_, rfl⟩
    have h1 := one_letter wr x hx9
    rw [← hL] at h1
    have H1 := Lib.hid h1
    have HL := Lib.hid hL
    obtain ⟨R, hR⟩ : ∃ R : ByteArray, R = L ++ B := ⟨_, rfl⟩
    have HR : Hid (R = ⟨(UInt8.ofNat (48 + x) :: S).toArray⟩) := Lib.hid (by
      rw [hR, hL, HB.out]
      apply ByteArray.ext
      simp)
    have hLB : L ++ B = R := hR.symm
    have hsz : ¬ (9223372036854775807 < L.size + B.size) := by
      have h2 := Pl.digs_len 20 n
      have h3 : (Pl.dec n).length = (Pl.dec m).length + S.length := by rw [HS.out, List.length_append]
      have h4 : B.size = S.length := by rw [HB.out]; simp [ByteArray.size]
      have h5 : L.size = 1 := by rw [HL.out]; rfl
      have h6 : (Pl.dec n).length ≤ 20 := h2
      omega
    clear hx h1 hL hR
    by_cases hz : m < 10
    · have hz0 : (m : Int) / 10 = 0 := by omega
      rw [if_pos hz] at hstep
      have HST := Lib.hid hstep
      clear hstep hz
      go_wp2_with fail
      rw [H1.out]
      go_wp2_with fail
      go_ret
      refine ⟨?_, g1.alloc _ _⟩
      show Ending.returned (.string R) = _
      rw [HR.out, HS.out, HST.out, List.nil_append, List.singleton_append]
    · have hz0 : ¬ ((m : Int) / 10 = 0) := by omega
      have hzb : ((m : Int) / 10 == 0) = false := beq_eq_false_iff_ne.2 hz0
      have hq1 : (m : Int) / 10 ≤ 9223372036854775807 := by omega
      have hq2 : 0 ≤ (m : Int) / 10 := by omega
      have hq3 : (m : Int) / 10 < (m : Int) := by omega
      rw [if_neg hz] at hstep
      have HST := Lib.hid hstep
      clear hstep hz hz0
      go_wp2_with fail
      rw [H1.out]
      go_wp2_with fail
      refine ⟨⟨m / 10, UInt8.ofNat (48 + x) :: S, R, by rw [show (m : Int) / 10 = ((m / 10 : Nat) : Int) from by omega], rfl, by omega, HR, Lib.hid (by rw [HS.out, HST.out, List.append_assoc]; rfl), g1.alloc _ _⟩, ?_⟩
      simp [intOf]
      omega

/-- a whole number's text -/
def Pl.intText (v : Int) : List UInt8 := (if v < 0 then [45] else []) ++ Pl.dec v.natAbs
set_option maxHeartbeats 2000000 in
theorem int_any (v : Int) (hv : -9223372036854775808 ≤ v ∧ v ≤ 9223372036854775807) (W : World) :
    Calls Try.prog 14 #[.int .i64 v] W fun e w' => e = .returned (.string ⟨(Pl.intText v).toArray⟩) ∧ Grown W w' := by
  obtain ⟨h0, h1⟩ := hv
  by_cases hn : v < 0
  · obtain ⟨n, hN⟩ : ∃ n : Nat, v = -(n : Int) := ⟨v.natAbs, by omega⟩
    subst hN
    have hn1 : 1 ≤ n := by omega
    have C := Lib.hid (decimal_any n (by omega) W)
    go_enter Try.func14, Try.ntmps14
    go_wp2_with fail
    rw [show -(-(n : Int) + 1) + 1 = (n : Int) from by omega]
    refine C.out.mono ?_
    rintro e w1 ⟨rfl, g1⟩
    obtain ⟨D, hD⟩ : ∃ D : ByteArray, D = ⟨(Pl.dec n).toArray⟩ := ⟨_, rfl⟩
    have HD := Lib.hid hD
    rw [← hD]
    have hsz : ¬ (9223372036854775807 < (ByteArray.mk #[45]).size + D.size) := by
      have h2 : (Pl.dec n).length ≤ 20 := Pl.digs_len 20 n
      have h4 : D.size = (Pl.dec n).length := by rw [hD]; simp [ByteArray.size]
      have h5 : (ByteArray.mk #[45]).size = 1 := rfl
      omega
    clear hD
    go_wp2_with fail
    go_ret
    refine ⟨?_, g1⟩
    unfold Pl.intText
    rw [if_pos hn, Int.natAbs_neg, Int.natAbs_natCast]
    show Ending.returned (.string (ByteArray.mk #[45] ++ D)) = _
    rw [HD.out, show (ByteArray.mk #[45] : ByteArray) = ByteArray.mk ([45] : List UInt8).toArray from rfl, ByteArray.mk_append_mk]
  · obtain ⟨n, hN⟩ : ∃ n : Nat, v = (n : Int) := ⟨v.natAbs, by omega⟩
    subst hN
    have C := Lib.hid (decimal_any n (by omega) W)
    go_enter Try.func14, Try.ntmps14
    go_wp2_with fail
    refine C.out.mono ?_
    rintro e w1 ⟨rfl, g1⟩
    go_wp2_with fail
    go_ret
    refine ⟨?_, g1⟩
    unfold Pl.intText
    rw [if_neg (by omega), List.nil_append, Int.natAbs_natCast]
    rfl
end Go.Proofs.Ytpfkijjpophobaa
