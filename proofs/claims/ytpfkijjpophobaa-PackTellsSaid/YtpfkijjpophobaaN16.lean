/- tympanhelp.Digits from 0 on; the sign's text. -/
import Derived.Test.YtpfkijjpophobaaL6
namespace Go.Proofs.Ytpfkijjpophobaa
set_option linter.unusedVariables false
open Go.RowKit

def Pl.ten : ByteArray := ⟨#[48, 49, 50, 51, 52, 53, 54, 55, 56, 57]⟩
theorem ten_at (x : Nat) (hx : x < 10) (W : World) : (Instr.slice 9 (.string Pl.ten) (some (.int .i64 (x : Int))) (some (.int .i64 ((x : Int) + 1))) none).run Try.prog W = .ok (.string ⟨#[UInt8.ofNat (48 + x)]⟩) W := by
  have h : x = 0 ∨ x = 1 ∨ x = 2 ∨ x = 3 ∨ x = 4 ∨ x = 5 ∨ x = 6 ∨ x = 7 ∨ x = 8 ∨ x = 9 := by omega
  rcases h with rfl | rfl | rfl | rfl | rfl | rfl | rfl | rfl | rfl | rfl <;> rfl
set_option maxRecDepth 100000 in
theorem digits_pos (n : Nat) : n < 9223372036854775808 → ∀ W : World, Calls Try.prog 18 #[.int .i64 (n : Int)] W fun e w' => e = .returned (.string ⟨(Pl.dec n).toArray⟩) ∧ ∃ m, w' = W.drewN m := by
  induction n using Nat.strongRecOn with
  | ind n ih =>
    intro hn W
    have hst := Pl.dec_step n (by omega)
    by_cases h : n < 10
    · rw [if_pos h, List.nil_append, show n % 10 = n by omega] at hst
      have HS := Lib.hid hst
      have sl := ten_at n h
      unfold Pl.ten at sl
      have h' : (n : Int) < 10 := by omega
      obtain ⟨L, hL⟩ : ∃ L : ByteArray, L = ⟨#[UInt8.ofNat (48 + n)]⟩ := ⟨_, rfl⟩
      rw [← hL] at sl
      have HL := Lib.hid hL
      clear hst ih hL
      go_enter Try.func18, Try.ntmps18
      go_wp2_with fail
      go_ret
      refine ⟨?_, 0, rfl⟩
      show Ending.returned (.string L) = _
      rw [HS.out, HL.out]
    · rw [if_neg h] at hst
      have CI := Lib.hid (ih (n / 10) (by omega) (by omega))
      have sl := ten_at (n % 10) (by omega)
      have hd := Pl.dec_len (n / 10)
      obtain ⟨x, hx⟩ : ∃ x, x = n % 10 := ⟨_, rfl⟩
      obtain ⟨q, hq⟩ : ∃ q, q = n / 10 := ⟨_, rfl⟩
      rw [← hx] at hst sl
      rw [← hq] at hst CI hd
      have e1 : (n : Int) % 10 = (x : Int) := by omega
      have e2 : (n : Int) / 10 = (q : Int) := by omega
      have h' : ¬ ((n : Int) < 10) := by omega
      unfold Pl.ten at sl
      obtain ⟨L, hL⟩ : ∃ L : ByteArray, L = ⟨#[UInt8.ofNat (48 + x)]⟩ := ⟨_, rfl⟩
      rw [← hL] at sl
      have hLs : L.size = 1 := by rw [hL]; rfl
      obtain ⟨Q, hQ⟩ : ∃ Q : ByteArray, Q = ⟨(Pl.dec q).toArray⟩ := ⟨_, rfl⟩
      rw [← hQ] at CI
      have hQs : Q.size ≤ 20 := by rw [hQ]; simpa [ByteArray.size] using hd
      obtain ⟨R, hR⟩ : ∃ R : ByteArray, R = Q ++ L := ⟨_, rfl⟩
      have hQL : Q ++ L = R := hR.symm
      have hsz : ¬ (9223372036854775807 < Q.size + L.size) := by omega
      have HR : Hid (R = ⟨(Pl.dec n).toArray⟩) := Lib.hid (by
        rw [hR, hQ, hL, hst]
        apply ByteArray.ext
        simp)
      have hx0 : 0 ≤ (x : Int) := by omega
      have hx9 : (x : Int) ≤ 9 := by omega
      have hq0 : 0 ≤ (q : Int) := by omega
      have hq1 : (q : Int) ≤ 922337203685477580 := by omega
      have hh : 10 ≤ (n : Int) := by omega
      have hwr : IntKind.i64.wrap ((x : Int) + 1) = (x : Int) + 1 := by rw [IntKind.wrap_i64]; omega
      have hn2 : (n : Int) ≤ 9223372036854775807 := by omega
      clear hst ih hx hq hL hR hQ hLs hQs hd h h'
      go_enter Try.func18, Try.ntmps18
      go_wp2_with fail
      go_quiet (exact Calls.quiet_of (CI.out _))
      go_wp2_with fail
      go_ret
      refine ⟨?_, _, rfl⟩
      show Ending.returned (.string R) = _
      rw [HR.out]
theorem digits6 (n : Nat) (hn : n < 9223372036854775808) (W : World) : Calls Try.prog 18 #[.int .i64 (n : Int)] W fun e w' => e = .returned (.string ⟨(Pl.dec n).toArray⟩) ∧ Grown W w' :=
  (digits_pos n hn W).mono fun e w' ⟨he, m, hm⟩ => ⟨he, by rw [hm]; exact grown_drewN (Grown.refl W) m⟩
end Go.Proofs.Ytpfkijjpophobaa
