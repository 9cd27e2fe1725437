/- The walk of the law StackTop, whole. -/
import Derived.Test.YtenmbkngkabonaaT21
namespace Go.Proofs.Ytenmbkngkabonaa
set_option linter.unusedVariables false
open Go.RowKit

set_option maxHeartbeats 2000000 in
set_option maxRecDepth 100000 in
theorem walk_StackTop_long (a0 a1 : Int) (k : Int) (x : Bool) (n a l : Int) (s : ByteArray) (hs : ¬ (s.size : Int) ≤ 300) (W : World) :
    Calls Try.prog 9 #[.int .u8 a0, .int .u8 a1, obv k x n a l s] W fun e w' => e = .returned (.bool true) ∧ Kept W w' := by
  have CK := Lib.hid (fun W => known14_ex W)
  have OB := Lib.hid (ObC.new W k x n a l s)
  have hs2 : (300 : Int) < (s.size : Int) := by omega
  clear hs
  go_enter Try.func9, Try.ntmps9
  go_wp2_with fail
  refine (CK.out _).mono ?_
  rintro e w1 ⟨rfl, k1⟩
  obtain ⟨o0, o1, o2, o3, o4, o5⟩ := OB.out.kept k1
  go_wp2_with fail
  go_ret
  exact ⟨rfl, (Kept.of_grown ((Grown.refl W).alloc _ _)).trans k1⟩

theorem walk_StackTop (a0 a1 : Int) (k : Int) (x : Bool) (n a l : Int) (s : ByteArray) (w0 : (Lit.int .u8 a0).wf = true) (w1 : (Lit.int .u8 a1).wf = true) (W : World) :
    Calls Try.prog 9 #[.int .u8 a0, .int .u8 a1, obv k x n a l s] W fun e w' => e = .returned (.bool true) ∧ Kept W w' := by
  have h0 : 0 ≤ a0 ∧ a0 ≤ 255 := by simp [Lit.wf, IntKind.min, IntKind.max, IntKind.signed, IntKind.bits] at w0; omega
  have h1 : 0 ≤ a1 ∧ a1 ≤ 255 := by simp [Lit.wf, IntKind.min, IntKind.max, IntKind.signed, IntKind.bits] at w1; omega
  by_cases hs : (s.size : Int) ≤ 300
  · obtain ⟨N, hN⟩ : ∃ N : Nat, a0 % 90 = (N : Int) := ⟨(a0 % 90).toNat, by omega⟩
    have hm0 := Int.emod_nonneg a1 (show (N : Int) + 1 ≠ 0 by omega)
    have hm1 := Int.emod_lt_of_pos a1 (show 0 < (N : Int) + 1 by omega)
    obtain ⟨K, hK⟩ : ∃ K : Nat, a1 % ((N : Int) + 1) = (K : Int) := ⟨(a1 % ((N : Int) + 1)).toNat, by omega⟩
    by_cases hm : Pl.may k n a l s
    · exact walk_StackTop_yes a0 a1 k x n a l s hs hm N K hN hK (by omega) (by omega) h0.1 h0.2 h1.1 h1.2 W
    · exact walk_StackTop_no a0 a1 k x n a l s hs hm N K hN hK (by omega) (by omega) h0.1 h0.2 h1.1 h1.2 W
  · exact walk_StackTop_long a0 a1 k x n a l s hs W
end Go.Proofs.Ytenmbkngkabonaa
