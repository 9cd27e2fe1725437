/- The walk of the law StackMost. -/
import Derived.Test.YtenmbkngkabonaaT16
namespace Go.Proofs.Ytenmbkngkabonaa
set_option linter.unusedVariables false
open Go.RowKit

def Pl.nul : Pl.Ob := (1, false, 0, 0, 0, ⟨#[]⟩)
theorem Pl.nul_may : Pl.mayO Pl.nul := .inl ⟨.inl rfl, rfl, rfl, rfl, rfl⟩
def Pl.zer : Pl.Ob := (0, false, 0, 0, 0, ⟨#[]⟩)
theorem Pl.zer_may : ¬ Pl.mayO Pl.zer := by
  unfold Pl.mayO Pl.may Pl.zer
  simp

theorem make_one (w : World) : (Instr.makeSlice 32 (.int .i64 1) (.int .i64 1)).run Try.prog w = .ok (.slice (some ⟨w.heap.size, 0, none⟩) 1 1) (w.alloc (.cells #[.int .i64 0, .bool false, .int .i64 0, .int .i64 0, .int .i64 0, .string ⟨#[]⟩] 38)) := by
  obtain ⟨i0, hi, hz0, hz1, hz2⟩ := info_parts Try.objInfo
  have h := run_make (P := Try.prog) w 32 38 i0 _ Try.underlying32 hi hz0 .i64 .i64 1 1 (by omega) (by omega) (by rw [hz2]; omega) (by omega)
  rw [hz1] at h
  have hm : madeCells (obv 0 false 0 0 0 ⟨#[]⟩).cells 6 = #[.int .i64 0, .bool false, .int .i64 0, .int .i64 0, .int .i64 0, .string ⟨#[]⟩] := by
    apply Array.ext_getElem?
    intro j
    rcases Nat.lt_or_ge j 6 with hj | hj
    · rcases (show j = 0 ∨ j = 1 ∨ j = 2 ∨ j = 3 ∨ j = 4 ∨ j = 5 by omega) with rfl | rfl | rfl | rfl | rfl | rfl <;> simp [madeCells, Value.cells]
    · rw [Array.getElem?_eq_none (by rw [size_madeCells]; exact hj), Array.getElem?_eq_none (by exact hj)]
  rw [show (1 : Int).toNat * 6 = 6 from rfl, hm] at h
  exact h
theorem one_row (w : World) (A : Array Value) (o : Pl.Ob) (hA : A.toList = Pl.oc o) : RowV (w.alloc (.cells A 38)) (.slice (some ⟨w.heap.size, 0, none⟩) 1 1) [o] := by
  refine ⟨_, 1, rfl, .inr ⟨w.heap.size, 0, rfl, by simp, fun j u hu => ?_⟩⟩
  have := alloc_cell w A 38 j u (by rw [hA]; simpa [Pl.flat] using hu)
  rw [show (⟨w.heap.size, 0, none⟩ : Addr).add j = ⟨w.heap.size, 0 + j, none⟩ from by simp [Addr.add]; intro h; exact h.symm] at this
  exact this

set_option maxHeartbeats 4000000 in
set_option maxRecDepth 100000 in
theorem walk_StackMost (a0 : Int) (w0 : (Lit.int .u8 a0).wf = true) (W : World) :
    Calls Try.prog 10 #[.int .u8 a0] W fun e w' => e = .returned (.bool true) ∧ Kept W w' := by
  have hu : 0 ≤ a0 ∧ a0 ≤ 255 := by simp [Lit.wf, IntKind.min, IntKind.max, IntKind.signed, IntKind.bits] at w0; omega
  obtain ⟨hlo, hhi⟩ := hu
  obtain ⟨k, hk⟩ : ∃ k : Nat, a0 % 90 + 1 = (k : Int) := ⟨(a0 % 90 + 1).toNat, by omega⟩
  have hk1 : 1 ≤ k := by omega
  have hk2 : k ≤ 90 := by omega
  obtain ⟨m, hm⟩ : ∃ m : Nat, m + k = 200 := ⟨200 - k, by omega⟩
  have hmI : (200 : Int) - (k : Int) = (m : Int) := by omega
  have CK := Lib.hid (known14_ex W)
  have HK := Lib.hid hk
  have HMI := Lib.hid hmI
  have hb0 : 0 ≤ a0 % 90 := by omega
  have hb1 : a0 % 90 ≤ 89 := by omega
  clear hk hmI w0
  go_enter Try.func10, Try.ntmps10
  go_wp2_with fail
  refine CK.out.mono ?_
  rintro e w1 ⟨rfl, k1⟩
  have C1 := Lib.hid (numbers_ex W w1 (fun _ => False) k1 (fun c q => q.elim) m (by omega))
  clear k1 CK
  go_wp2_with fail
  rw [HK.out, HMI.out]
  refine C1.out.mono ?_
  rintro e w2 ⟨rfl, s2, -⟩
  have C2 := Lib.hid (stk_items W _ _ _ w2 s2 (by rw [Pl.nums_len]; omega))
  clear s2 C1
  go_wp2_with fail
  refine C2.out.mono ?_
  rintro e w3 ⟨vi, rfl, r3, s3, -, -⟩
  have R3 := Lib.hid r3
  have C3 := Lib.hid (stk_dup_over W _ _ _ w3 s3 (k + 1) (by rw [Pl.nums_len]; omega) (by rw [Pl.nums_len]; omega) (by rw [Pl.nums_len]; omega))
  clear s3 r3 C2
  go_wp2_with fail
  refine C3.out.mono ?_
  rintro e w4 ⟨rfl, s4, g4⟩
  have R4 := Lib.hid (R3.out.grown g4)
  have S4 := Lib.hid s4
  clear s4 g4 C3 R3
  go_wp2_with fail
  rw [make_one]
  have SM := Lib.hid (fun A t => S4.out.grown ((Grown.refl w4).alloc A t))
  have CB := Lib.hid (stk_become_bad W _ _ _ _ (S4.out.grown ((Grown.refl w4).alloc #[.int .i64 0, .bool false, .int .i64 0, .int .i64 0, .int .i64 0, .string ⟨#[]⟩] 38)) (.slice (some ⟨w4.heap.size, 0, none⟩) 1 1) [Pl.zer] (one_row _ _ _ rfl) (by simp) 0 Pl.zer rfl Pl.zer_may)
  have R5 := Lib.hid (fun A t => R4.out.grown ((Grown.refl w4).alloc A t))
  go_wp2_with fail
  refine CB.out.mono ?_
  rintro e w5 ⟨rfl, s5, g5⟩
  have R6 := Lib.hid ((R5.out _ _).grown g5)
  have C5 := Lib.hid (stk_dup_low W _ _ _ w5 s5 (-1) (by omega))
  clear s5 g5 CB R5 S4 SM R4
  go_wp2_with fail
  refine C5.out.mono ?_
  rintro e w6 ⟨rfl, s6, g6⟩
  have R7 := Lib.hid (R6.out.grown g6)
  have C6 := Lib.hid (stk_roll_under W _ _ _ w6 s6 200 1 (by rw [Pl.nums_len]; omega))
  clear s6 g6 C5 R6
  go_wp2_with fail
  refine C6.out.mono ?_
  rintro e w7 ⟨rfl, s7, g7⟩
  have R8 := Lib.hid (R7.out.grown g7)
  have C7 := Lib.hid (stk_items W _ _ _ w7 s7 (by rw [Pl.nums_len]; omega))
  clear s7 g7 C6 R7
  go_wp2_with fail
  refine C7.out.mono ?_
  rintro e w8 ⟨vj, rfl, r8, s8, f8, -⟩
  have R9 := Lib.hid (R8.out.fr f8)
  have C8 := Lib.hid (same_yes vj vi (Pl.nums 0 m) (by rw [Pl.nums_len]; omega) w8 r8.1 R9.out.1)
  have S8 := Lib.hid s8
  clear s8 r8 f8 C7 R8 R9
  go_wp2_with fail
  refine C8.out.mono ?_
  rintro e w9 ⟨rfl, g9⟩
  have S9 := Lib.hid (S8.out.grown g9)
  clear g9 C8 S8
  go_wp2_with fail
  go_loopw [10] (fun i wr => ∃ c : Nat, i = .int .i64 (c : Int) ∧ c ≤ k ∧ Hid (Stk W (fun c => (False ∨ vi.ownBlock = some c) ∨ vj.ownBlock = some c) w1.heap.size (Pl.nums 0 m ++ List.replicate c Pl.nul) wr)) (fun i _ => ((k : Int) - intOf i).toNat)
  case atStart => exact ⟨0, rfl, by omega, by rw [List.replicate_zero, List.append_nil]; exact S9⟩
  case round =>
    obtain ⟨c, rfl, hc, SR⟩ := hrel
    have hln : (Pl.nums 0 m ++ List.replicate c Pl.nul).length = m + c := by rw [List.length_append, Pl.nums_len, List.length_replicate]
    rcases Nat.lt_or_eq_of_le hc with hck | rfl
    · have CP := Lib.hid (stk_push W _ _ _ wr SR.out Pl.nul Pl.nul_may (by rw [hln]; omega))
      have hck' : (c : Int) < (k : Int) := by omega
      clear hln
      go_wp2_with fail
      refine CP.out.mono ?_
      rintro e w10 ⟨rfl, s10, -⟩
      have S10 := Lib.hid s10
      clear s10 CP SR
      go_wp2_with fail
      go_roundw
      case rel => exact ⟨c + 1, by simp, by omega, by rw [List.replicate_succ', ← List.append_assoc]; exact S10⟩
      case measure => simp [intOf] <;> omega
    · have C10 := Lib.hid (stk_peek_under W _ _ _ wr SR.out 200 (by omega) (by rw [hln]; omega))
      have HL := Lib.hid hln
      clear hln SR
      go_wp2_with fail
      refine C10.out.mono ?_
      rintro e w11 ⟨rfl, s11, g11⟩
      have S11 := Lib.hid s11
      clear s11 g11 C10
      have hO : ObS w11 w11.heap.size 0 false 0 0 0 ⟨#[]⟩ (w11.alloc (.cells #[.int .i64 0, .bool false, .int .i64 0, .int .i64 0, .int .i64 0, .string ⟨#[]⟩] 38)) := ⟨by simp [go_sem], by simp [go_sem], by simp [go_sem], by simp [go_sem], by simp [go_sem], by simp [go_sem], (Grown.refl _).alloc _ _⟩
      have HO := Lib.hid hO
      have C11 := Lib.hid (stk_push_full W _ _ _ _ (S11.out.grown hO.2.2.2.2.2.2) Pl.nul Pl.nul_may (by rw [HL.out]; omega) (by rw [HL.out]; omega))
      clear hO S11
      go_wp2_with fail
      refine C11.out.mono ?_
      rintro e w12 ⟨rfl, s12, g12⟩
      have hO : ObS w11 w11.heap.size 0 false 0 0 0 ⟨#[]⟩ w12 := ObS.grow HO.out g12
      obtain ⟨o0, o1, o2, o3, o4, o5, og⟩ := id hO
      have S12 := Lib.hid s12
      have C12 := Lib.hid (stk_len W _ _ _ w12 s12)
      clear s12 hO g12 C11 HO
      go_wp2_with fail
      refine C12.out.mono ?_
      rintro e w13 ⟨rfl, rfl⟩
      rw [HL.out, show ((m + c : Nat) : Int) = 200 from by omega]
      have HK13 := Lib.hid S12.out.keptw
      clear S12 C12 HL
      go_wp2_with fail
      go_ret
      exact ⟨rfl, HK13.out⟩
end Go.Proofs.Ytenmbkngkabonaa
