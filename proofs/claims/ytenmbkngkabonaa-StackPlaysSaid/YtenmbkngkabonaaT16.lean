/- tympanlaw14.known, numbers; tympanhelp.Place. -/
import Derived.Test.YtenmbkngkabonaaT15
namespace Go.Proofs.Ytenmbkngkabonaa
set_option linter.unusedVariables false
open Go.RowKit

def Pl.io (n : Int) : Pl.Ob := (3, false, n, 0, 0, ⟨#[]⟩)
theorem Pl.io_may (n : Int) (h : -2147483647 ≤ n ∧ n ≤ 2147483647) : Pl.mayO (Pl.io n) := .inr (.inr (.inr ⟨⟨rfl, rfl, rfl⟩, .inr (.inl ⟨rfl, h⟩)⟩))
/-- whole numbers from b on -/
def Pl.nums (b : Int) (k : Nat) : List Pl.Ob := (List.range k).map (fun (i : Nat) => Pl.io (b + (i : Int)))
theorem Pl.nums_len (b : Int) (k : Nat) : (Pl.nums b k).length = k := by simp [Pl.nums]
theorem Pl.nums_succ (b : Int) (k : Nat) : Pl.nums b (k + 1) = Pl.nums b k ++ [Pl.io (b + (k : Int))] := by simp [Pl.nums, List.range_succ]
theorem Pl.known_at : (Pl.rot (Pl.nums 1 3) 3 1).reverse[2]? = some (Pl.io 3) := by rfl

set_option maxHeartbeats 2000000 in
set_option maxRecDepth 100000 in
theorem known14_ex (W : World) : Calls Try.prog 24 #[] W fun e w' => e = .returned (.bool true) ∧ Kept W w' := by
  have CN := Lib.hid (stk_new W (fun _ => False) W (Kept.refl W) (fun c q => q.elim))
  go_enter Try.func24, Try.ntmps24
  go_wp2_with fail
  refine CN.out.mono ?_
  rintro e w1 ⟨rfl, s1, -⟩
  have S1 := Lib.hid s1
  clear s1 CN
  go_wp2_with fail
  go_loopw [2] (fun i wr => ∃ k : Nat, i = .int .i64 (1 + (k : Int)) ∧ k ≤ 3 ∧ Hid (Stk W (fun _ => False) W.heap.size (Pl.nums 1 k) wr)) (fun i _ => (4 - intOf i).toNat)
  case atStart => exact ⟨0, rfl, by omega, S1⟩
  case round =>
    obtain ⟨k, rfl, hk, SR⟩ := hrel
    by_cases hk3 : k < 3
    · have CP := Lib.hid (stk_push W (fun _ => False) _ _ wr SR.out (Pl.io (1 + (k : Int))) (Pl.io_may _ (by omega)) (by rw [Pl.nums_len]; omega))
      go_wp2_with fail
      refine CP.out.mono ?_
      rintro e w2 ⟨rfl, s2, -⟩
      have S2 := Lib.hid s2
      clear s2
      go_wp2_with fail
      go_roundw
      case rel => exact ⟨k + 1, by simp [Int.add_assoc], by omega, by rw [Pl.nums_succ]; exact S2⟩
      case measure => simp [intOf] <;> omega
    · obtain rfl : k = 3 := by omega
      have CR := Lib.hid (stk_roll W (fun _ => False) _ _ wr SR.out 3 1 (by rw [Pl.nums_len]; omega) (by rw [Pl.nums_len]; omega))
      go_wp2_with fail
      refine CR.out.mono ?_
      rintro e w2 ⟨rfl, s2, -⟩
      have CQ := Lib.hid (stk_peek W (fun _ => False) _ _ w2 s2 2 (Pl.io 3) Pl.known_at (by rw [Pl.rot_len, Pl.nums_len] <;> simp [Pl.nums_len]))
      clear s2
      go_wp2_with fail
      refine CQ.out.mono ?_
      rintro e w3 ⟨rfl, s3, -⟩
      have CL := Lib.hid (fun A t => stk_len W (fun _ => False) _ _ (w3.alloc (.cells A t)) (s3.grown ((Grown.refl w3).alloc A t)))
      have HK := Lib.hid (fun A t => (s3.grown ((Grown.refl w3).alloc A t)).keptw)
      clear s3
      go_wp2_with fail
      refine (CL.out _ _).mono ?_
      rintro e w4 ⟨rfl, rfl⟩
      rw [Pl.rot_len _ _ _ (by rw [Pl.nums_len]; omega), Pl.nums_len]
      go_wp2_with fail
      go_ret
      exact ⟨rfl, HK.out _ _⟩

set_option maxHeartbeats 2000000 in
set_option maxRecDepth 100000 in
theorem numbers_ex (W0 W : World) (Pr : Nat → Prop) (hK : Kept W0 W) (hPr : ∀ c, Pr c → c < W.heap.size) (n : Nat) (hn : n ≤ 200) :
    Calls Try.prog 25 #[.int .i64 (n : Int)] W fun e w' => e = .returned (.pointer (some ⟨W.heap.size, 0, none⟩)) ∧ Stk W0 Pr W.heap.size (Pl.nums 0 n) w' ∧ FrS W0 Pr W w' := by
  have CN := Lib.hid (stk_new W0 Pr W hK hPr)
  go_enter Try.func25, Try.ntmps25
  go_wp2_with fail
  refine CN.out.mono ?_
  rintro e w1 ⟨rfl, s1, f1⟩
  have S1 := Lib.hid s1
  have F1 := Lib.hid f1
  clear s1 f1 CN
  go_wp2_with fail
  go_loopw [4] (fun i wr => ∃ k : Nat, i = .int .i64 (k : Int) ∧ k ≤ n ∧ Hid (Stk W0 Pr W.heap.size (Pl.nums 0 k) wr) ∧ Hid (FrS W0 Pr W wr)) (fun i _ => ((n : Int) - intOf i).toNat)
  case atStart => exact ⟨0, rfl, by omega, S1, F1⟩
  case round =>
    obtain ⟨k, rfl, hk, SR, FR⟩ := hrel
    rcases Nat.lt_or_eq_of_le hk with hkn | rfl
    · have CP := Lib.hid (stk_push W0 Pr _ _ wr SR.out (Pl.io (k : Int)) (Pl.io_may _ (by omega)) (by rw [Pl.nums_len]; omega))
      have hkn' : (k : Int) < (n : Int) := by omega
      go_wp2_with fail
      refine CP.out.mono ?_
      rintro e w2 ⟨rfl, s2, f2⟩
      have S2 := Lib.hid s2
      have F2 := Lib.hid f2
      clear s2 f2
      go_wp2_with fail
      go_roundw
      case rel => exact ⟨k + 1, by simp, by omega, by rw [Pl.nums_succ, Int.zero_add]; exact S2, Lib.hid (FR.out.trans F2.out)⟩
      case measure => simp [intOf] <;> omega
    · go_wp2_with fail
      go_ret
      exact ⟨rfl, SR.out, FR.out⟩
end Go.Proofs.Ytenmbkngkabonaa
