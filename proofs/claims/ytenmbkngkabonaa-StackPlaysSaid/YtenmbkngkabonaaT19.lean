/- The walk of the law StackRolls. -/
import Derived.Test.YtenmbkngkabonaaT18
import Derived.Test.YtenmbkngkabonaaPlFix
namespace Go.Proofs.Ytenmbkngkabonaa
set_option linter.unusedVariables false
open Go.RowKit

namespace Pl
theorem tmod_bd14 (x m : Int) (hm : 0 < m) : -m < x.tmod m ∧ x.tmod m < m := by
  by_cases h : 0 ≤ x
  · have h1 := Int.tmod_nonneg m h
    have h2 := Int.tmod_lt_of_pos x hm
    omega
  · have h1 := Int.tmod_nonneg m (show 0 ≤ -x by omega)
    have h2 := Int.tmod_lt_of_pos (-x) hm
    rw [Int.neg_tmod] at h1 h2
    omega
end Pl
theorem place14_any (v n : Int) (hn : 0 < n) (hn' : n ≤ 4611686018427387904) (w : World) :
    Calls Try.prog 29 #[.int .i64 v, .int .i64 n] w fun e w' => e = .returned (.int .i64 (v % n)) ∧ w = w' := by
  have hb := Pl.tmod_bd14 v n hn
  have he := Lib.hid (Pl.place_eq v n hn)
  by_cases h : v.tmod n < 0
  · go_enter Try.func29, Try.ntmps29
    go_wp2
    go_ret
    exact ⟨ret_int (by rw [← he.out, if_pos (by assumption)]), rfl⟩
  · go_enter Try.func29, Try.ntmps29
    go_wp2
    go_ret
    exact ⟨ret_int (by rw [← he.out, if_neg (by omega)]), rfl⟩

theorem RowP.also {Pr : Nat → Prop} {W : World} {v : Value} {L : List Pl.Ob} (h : RowP Pr W v L) (x : Value) : RowP (fun c => Pr c ∨ x.ownBlock = some c) W v L := h.weaken (fun c q => .inl q)

set_option maxHeartbeats 4000000 in
set_option maxRecDepth 100000 in
theorem walk_StackRolls (a0 a1 a2 : Int) (w0 : (Lit.int .u8 a0).wf = true) (w1 : (Lit.int .u8 a1).wf = true) (w2 : (Lit.int .i32 a2).wf = true) (W : World) :
    Calls Try.prog 5 #[.int .u8 a0, .int .u8 a1, .int .i32 a2] W fun e w' => e = .returned (.bool true) ∧ Kept W w' := by
  have h0 : 0 ≤ a0 ∧ a0 ≤ 255 := by simp [Lit.wf, IntKind.min, IntKind.max, IntKind.signed, IntKind.bits] at w0; omega
  have h1 : 0 ≤ a1 ∧ a1 ≤ 255 := by simp [Lit.wf, IntKind.min, IntKind.max, IntKind.signed, IntKind.bits] at w1; omega
  have h2 : -2147483648 ≤ a2 ∧ a2 ≤ 2147483647 := by simp [Lit.wf, IntKind.min, IntKind.max, IntKind.signed, IntKind.bits] at w2; omega
  obtain ⟨hlo0, hhi0⟩ := h0
  obtain ⟨hlo1, hhi1⟩ := h1
  obtain ⟨hlo2, hhi2⟩ := h2
  obtain ⟨n, hn⟩ : ∃ n : Nat, a0 % 100 = (n : Int) := ⟨(a0 % 100).toNat, by omega⟩
  have hn1 : n ≤ 99 := by omega
  have hm0 := Int.emod_nonneg a1 (show (n : Int) + 1 ≠ 0 by omega)
  have hm1 := Int.emod_lt_of_pos a1 (show 0 < (n : Int) + 1 by omega)
  obtain ⟨k, hk⟩ : ∃ k : Nat, a1 % ((n : Int) + 1) = (k : Int) := ⟨(a1 % ((n : Int) + 1)).toNat, by omega⟩
  have hkn : k ≤ n := by omega
  have hte : a1 % (a0 % 100 + 1) = (k : Int) := by rw [hn, hk]
  have hteb : 0 ≤ a1 % (a0 % 100 + 1) ∧ a1 % (a0 % 100 + 1) < 200 := by rw [hte]; omega
  obtain ⟨htb0, htb1⟩ := hteb
  have HN := Lib.hid hn
  have HK := Lib.hid hte
  have CK := Lib.hid (known14_ex W)
  clear hn hk hte hm0 hm1 w0 w1 w2
  go_enter Try.func5, Try.ntmps5
  go_wp2_with fail
  refine CK.out.mono ?_
  rintro e w1 ⟨rfl, k1⟩
  have C1 := Lib.hid (numbers_ex W w1 (fun _ => False) k1 (fun c q => q.elim) n (by omega))
  clear k1 CK
  go_wp2_with fail
  rw [HK.out, HN.out]
  refine C1.out.mono ?_
  rintro e w2 ⟨rfl, s2, -⟩
  have C2 := Lib.hid (stk_items W _ _ _ w2 s2 (by rw [Pl.nums_len]; omega))
  clear s2 C1
  go_wp2_with fail
  refine C2.out.mono ?_
  rintro e w3 ⟨vi, rfl, r3, s3, -, -⟩
  have C3 := Lib.hid (stk_roll W _ _ _ w3 s3 k a2 (by rw [Pl.nums_len]; omega) (by rw [Pl.nums_len]; omega))
  have R3 := Lib.hid r3
  clear s3 r3 C2
  go_wp2_with fail
  refine C3.out.mono ?_
  rintro e w4 ⟨rfl, s4, f4⟩
  have R4 := Lib.hid (R3.out.fr f4)
  have hln : (Pl.rot (Pl.nums 0 n) k a2).length = n := by rw [Pl.rot_len _ _ _ (by rw [Pl.nums_len]; omega), Pl.nums_len]
  have HLN := Lib.hid hln
  have S4 := Lib.hid s4
  have C4 := Lib.hid (stk_len W _ _ _ w4 s4)
  clear s4 f4 C3 R3
  go_wp2_with fail
  refine C4.out.mono ?_
  rintro e wq ⟨rfl, rfl⟩
  rw [hln]
  clear hln C4
  have C5 := Lib.hid (stk_items W _ _ _ _ S4.out (by rw [HLN.out]; omega))
  clear S4
  go_wp2_with fail
  refine C5.out.mono ?_
  rintro e w5 ⟨vl, rfl, r5, s5, f5, -⟩
  have R5 := Lib.hid ((R4.out.fr f5).also vl)
  have RL := Lib.hid r5.1
  have S5 := Lib.hid s5
  obtain ⟨al, cl, rfl, -⟩ := id r5.1
  rw [HLN.out] at RL S5 R5
  clear s5 r5 f5 C5 R4
  rw [HLN.out]
  go_wp2_with fail
  go_loopw [12] (fun i wr => ∃ c : Nat, i = .int .i64 (c : Int) ∧ c ≤ n ∧ wr = w5) (fun i _ => ((n : Int) - intOf i).toNat)
  case atStart => exact ⟨0, rfl, by omega, rfl⟩
  case round =>
    obtain ⟨c, rfl, hc, rfl⟩ := hrel
    rcases Nat.lt_or_eq_of_le hc with hcn | rfl
    · have hcn' : (c : Int) < (n : Int) := by omega
      obtain ⟨q, hq⟩ : ∃ q, (Pl.rot (Pl.nums 0 n) k a2)[c]? = some q := ⟨_, List.getElem?_eq_getElem (by rw [HLN.out]; omega)⟩
      have hqn := Pl.rot_at (Pl.nums 0 n) k (by rw [Pl.nums_len]; exact hkn) a2 c (by rw [Pl.nums_len]; exact hcn)
      rw [hq, Pl.nums_len] at hqn
      obtain ⟨ga, oa, ca, hva, hga, b0, b1, b2, b3, b4, b5⟩ := RL.out.at c _ hq
      injection hva with q1 q2 q3
      subst q1
      clear q2 q3
      by_cases hcase : c < n - k
      · rw [if_pos hcase, Pl.nums_at _ _ _ hcn] at hqn
        injection hqn with hqn
        have e1 : q.2.2.1 = (c : Int) := by rw [hqn]; simp [Pl.io]
        rw [e1] at b2
        have e2 : (c : Int) < (n : Int) - (k : Int) := by omega
        clear hq hqn hcase b0 b1 b3 b4 b5
        go_wp2_with fail
        go_roundw
        case rel => exact ⟨c + 1, by simp, by omega, trivial⟩
        case measure => simp [intOf] <;> omega
      · rw [if_neg hcase] at hqn
        have hkp : 0 < k := by omega
        have hp0 := Int.emod_nonneg ((c : Int) - ((n - k : Nat) : Int) - a2) (show (k : Int) ≠ 0 by omega)
        have hp1 := Int.emod_lt_of_pos ((c : Int) - ((n - k : Nat) : Int) - a2) (show (0 : Int) < k by omega)
        obtain ⟨pl, hpl⟩ : ∃ pl : Nat, ((c : Int) - ((n - k : Nat) : Int) - a2) % (k : Int) = (pl : Int) := ⟨(((c : Int) - ((n - k : Nat) : Int) - a2) % (k : Int)).toNat, by omega⟩
        have e3 : (pl : Int) < (k : Int) := by rw [← hpl]; exact hp1
        rw [hpl, Int.toNat_natCast, Pl.nums_at _ _ _ (by omega)] at hqn
        injection hqn with hqn
        have hnk : ((n - k : Nat) : Int) = (n : Int) - (k : Int) := by omega
        rw [hnk] at hpl
        have e1 : q.2.2.1 = (n : Int) - (k : Int) + (pl : Int) := by rw [hqn]; simp [Pl.io]; omega
        rw [e1] at b2
        have CPl := Lib.hid (place14_any ((c : Int) - ((n : Int) - (k : Int)) - a2) (k : Int) (by omega) (by omega))
        rw [hpl] at CPl
        have e2 : ¬ ((c : Int) < (n : Int) - (k : Int)) := by omega
        have e4 : (0 : Int) ≤ (pl : Int) := by omega
        have e5 : (k : Int) ≤ (n : Int) := by omega
        have e6 : (n : Int) ≤ 99 := by omega
        clear hq hqn hcase b0 b1 b3 b4 b5 hp0 hp1 hpl hnk e1
        go_wp2_with fail
        refine (CPl.out _).mono ?_
        rintro e wp ⟨rfl, rfl⟩
        go_wp2_with fail
        go_roundw
        case rel => exact ⟨c + 1, by simp, by omega, trivial⟩
        case measure => simp [intOf] <;> omega
    · have CB := Lib.hid (stk_roll W _ _ _ _ S5.out k (-a2) (by rw [HLN.out]; omega) (by rw [HLN.out]; omega))
      rw [Pl.rot_back (Pl.nums 0 c) k (by rw [Pl.nums_len]; omega) a2] at CB
      go_wp2_with fail
      refine CB.out.mono ?_
      rintro e w6 ⟨rfl, s6, f6⟩
      have R6 := Lib.hid (R5.out.fr f6)
      have C6 := Lib.hid (stk_items W _ _ _ w6 s6 (by rw [Pl.nums_len]; omega))
      clear s6 f6 CB S5 RL R5
      go_wp2_with fail
      refine C6.out.mono ?_
      rintro e w7 ⟨vm, rfl, r7, s7, f7, -⟩
      have R7 := Lib.hid ((R6.out.fr f7).also vm)
      have C7 := Lib.hid (same_yes vm vi (Pl.nums 0 c) (by rw [Pl.nums_len]; omega) w7 r7.1 R7.out.1)
      have S7 := Lib.hid s7
      clear s7 r7 f7 C6 R6
      go_wp2_with fail
      refine C7.out.mono ?_
      rintro e w8 ⟨rfl, g8⟩
      have C8 := Lib.hid (stk_roll W _ _ _ _ (S7.out.grown g8) k (3 * (k : Int)) (by rw [Pl.nums_len]; omega) (by rw [Pl.nums_len]; omega))
      rw [Pl.rot_whole (Pl.nums 0 c) k (by rw [Pl.nums_len]; omega) 3] at C8
      have R8 := Lib.hid (R7.out.grown g8)
      clear S7 C7 R7 g8
      go_wp2_with fail
      refine C8.out.mono ?_
      rintro e w9 ⟨rfl, s9, f9⟩
      have R9 := Lib.hid (R8.out.fr f9)
      have C9 := Lib.hid (stk_items W _ _ _ w9 s9 (by rw [Pl.nums_len]; omega))
      clear s9 f9 C8 R8
      go_wp2_with fail
      refine C9.out.mono ?_
      rintro e w10 ⟨vo, rfl, r10, s10, f10, -⟩
      have R10 := Lib.hid (R9.out.fr f10)
      have C10 := Lib.hid (same_yes vo vi (Pl.nums 0 c) (by rw [Pl.nums_len]; omega) w10 r10.1 R10.out.1)
      have KK := Lib.hid s10.keptw
      clear s10 r10 f10 C9 R9
      go_wp2_with fail
      refine C10.out.mono ?_
      rintro e w11 ⟨rfl, g11⟩
      go_wp2_with fail
      go_ret
      exact ⟨rfl, KK.out.trans (Kept.of_grown g11)⟩
end Go.Proofs.Ytenmbkngkabonaa
