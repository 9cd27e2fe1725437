/- The reference of layer 6: pointed, Read: the walks. -/
import Derived.Test.YtpfkijjpophobaaQ3
import Derived.Test.YtpfkijjpophobaaQ4
import Derived.Deep.DeepCutAuto
import Derived.Deep.CutBlock
namespace Go.Proofs.Ytpfkijjpophobaa
set_option linter.unusedVariables false
open Go.RowKit

set_option maxRecDepth 100000 in
theorem rpointed_any (A B : List UInt8) (hA : Pl.dig A) (hB : Pl.dig B) (hl : A.length + B.length < 4611686018427387904) (W : World) :
    Calls Try.prog 44 #[.string (Pl.tx A), .string (Pl.tx B)] W fun e w' => e = .returned (.tuple #[.int .i64 (Pl.rpointed A B).1, .int .i64 (Pl.rpointed A B).2]) ∧ Grown W w' := by
  have hBs : (Pl.tx B).size = B.length := Pl.tx_size B
  obtain ⟨R, hR⟩ : ∃ R, R = Pl.rpointed A B := ⟨_, rfl⟩
  rw [← hR]
  unfold Pl.rpointed at hR
  by_cases h12 : 12 < B.length
  · rw [if_pos h12] at hR
    subst hR
    obtain ⟨sA, hsA⟩ : ∃ sA, sA = Pl.tx A := ⟨_, rfl⟩
    obtain ⟨sB, hsB⟩ : ∃ sB, sB = Pl.tx B := ⟨_, rfl⟩
    rw [← hsA, ← hsB]
    rw [← hsB] at hBs
    have t : decide ((12 : Int) < (sB.size : Int)) = true := decide_eq_true (by omega)
    clear hsA hsB
    go_enter Try.func44, Try.ntmps44
    go_wp2_with fail
    go_ret2
    exact ⟨rfl, Grown.refl _⟩
  · rw [if_neg h12] at hR
    have KA := fun Z => add_any A (by omega) 10 (by omega) (Pl.dig_cv A hA) Z
    have KB := fun Z => add_any B (by omega) 10 (by omega) (Pl.dig_cv B hB) Z
    have bA := Pl.rav_bd 10 0 A (by omega) (Pl.dig_cv A hA) (by omega) (by omega)
    have bB := Pl.rav_bd 10 0 B (by omega) (Pl.dig_cv B hB) (by omega) (by omega)
    have KT := fun Z => rten_any B.length (by omega) Z
    have hp : 10 ^ B.length ≤ 10 ^ 12 := Nat.pow_le_pow_right (by omega) (by omega)
    have hp0 := Nat.pow_pos (n := B.length) (show 0 < 10 by omega)
    obtain ⟨p, hpp⟩ : ∃ p, p = 10 ^ B.length := ⟨_, rfl⟩
    rw [← hpp] at KT hp hp0 hR
    obtain ⟨a, ha⟩ : ∃ a, a = Pl.rav 10 0 A := ⟨_, rfl⟩
    obtain ⟨b, hb⟩ : ∃ b, b = Pl.rav 10 0 B := ⟨_, rfl⟩
    rw [← ha] at KA bA hR
    rw [← hb] at KB bB hR
    have KM := fun Z => muldiv_small b 65536 (p : Int) (b * 65536) (by omega) (by omega) (by omega) rfl (by omega) Z
    have hn := Pl.nst_le (b * 65536) (p : Int) (by omega) (by omega)
    obtain ⟨m, hm⟩ : ∃ m, m = Pl.nst (b * 65536) (p : Int) := ⟨_, rfl⟩
    rw [← hm] at KM hn hR
    obtain ⟨sA, hsA⟩ : ∃ sA, sA = Pl.tx A := ⟨_, rfl⟩
    obtain ⟨sB, hsB⟩ : ∃ sB, sB = Pl.tx B := ⟨_, rfl⟩
    rw [← hsA] at KA
    rw [← hsB] at KB hBs
    rw [← hsA, ← hsB]
    obtain ⟨n, hn'⟩ : ∃ n : Nat, n = B.length := ⟨_, rfl⟩
    rw [← hn'] at KT hBs
    have t : (n : Int) ≤ 12 := by omega
    have KA := Lib.hid KA
    have KB := Lib.hid KB
    have KT := Lib.hid KT
    have KM := Lib.hid KM
    obtain ⟨m0, m1⟩ := hn
    obtain ⟨a0, a1⟩ := bA
    obtain ⟨b0, b1⟩ := bB
    have HR := Lib.hid hR
    clear hsA hsB hpp ha hb hm hn' hR h12
    by_cases hv : 1073741823 < a * 65536 + m
    · have hR0 : R = (0, 2) := by rw [HR.out, if_pos hv]
      subst hR0
      clear HR
      go_enter Try.func44, Try.ntmps44
      go_wp2_with fail
      refine (KB.out _).mono ?_
      rintro e w1 ⟨rfl, g1⟩
      go_wp2_with fail
      refine (KT.out _).mono ?_
      rintro e w2 ⟨rfl, rfl⟩
      go_wp2_with fail
      refine (KM.out _).mono ?_
      rintro e w3 ⟨rfl, g3⟩
      go_wp2_with fail
      refine (KA.out _).mono ?_
      rintro e w4 ⟨rfl, g4⟩
      go_wp2_with fail
      go_ret2
      exact ⟨rfl, grown_trans g1 (grown_trans g3 g4)⟩
    · have hR0 : R = (a * 65536 + m, 0) := by rw [HR.out, if_neg hv]
      subst hR0
      clear HR
      go_enter Try.func44, Try.ntmps44
      go_wp2_with fail
      refine (KB.out _).mono ?_
      rintro e w1 ⟨rfl, g1⟩
      go_wp2_with fail
      refine (KT.out _).mono ?_
      rintro e w2 ⟨rfl, rfl⟩
      go_wp2_with fail
      refine (KM.out _).mono ?_
      rintro e w3 ⟨rfl, g3⟩
      go_wp2_with fail
      refine (KA.out _).mono ?_
      rintro e w4 ⟨rfl, g4⟩
      go_wp2_with fail
      go_ret2
      exact ⟨rfl, grown_trans g1 (grown_trans g3 g4)⟩

theorem Pl.first_of (c : UInt8) : ∀ (l : List UInt8), c ∈ l → ∃ A B, l = A ++ c :: B ∧ c ∉ A
  | [], h => by cases h
  | x :: r, h => by
    by_cases hx : x = c
    · exact ⟨[], r, by rw [hx]; rfl, fun q => by cases q⟩
    · have hr : c ∈ r := by
        rcases List.mem_cons.1 h with h | h
        · exact absurd h.symm hx
        · exact h
      obtain ⟨A, B, rfl, hA⟩ := Pl.first_of c r hr
      exact ⟨x :: A, B, rfl, fun q => by
        rcases List.mem_cons.1 q with q | q
        · exact hx q.symm
        · exact hA q⟩
set_option maxRecDepth 100000 in
theorem rread_hash (A B : List UInt8) (hA : (35 : UInt8) ∉ A) (hl : A.length + B.length < 4611686018427387904) (W : World) :
    Calls Try.prog 19 #[.string (Pl.tx (A ++ 35 :: B))] W fun e w' => e = .returned (.tuple #[.int .i64 (Pl.rbased A B).1, .int .i64 (Pl.rbased A B).2.1, .int .i64 (Pl.rbased A B).2.2]) ∧ Grown W w' := by
  have C1 := Lib.hid (fun Z => find_some A B 35 hA hl Z)
  have C2 := Lib.hid (fun Z => rbased_any A B hl Z)
  obtain ⟨s, hs⟩ : ∃ s, s = Pl.tx (A ++ 35 :: B) := ⟨_, rfl⟩
  rw [← hs] at C1 C2
  rw [← hs]
  obtain ⟨n, hn⟩ : ∃ n, n = A.length := ⟨_, rfl⟩
  rw [← hn] at C1 C2
  have hn1 : (n : Int) ≤ 4611686018427387904 := by omega
  obtain ⟨R, hR⟩ : ∃ R, R = Pl.rbased A B := ⟨_, rfl⟩
  rw [← hR] at C2
  rw [← hR]
  clear hs hn hR
  go_enter Try.func19, Try.ntmps19
  go_wp2_with fail
  refine (C1.out _).mono ?_
  rintro e w1 ⟨rfl, rfl⟩
  go_wp2_with fail
  refine (C2.out _).mono ?_
  rintro e w2 ⟨rfl, g2⟩
  go_wp2_with fail
  go_ret3
  exact ⟨rfl, g2⟩
def Pl.kk (m : Bool) : Int := if m then -1 else 1
theorem Pl.kk_mul (m : Bool) (v : Int) : Pl.kk m * v = Pl.sgd m v := by
  cases m
  · show 1 * v = v
    rw [Int.one_mul]
  · show -1 * v = -v
    rw [Int.neg_mul, Int.one_mul]
theorem Pl.kk_cases (m : Bool) : (m = false ∧ Pl.kk m = 1) ∨ (m = true ∧ Pl.kk m = -1) := by
  cases m
  · exact .inl ⟨rfl, rfl⟩
  · exact .inr ⟨rfl, rfl⟩
set_option maxHeartbeats 4000000 in
set_option maxRecDepth 100000 in
theorem rread_rest (l S T : List UInt8) (h35 : (35 : UInt8) ∉ l) (hST : l = S ++ T) (hS : Pl.isS S) (h0 : S = [] → ∀ b r, T = b :: r → b.toNat ≠ 43 ∧ b.toNat ≠ 45) (hl : l.length < 4611686018427387904) (W : World) :
    Calls Try.prog 19 #[.string (Pl.tx l)] W fun e w' => e = .returned (.tuple #[.int .i64 (Pl.read (Pl.tx l)).1, .int .i64 (Pl.read (Pl.tx l)).2.1, .int .i64 (Pl.read (Pl.tx l)).2.2]) ∧ Grown W w' := by
  have C1 := Lib.hid (fun Z => find_none l 35 h35 hl Z)
  have hTl : T.length < 4611686018427387904 := by rw [hST, List.length_append] at hl; omega
  obtain ⟨sT, hsT⟩ : ∃ sT, sT = Pl.tx T := ⟨_, rfl⟩
  obtain ⟨s, hs⟩ : ∃ s, s = Pl.tx l := ⟨_, rfl⟩
  obtain ⟨m, hm⟩ : ∃ m, m = decide (S = [45]) := ⟨_, rfl⟩
  obtain ⟨g, hg⟩ : ∃ g, g = decide (S ≠ []) := ⟨_, rfl⟩
  have cases : (s = ⟨#[]⟩ ∧ sT = s ∧ g = false ∧ m = false) ∨ (¬ s.toList = [] ∧ ∃ c : Nat, c ≤ 255 ∧ (∀ W, (Instr.index 9 (.string s) (.int .i64 0)).run Try.prog W = .ok (.int .u8 (c : Int)) W) ∧
      ((g = false ∧ m = false ∧ sT = s ∧ c ≠ 43 ∧ c ≠ 45) ∨ (g = true ∧ (∀ W, (Instr.slice 9 (.string s) (some (.int .i64 1)) none none).run Try.prog W = .ok (.string sT) W) ∧ ((c = 43 ∧ m = false) ∨ (c = 45 ∧ m = true))))) := by
    subst hs hsT hm hg hST
    rcases hS with rfl | rfl | rfl
    · cases T with
      | nil => exact .inl ⟨rfl, rfl, by simp, by simp⟩
      | cons b r =>
        refine .inr ⟨Pl.tx_nonempty _ (by simp), b.toNat, by have := b.toNat_lt; omega, fun W => byte_at ([] ++ b :: r) 0 b rfl W, .inl ⟨by simp, by simp, rfl, ?_⟩⟩
        exact h0 rfl b r rfl
    · refine .inr ⟨Pl.tx_nonempty _ (by simp), 43, by omega, fun W => byte_at ([43] ++ T) 0 43 rfl W, .inr ⟨by simp, fun W => ?_, .inl ⟨rfl, by simp⟩⟩⟩
      have := slice_from ([43] ++ T) 1 (by simp) W
      exact this
    · refine .inr ⟨Pl.tx_nonempty _ (by simp), 45, by omega, fun W => byte_at ([45] ++ T) 0 45 rfl W, .inr ⟨by simp, fun W => ?_, .inr ⟨rfl, by simp⟩⟩⟩
      have := slice_from ([45] ++ T) 1 (by simp) W
      exact this
  have HR : Hid ((46 ∉ T → Pl.read s = Pl.rwhole m T) ∧ (∀ A B, T = A ++ 46 :: B → (46 : UInt8) ∉ A → Pl.read s = Pl.rpart m A B)) := Lib.hid (by
    subst hs hm hST
    exact ⟨fun q => Pl.read_unpointed S T hS h0 h35 q, fun A B e q => by subst e; exact Pl.read_pointed S A B hS h0 h35 q⟩)
  obtain ⟨R, hR⟩ : ∃ R, R = Pl.read s := ⟨_, rfl⟩
  rw [← hs] at C1
  rw [← hs, ← hR]
  rw [← hR] at HR
  have HsT := Lib.hid hsT
  clear hs hm hg hsT hR hS h0 h35 hST
  go_enter Try.func19, Try.ntmps19
  go_wp2_with fail
  refine (C1.out _).mono ?_
  rintro e w1 ⟨rfl, rfl⟩
  go_upto_region 5 with fail
  clear C1
  go_cut [36] (fun t wx => t = .bool g ∧ W = wx)
  case first =>
    rcases cases with ⟨rfl, -, rfl, rfl⟩ | ⟨hl3, c, c255, I0, ⟨rfl, rfl, -, h43, h45⟩ | ⟨rfl, -, ⟨rfl, rfl⟩ | ⟨rfl, rfl⟩⟩⟩
    · go_wp2_with fail
      go_meet
      case rel => exact ⟨rfl, rfl⟩
    · have hl1 := Pl.ne_beq hl3
      have hl2 := Pl.ne_empty hl3
      have b43 : ((c : Int) == 43) = false := beq_eq_false_iff_ne.2 (by omega)
      have b45 : ((c : Int) == 45) = false := beq_eq_false_iff_ne.2 (by omega)
      go_wp2_with fail
      go_meet
      case rel => exact ⟨rfl, rfl⟩
    all_goals
      have hl1 := Pl.ne_beq hl3
      have hl2 := Pl.ne_empty hl3
      go_wp2_with fail
      go_meet
      case rel => exact ⟨rfl, rfl⟩
  case rest =>
    obtain ⟨rfl, rfl⟩ := hcut
    go_upto_if 36 with fail
    go_cut [6] (fun t wx => t = .string sT ∧ W = wx)
    case first =>
      rcases cases with ⟨rfl, e1, rfl, rfl⟩ | ⟨hl3, c, c255, I0, ⟨rfl, rfl, e1, h43, h45⟩ | ⟨rfl, sl, e2⟩⟩
      · go_wp2_with fail
        go_meet
        case rel => exact ⟨by rw [e1], rfl⟩
      · go_wp2_with fail
        go_meet
        case rel => exact ⟨by rw [e1], rfl⟩
      · go_wp2_with fail
        go_meet
        case rel => exact ⟨rfl, rfl⟩
    case rest =>
      obtain ⟨rfl, rfl⟩ := hcut
      go_upto_region 7 with fail
      go_cut [45] (fun t wx => t = .bool m ∧ W = wx)
      case first =>
        rcases cases with ⟨rfl, -, rfl, rfl⟩ | ⟨hl3, c, c255, I0, ⟨rfl, rfl, -, h43, h45⟩ | ⟨rfl, -, ⟨rfl, rfl⟩ | ⟨rfl, rfl⟩⟩⟩
        · go_wp2_with fail
          go_meet
          case rel => exact ⟨rfl, rfl⟩
        · have hl1 := Pl.ne_beq hl3
          have hl2 := Pl.ne_empty hl3
          have b43 : ((c : Int) == 43) = false := beq_eq_false_iff_ne.2 (by omega)
          have b45 : ((c : Int) == 45) = false := beq_eq_false_iff_ne.2 (by omega)
          go_wp2_with fail
          go_meet
          case rel => exact ⟨rfl, rfl⟩
        all_goals
          have hl1 := Pl.ne_beq hl3
          have hl2 := Pl.ne_empty hl3
          go_wp2_with fail
          go_meet
          case rel => exact ⟨rfl, rfl⟩
      case rest =>
        obtain ⟨rfl, rfl⟩ := hcut
        go_upto_if 45 with fail
        have hk := Pl.kk_cases m
        have HK := Lib.hid (fun v => Pl.kk_mul m v)
        go_cut [7] (fun t wx => t = .int .i64 (Pl.kk m) ∧ W = wx)
        case first =>
          clear cases HK HR
          rcases hk with ⟨rfl, hk⟩ | ⟨rfl, hk⟩
          all_goals
            go_wp2_with fail
            go_meet
            case rel => exact ⟨rfl, rfl⟩
        case rest =>
          obtain ⟨rfl, rfl⟩ := hcut
          clear cases
          have hk0 : -1 ≤ Pl.kk m := by omega
          have hk1 : Pl.kk m ≤ 1 := by omega
          obtain ⟨k, hkk⟩ : ∃ k, k = Pl.kk m := ⟨_, rfl⟩
          rw [← hkk] at hk0 hk1 HK
          try rw [← hkk]
          clear hk hkk
          by_cases h46 : (46 : UInt8) ∈ T
          · obtain ⟨A, B, rfl, hA⟩ := Pl.first_of 46 T h46
            have HR1 := Lib.hid (HR.out.2 A B rfl hA)
            have hlAB : A.length + B.length < 4611686018427387904 := by rw [List.length_append, List.length_cons] at hTl; omega
            have C2 := Lib.hid (fun Z => find_some A B 46 hA hlAB Z)
            have CA := Lib.hid (fun Z => all_any A (by omega) Z)
            have CB := Lib.hid (fun Z => all_any B (by omega) Z)
            have s1 := slice_to (A ++ 46 :: B) A.length (by rw [List.length_append]; omega)
            rw [List.take_left] at s1
            have s2 := slice_from (A ++ 46 :: B) (A.length + 1) (by rw [List.length_append, List.length_cons]; omega)
            rw [show (A ++ 46 :: B).drop (A.length + 1) = B by rw [show A ++ 46 :: B = (A ++ [46]) ++ B by simp]; exact List.drop_left' (by simp), show ((A.length + 1 : Nat) : Int) = (A.length : Int) + 1 by omega] at s2
            have hsz : sT.size = A.length + B.length + 1 := by rw [HsT.out, Pl.tx_size, List.length_append, List.length_cons]; omega
            rw [← HsT.out] at C2 s1 s2
            have CP := Lib.hid (fun (ha : Pl.dig A) (hb : Pl.dig B) Z => rpointed_any A B ha hb hlAB Z)
            obtain ⟨sA, hsA⟩ : ∃ sA, sA = Pl.tx A := ⟨_, rfl⟩
            obtain ⟨sB, hsB⟩ : ∃ sB, sB = Pl.tx B := ⟨_, rfl⟩
            rw [← hsA] at s1 CA CP
            rw [← hsB] at s2 CB CP
            have HLEN : Hid (A.length + B.length = 0 ↔ A.length + B.length = 0) := Lib.hid Iff.rfl
            have cs : (Pl.allD A = false ∧ R = (0, 0, 3)) ∨ (Pl.allD A = true ∧ Pl.allD B = false ∧ R = (0, 0, 3)) ∨ (Pl.allD A = true ∧ Pl.allD B = true ∧ A.length + B.length = 0 ∧ R = (0, 0, 3)) ∨
                (Pl.allD A = true ∧ Pl.allD B = true ∧ A.length + B.length ≠ 0 ∧ R = if (Pl.rpointed A B).2 = 0 then (2, Pl.sgd m (Pl.rpointed A B).1, 0) else (0, 0, (Pl.rpointed A B).2)) := by
              have h := HR1.out
              unfold Pl.rpart at h
              cases a : Pl.allD A with
              | false => exact .inl ⟨rfl, by rw [h, if_pos (.inl a)]⟩
              | true =>
                cases b : Pl.allD B with
                | false => exact .inr (.inl ⟨rfl, rfl, by rw [h, if_pos (.inr (.inl b))]⟩)
                | true =>
                  by_cases hz : A.length + B.length = 0
                  · exact .inr (.inr (.inl ⟨rfl, rfl, hz, by rw [h, if_pos (.inr (.inr hz))]⟩))
                  · have hh : ¬ (Pl.allD A = false ∨ Pl.allD B = false ∨ A.length + B.length = 0) := by
                      rintro (q | q | q)
                      · rw [a] at q; cases q
                      · rw [b] at q; cases q
                      · exact hz q
                    exact .inr (.inr (.inr ⟨rfl, rfl, hz, by rw [h, if_neg hh]⟩))
            obtain ⟨n, hn⟩ : ∃ n, n = A.length := ⟨_, rfl⟩
            have hnI : (n : Int) ≤ 4611686018427387904 := by omega
            have hwr : IntKind.i64.wrap ((n : Int) + 1) = (n : Int) + 1 := by rw [IntKind.wrap_i64]; omega
            rw [← hn] at C2 s1 s2
            have HSZ := Lib.hid hsz
            clear HR HR1 hA h46 hsA hsB HsT hTl HLEN hsz hlAB hn
            go_wp2_with fail
            refine (C2.out _).mono ?_
            rintro e w2 ⟨rfl, rfl⟩
            go_wp2_with fail
            go_quiet (fail)
            go_wp2_with fail
            rcases cs with ⟨a, hR⟩ | ⟨a, b, hR⟩ | ⟨a, b, hz, hR⟩ | ⟨a, b, hz, hR⟩
            · subst hR
              rw [a] at CA
              clear a CP CB
              refine (CA.out _).mono ?_
              rintro e w3 ⟨rfl, rfl⟩
              go_wp2_with fail
              go_ret3
              exact ⟨rfl, grown_drewN (Grown.refl W) _⟩
            · subst hR
              rw [a] at CA
              rw [b] at CB
              clear a b CP
              refine (CA.out _).mono ?_
              rintro e w3 ⟨rfl, rfl⟩
              go_wp2_with fail
              refine (CB.out _).mono ?_
              rintro e w3 ⟨rfl, rfl⟩
              go_wp2_with fail
              go_ret3
              exact ⟨rfl, grown_drewN (Grown.refl W) _⟩
            · subst hR
              rw [a] at CA
              rw [b] at CB
              have hz1 : (sT.size : Int) < 2 := by have := HSZ.out; omega
              clear a b CP hz
              refine (CA.out _).mono ?_
              rintro e w3 ⟨rfl, rfl⟩
              go_wp2_with fail
              refine (CB.out _).mono ?_
              rintro e w3 ⟨rfl, rfl⟩
              go_wp2_with fail
              go_ret3
              exact ⟨rfl, grown_drewN (Grown.refl W) _⟩
            · have CP1 := Lib.hid (CP.out ((Pl.allD_iff A).1 a) ((Pl.allD_iff B).1 b))
              rw [a] at CA
              rw [b] at CB
              have hz1 : ¬ (sT.size : Int) < 2 := by have := HSZ.out; omega
              have hpb := Pl.rpointed_bd A B ((Pl.allD_iff A).1 a) ((Pl.allD_iff B).1 b)
              obtain ⟨P, hP⟩ : ∃ P, P = Pl.rpointed A B := ⟨_, rfl⟩
              rw [← hP] at CP1 hR hpb
              obtain ⟨v, x⟩ := P
              have hR : R = if x = 0 then (2, Pl.sgd m v, 0) else (0, 0, x) := hR
              have hpb1 : 0 ≤ v := hpb.1
              have hpb2 : v ≤ 1073741823 := hpb.2.1
              have hpb3 : x = 0 ∨ x = 2 := hpb.2.2
              have HRR := Lib.hid hR
              clear a b CP hz hP hpb hR
              refine (CA.out _).mono ?_
              rintro e w3 ⟨rfl, rfl⟩
              go_wp2_with fail
              refine (CB.out _).mono ?_
              rintro e w3 ⟨rfl, rfl⟩
              go_wp2_with fail
              refine (CP1.out _).mono ?_
              rintro e w4 ⟨rfl, g4⟩
              have G4 : Hid (Grown W w4) := Lib.hid (grown_trans (grown_drewN (Grown.refl W) _) g4)
              clear g4 CA CB CP1
              rcases hpb3 with rfl | rfl
              · have m0 : 0 ≤ k * v ∨ k * v = -v := by
                  rcases (show k = -1 ∨ k = 0 ∨ k = 1 by omega) with rfl | rfl | rfl
                  · exact .inr (by omega)
                  · exact .inl (by omega)
                  · exact .inl (by omega)
                have m1 : -1073741823 ≤ k * v ∧ k * v ≤ 1073741823 := by
                  rcases (show k = -1 ∨ k = 0 ∨ k = 1 by omega) with rfl | rfl | rfl <;> omega
                obtain ⟨m2, m3⟩ := m1
                have HM := Lib.hid (HK.out v)
                obtain ⟨x, hx⟩ : ∃ x, k * v = x := ⟨_, rfl⟩
                rw [hx] at m2 m3 HM
                clear m0
                go_wp2_with fail
                go_ret3
                rw [HRR.out, ← HM.out]
                exact ⟨rfl, G4.out⟩
              · go_wp2_with fail
                go_ret3
                rw [HRR.out]
                exact ⟨rfl, G4.out⟩
          · have hR := HR.out.1 h46
            unfold Pl.rwhole at hR
            have C2 := Lib.hid (fun Z => find_none T 46 h46 hTl Z)
            have CA := Lib.hid (fun Z => all_any T hTl Z)
            have hne : T ≠ [] → ¬ sT.toList = [] := fun q => by rw [HsT.out]; exact Pl.tx_nonempty T q
            have hnil : T = [] → sT = ⟨#[]⟩ := fun q => by rw [HsT.out, q]; rfl
            have CD := Lib.hid (fun (h : Pl.dig T) Z => add_any T hTl 10 (by omega) (Pl.dig_cv T h) Z)
            rw [← HsT.out] at C2 CA CD
            clear HR HsT h46
            by_cases hT : T = []
            · rw [if_pos (.inl hT)] at hR
              subst hR
              have e := hnil hT
              subst e
              clear hne hnil CA CD hT
              go_wp2_with fail
              refine (C2.out _).mono ?_
              rintro e w2 ⟨rfl, rfl⟩
              go_wp2_with fail
              go_ret3
              exact ⟨rfl, Grown.refl _⟩
            · have hl3 := hne hT
              have hl1 := Pl.ne_beq hl3
              have hl2 := Pl.ne_empty hl3
              cases ha : Pl.allD T with
              | false =>
                rw [if_pos (.inr ha)] at hR
                subst hR
                rw [ha] at CA
                clear hne hnil CD hT ha
                go_wp2_with fail
                refine (C2.out _).mono ?_
                rintro e w2 ⟨rfl, rfl⟩
                go_wp2_with fail
                refine (CA.out _).mono ?_
                rintro e w3 ⟨rfl, rfl⟩
                go_wp2_with fail
                go_ret3
                exact ⟨rfl, Grown.refl _⟩
              | true =>
                rw [if_neg (by rintro (q | q); exact hT q; rw [ha] at q; cases q)] at hR
                have CD1 := Lib.hid (CD.out ((Pl.allD_iff T).1 ha))
                have hb := Pl.rav_bd 10 0 T (by omega) (Pl.dig_cv T ((Pl.allD_iff T).1 ha)) (by omega) (by omega)
                obtain ⟨v, hv⟩ : ∃ v, v = Pl.rav 10 0 T := ⟨_, rfl⟩
                rw [← hv] at CD1 hb hR
                rw [ha] at CA
                obtain ⟨b0, b1⟩ := hb
                have HRR := Lib.hid hR
                clear hne hnil CD hT ha hv hR
                go_wp2_with fail
                refine (C2.out _).mono ?_
                rintro e w2 ⟨rfl, rfl⟩
                go_wp2_with fail
                refine (CA.out _).mono ?_
                rintro e w3 ⟨rfl, rfl⟩
                go_wp2_with fail
                refine (CD1.out _).mono ?_
                rintro e w4 ⟨rfl, g4⟩
                clear C2 CA CD1
                by_cases hv : 2147483647 < v
                · have hR0 : R = (0, 0, 2) := by rw [HRR.out, if_pos hv]
                  subst hR0
                  clear HRR
                  go_wp2_with fail
                  go_ret3
                  exact ⟨rfl, g4⟩
                · have hR0 : R = (1, Pl.sgd m v, 0) := by rw [HRR.out, if_neg hv]
                  have m1 : -2147483647 ≤ k * v ∧ k * v ≤ 2147483647 := by
                    rcases (show k = -1 ∨ k = 0 ∨ k = 1 by omega) with rfl | rfl | rfl <;> omega
                  obtain ⟨m2, m3⟩ := m1
                  have HM := Lib.hid (HK.out v)
                  have HRQ := Lib.hid hR0
                  obtain ⟨x, hx⟩ : ∃ x, k * v = x := ⟨_, rfl⟩
                  rw [hx] at m2 m3 HM
                  clear HRR hR0
                  go_wp2_with fail
                  go_ret3
                  rw [HRQ.out, ← HM.out]
                  exact ⟨rfl, g4⟩
/-- the reference's Read of any text says what numtext.Read says -/
theorem rread_any (l : List UInt8) (hl : l.length < 4611686018427387904) (W : World) :
    Calls Try.prog 19 #[.string (Pl.tx l)] W fun e w' => e = .returned (.tuple #[.int .i64 (Pl.read (Pl.tx l)).1, .int .i64 (Pl.read (Pl.tx l)).2.1, .int .i64 (Pl.read (Pl.tx l)).2.2]) ∧ Grown W w' := by
  by_cases h : (35 : UInt8) ∈ l
  · obtain ⟨A, B, rfl, hA⟩ := Pl.first_of 35 l h
    rw [Pl.read_based A B hA]
    exact rread_hash A B hA (by rw [List.length_append, List.length_cons] at hl; omega) W
  · obtain ⟨S, T, hST, hS, h0⟩ := Pl.sign_split l
    exact rread_rest l S T h hST hS h0 hl W
end Go.Proofs.Ytpfkijjpophobaa
