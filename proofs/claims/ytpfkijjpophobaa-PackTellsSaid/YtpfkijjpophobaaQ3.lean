/- The reference of layer 6: based: the walk. -/
import Derived.Test.YtpfkijjpophobaaQ3a
namespace Go.Proofs.Ytpfkijjpophobaa
set_option linter.unusedVariables false
open Go.RowKit

set_option maxHeartbeats 4000000 in
set_option maxRecDepth 100000 in
theorem rbased_any (A B : List UInt8) (hl : A.length + B.length < 4611686018427387904) (W : World) :
    Calls Try.prog 41 #[.string (Pl.tx (A ++ 35 :: B)), .int .i64 (A.length : Int)] W fun e w' => e = .returned (.tuple #[.int .i64 (Pl.rbased A B).1, .int .i64 (Pl.rbased A B).2.1, .int .i64 (Pl.rbased A B).2.2]) ∧ Grown W w' := by
  have s1 := slice_to (A ++ 35 :: B) A.length (by rw [List.length_append]; omega)
  rw [List.take_left] at s1
  have s2 := slice_from (A ++ 35 :: B) (A.length + 1) (by rw [List.length_append, List.length_cons]; omega)
  rw [show (A ++ 35 :: B).drop (A.length + 1) = B by rw [show A ++ 35 :: B = (A ++ [35]) ++ B by simp]; exact List.drop_left' (by simp), show ((A.length + 1 : Nat) : Int) = (A.length : Int) + 1 by omega] at s2
  have CA := Lib.hid (fun Z => all_any A (by omega) Z)
  have hI0 : ∀ b, A[0]? = some b → ∀ W, (Instr.index 9 (.string (Pl.tx A)) (.int .i64 0)).run Try.prog W = .ok (.int .u8 (b.toNat : Int)) W := fun b h W => byte_at A 0 b h W
  have hIB : ∀ (i : Nat) (b : UInt8), B[i]? = some b → ∀ W, (Instr.index 9 (.string (Pl.tx B)) (.int .i64 (i : Int))).run Try.prog W = .ok (.int .u8 (b.toNat : Int)) W := fun i b h W => byte_at B i b h W
  have hAs : (Pl.tx A).size = A.length := Pl.tx_size A
  have hBs : (Pl.tx B).size = B.length := Pl.tx_size B
  have hBe : B ≠ [] → ¬ (Pl.tx B).toList = [] := Pl.tx_nonempty B
  have hBn : B = [] → Pl.tx B = ⟨#[]⟩ := fun h => by rw [h]; rfl
  have KA := Lib.hid (fun (h : Pl.dig A) Z => add_any A (by omega) 10 (by omega) (Pl.dig_cv A h) Z)
  have KB := Lib.hid (fun (b : Int) (hb : 2 ≤ b ∧ b ≤ 36) (h : ∀ x ∈ B, 0 ≤ Pl.cv (x.toNat : Int)) Z => add_any B (by omega) b hb h Z)
  obtain ⟨s, hs⟩ : ∃ s, s = Pl.tx (A ++ 35 :: B) := ⟨_, rfl⟩
  obtain ⟨sA, hsA⟩ : ∃ sA, sA = Pl.tx A := ⟨_, rfl⟩
  obtain ⟨sB, hsB⟩ : ∃ sB, sB = Pl.tx B := ⟨_, rfl⟩
  rw [← hs] at s1 s2 ⊢
  rw [← hsA] at s1 CA hI0 hAs KA
  rw [← hsB] at s2 hIB hBs hBe hBn KB
  obtain ⟨n, hn⟩ : ∃ n, n = A.length := ⟨_, rfl⟩
  rw [← hn] at s1 s2 hAs ⊢
  have hnI : (n : Int) ≤ 4611686018427387904 := by omega
  have hwr : IntKind.i64.wrap ((n : Int) + 1) = (n : Int) + 1 := by rw [IntKind.wrap_i64]; omega
  obtain ⟨R, hR⟩ : ∃ R, R = Pl.rbased A B := ⟨_, rfl⟩
  rw [← hR]
  have HR := Lib.hid hR
  have HIB := Lib.hid hIB
  have Hn := Lib.hid hn
  clear hs hsA hsB hR hIB hn
  have cases : (R = (0, 0, 3) ∧ decide ((n : Int) < 1) = true)
      ∨ (R = (0, 0, 3) ∧ decide ((n : Int) < 1) = false ∧ decide ((2 : Int) < (n : Int)) = true)
      ∨ (R = (0, 0, 3) ∧ decide ((n : Int) < 1) = false ∧ decide ((2 : Int) < (n : Int)) = false ∧ Pl.allD A = false)
      ∨ (∃ c : Nat, decide ((n : Int) < 1) = false ∧ decide ((2 : Int) < (n : Int)) = false ∧ Pl.allD A = true ∧ (∀ W, (Instr.index 9 (.string sA) (.int .i64 0)).run Try.prog W = .ok (.int .u8 (c : Int)) W) ∧
          ((R = (0, 0, 3) ∧ c = 48) ∨ (R = (0, 0, 3) ∧ ((c : Int) == 48) = false ∧ B = []) ∨ (((c : Int) == 48) = false ∧ B ≠ [] ∧ R = if (Pl.nm A : Int) < 2 ∨ 36 < (Pl.nm A : Int) then (0, 0, 3) else if ∃ b ∈ B, Pl.badL (Pl.nm A) b then (0, 0, 3) else if 2147483647 < Pl.rav (Pl.nm A) 0 B then (0, 0, 2) else (1, Pl.rav (Pl.nm A) 0 B, 0)))) := by
    have hRR := HR.out
    unfold Pl.rbased at hRR
    have hnn := Hn.out
    by_cases h1 : n < 1
    · exact .inl ⟨by rw [hRR, if_pos (by omega)], decide_eq_true (by omega)⟩
    have h1' : decide ((n : Int) < 1) = false := decide_eq_false (by omega)
    by_cases h2 : 2 < n
    · exact .inr (.inl ⟨by rw [hRR, if_pos (by omega)], h1', decide_eq_true (by omega)⟩)
    have h2' : decide ((2 : Int) < (n : Int)) = false := decide_eq_false (by omega)
    cases h3 : Pl.allD A with
    | false => exact .inr (.inr (.inl ⟨by rw [hRR, if_pos (fun h => by have := h.2.2.1; rw [h3] at this; cases this)], h1', h2', rfl⟩))
    | true =>
      have hA0 : A[0]? = some A[0] := List.getElem?_eq_getElem (by omega)
      refine .inr (.inr (.inr ⟨A[0].toNat, h1', h2', rfl, hI0 _ hA0, ?_⟩))
      have hg : (A[0]?.getD 0).toNat = A[0].toNat := by rw [hA0]; rfl
      rw [hg, h3] at hRR
      by_cases h4 : A[0].toNat = 48
      · exact .inl ⟨by rw [hRR, if_pos (fun h => h.2.2.2.1 h4)], h4⟩
      have h4' : ((A[0].toNat : Int) == 48) = false := beq_eq_false_iff_ne.2 (by omega)
      by_cases h5 : B = []
      · exact .inr (.inl ⟨by rw [hRR, if_pos (fun h => h.2.2.2.2 h5)], h4', h5⟩)
      exact .inr (.inr ⟨h4', h5, by rw [hRR, if_neg (fun h => h ⟨by omega, by omega, rfl, h4, h5⟩)]⟩)
  clear hI0 HR
  rcases cases with ⟨hR, t1⟩ | ⟨hR, t1, t2⟩ | ⟨hR, t1, t2, t3⟩ | ⟨c, t1, t2, t3, I0, ⟨hR, rfl⟩ | ⟨hR, t4, hB⟩ | ⟨t4, hB, hR⟩⟩
  · subst hR
    clear hBe hBn KA KB CA
    go_enter Try.func41, Try.ntmps41
    go_wp2_with fail
    go_quiet (fail)
    go_wp2_with fail
    go_ret3
    exact ⟨rfl, grown_drewN (Grown.refl W) _⟩
  · subst hR
    clear hBe hBn KA KB CA
    go_enter Try.func41, Try.ntmps41
    go_wp2_with fail
    go_quiet (fail)
    go_wp2_with fail
    go_ret3
    exact ⟨rfl, grown_drewN (Grown.refl W) _⟩
  · subst hR
    rw [t3] at CA
    clear hBe hBn KA KB t3
    go_enter Try.func41, Try.ntmps41
    go_wp2_with fail
    go_quiet (fail)
    go_wp2_with fail
    refine (CA.out _).mono ?_
    rintro e w1 ⟨rfl, rfl⟩
    go_wp2_with fail
    go_ret3
    exact ⟨rfl, grown_drewN (Grown.refl W) _⟩
  · subst hR
    rw [t3] at CA
    clear hBe hBn KA KB t3
    go_enter Try.func41, Try.ntmps41
    go_wp2_with fail
    go_quiet (fail)
    go_wp2_with fail
    refine (CA.out _).mono ?_
    rintro e w1 ⟨rfl, rfl⟩
    go_wp2_with fail
    go_ret3
    exact ⟨rfl, grown_drewN (Grown.refl W) _⟩
  · subst hR
    rw [t3] at CA
    have hBn' := hBn hB
    subst hBn'
    clear hBe hBn KA KB t3 hBs
    go_enter Try.func41, Try.ntmps41
    go_wp2_with fail
    go_quiet (fail)
    go_wp2_with fail
    refine (CA.out _).mono ?_
    rintro e w1 ⟨rfl, rfl⟩
    go_wp2_with fail
    go_ret3
    exact ⟨rfl, grown_drewN (Grown.refl W) _⟩
  · have KA1 := KA.out ((Pl.allD_iff A).1 t3)
    have hn2 : n ≤ 2 := by have := of_decide_eq_false t2; omega
    have hnm : Pl.nm A < 10 ^ 2 := Nat.lt_of_lt_of_le (Pl.nm_lt A ((Pl.allD_iff A).1 t3)) (Nat.pow_le_pow_right (by omega) (by have := Hn.out; omega))
    rw [Pl.rav_nm A ((Pl.allD_iff A).1 t3), show min (Pl.nm A : Int) 1099511627776 = (Pl.nm A : Int) by omega] at KA1
    rw [t3] at CA
    obtain ⟨b, hb⟩ : ∃ b, b = Pl.nm A := ⟨_, rfl⟩
    rw [← hb] at KA1 hR
    have b0 : 0 ≤ (b : Int) := by omega
    have b1 : (b : Int) ≤ 99 := by omega
    have KA2 := Lib.hid KA1
    have hl3 := hBe hB
    have hl1 := Pl.ne_beq hl3
    have hl2 := Pl.ne_empty hl3
    have HRR := Lib.hid hR
    clear hR KA1 KA hBe hBn t3 hnm hb
    go_enter Try.func41, Try.ntmps41
    go_wp2_with fail
    go_quiet (fail)
    go_wp2_with fail
    refine (CA.out _).mono ?_
    rintro e w1 ⟨rfl, rfl⟩
    go_wp2_with fail
    refine (KA2.out _).mono ?_
    rintro e w1 ⟨rfl, g1⟩
    have G1 : Hid (Grown W w1) := Lib.hid (grown_trans (grown_drewN (Grown.refl W) _) g1)
    by_cases hbb : (b : Int) < 2 ∨ 36 < (b : Int)
    · have hR0 : R = (0, 0, 3) := by rw [HRR.out, if_pos hbb]
      subst hR0
      clear HRR
      rcases hbb with h | h
      all_goals
        go_wp2_with fail
        go_ret3
        exact ⟨rfl, G1.out⟩
    · have hb2 : 2 ≤ (b : Int) := by omega
      have hb36 : (b : Int) ≤ 36 := by omega
      have HR1 : Hid (R = if ∃ x ∈ B, Pl.badL b x then (0, 0, 3) else if 2147483647 < Pl.rav b 0 B then (0, 0, 2) else (1, Pl.rav b 0 B, 0)) := Lib.hid (by rw [HRR.out, if_neg hbb])
      clear HRR hbb CA KA2 hl3 hl1 hl2 t1 t2 t4 I0 g1
      go_wp2_with fail
      go_loopw [10] (fun s10 wr => ∃ i : Nat, s10 = .int .i64 (i : Int) ∧ i ≤ B.length ∧ Hid (Grown W wr) ∧ Hid (∀ x ∈ B.take i, ¬ Pl.badL b x)) (fun s10 _ => ((B.length : Int) - intOf s10).toNat)
      case atStart => exact ⟨0, rfl, by omega, G1, Lib.hid (fun x hx => by simp at hx)⟩
      case round =>
        obtain ⟨i, rfl, hi, HG, HQ⟩ := hrel
        rcases Nat.lt_or_eq_of_le hi with h | rfl
        · have hlt : (i : Int) < (sB.size : Int) := by omega
          have ix := HIB.out i B[i] (List.getElem?_eq_getElem h)
          have hcb := Pl.cv_bd (B[i].toNat : Int)
          have HBAD : Hid (Pl.badL b B[i] → R = (0, 0, 3)) := Lib.hid (fun q => by rw [HR1.out, if_pos ⟨_, List.getElem_mem h, q⟩])
          have HTK : Hid (¬ Pl.badL b B[i] → ∀ x ∈ B.take (i + 1), ¬ Pl.badL b x) := Lib.hid (fun q x hx => by
            rw [List.take_add_one, List.getElem?_eq_getElem h] at hx
            rcases List.mem_append.1 hx with hx | hx
            · exact HQ.out x hx
            · simp at hx
              rw [hx]
              exact q)
          have HBL : Hid (Pl.badL b B[i] ↔ (Pl.cv (B[i].toNat : Int) < 0 ∨ (b : Int) ≤ Pl.cv (B[i].toNat : Int))) := Lib.hid Iff.rfl
          obtain ⟨d, hd⟩ : ∃ d, d = B[i].toNat := ⟨_, rfl⟩
          have d2 : d ≤ 255 := by have := B[i].toNat_lt; omega
          have d1 : (d : Int) ≤ 255 := by omega
          have CV := Lib.hid (fun Z => rvalue_any (d : Int) (by omega) Z)
          rw [← hd] at ix hcb HBL
          obtain ⟨x, hx⟩ : ∃ x, x = Pl.cv (d : Int) := ⟨_, rfl⟩
          rw [← hx] at CV hcb HBL
          obtain ⟨hc0, hc1⟩ := hcb
          clear hd hx HIB KB s1 s2
          go_wp2_with fail
          refine (CV.out _).mono ?_
          rintro e w2 ⟨rfl, g2⟩
          have G2 := Lib.hid (grown_trans HG.out g2)
          clear CV g2 ix
          by_cases hn : x < 0
          · have hR0 : R = (0, 0, 3) := HBAD.out (HBL.out.2 (.inl hn))
            subst hR0
            clear HR1 HBAD HTK HBL
            go_wp2_with fail
            go_ret3
            exact ⟨rfl, G2.out⟩
          · by_cases hg : (b : Int) ≤ x
            · have hR0 : R = (0, 0, 3) := HBAD.out (HBL.out.2 (.inr hg))
              subst hR0
              clear HR1 HBAD HTK HBL
              go_wp2_with fail
              go_ret3
              exact ⟨rfl, G2.out⟩
            · have HQ2 := Lib.hid (HTK.out (fun q => by have := HBL.out.1 q; omega))
              clear HR1 HBAD HTK HBL
              go_wp2_with fail
              exact ⟨⟨i + 1, by simp, by omega, G2, HQ2⟩, by simp [intOf]; omega⟩
        · have hlt : ¬ ((B.length : Int) < (sB.size : Int)) := by omega
          have hno : ∀ x ∈ B, ¬ Pl.badL b x := fun x hx => HQ.out x (by rw [List.take_length]; exact hx)
          have HR2 : Hid (R = if 2147483647 < Pl.rav b 0 B then (0, 0, 2) else (1, Pl.rav b 0 B, 0)) := Lib.hid (by rw [HR1.out, if_neg (fun ⟨x, hx, q⟩ => hno x hx q)])
          have KB2 := Lib.hid (KB.out b ⟨hb2, hb36⟩ (fun x hx => by have := hno x hx; unfold Pl.badL at this; omega))
          have hrv := Pl.rav_bd b 0 B (by omega) (fun x hx => by have := hno x hx; unfold Pl.badL at this; omega) (by omega) (by omega)
          obtain ⟨v, hv⟩ : ∃ v, v = Pl.rav b 0 B := ⟨_, rfl⟩
          rw [← hv] at HR2 KB2 hrv
          obtain ⟨v0, v1⟩ := hrv
          clear HR1 hno HQ hv KB HIB s1 s2
          go_wp2_with fail
          refine (KB2.out _).mono ?_
          rintro e w2 ⟨rfl, g2⟩
          have G2 := Lib.hid (grown_trans HG.out g2)
          clear KB2 g2
          by_cases hv : 2147483647 < v
          · have hR0 : R = (0, 0, 2) := by rw [HR2.out, if_pos hv]
            subst hR0
            clear HR2
            go_wp2_with fail
            go_ret3
            exact ⟨rfl, G2.out⟩
          · have hR0 : R = (1, v, 0) := by rw [HR2.out, if_neg hv]
            subst hR0
            clear HR2
            go_wp2_with fail
            go_ret3
            exact ⟨rfl, G2.out⟩
end Go.Proofs.Ytpfkijjpophobaa
