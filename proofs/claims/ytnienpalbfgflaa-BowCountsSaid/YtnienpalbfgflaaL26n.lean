/- BowCounts: the walk. -/
import Derived.Test.YtnienpalbfgflaaC13
namespace Go.Proofs.Ytnienpalbfgflaa
set_option linter.unusedVariables false
open Go.RowKit

set_option maxHeartbeats 8000000 in
set_option maxRecDepth 100000 in
theorem walk_BowCounts (nv : Value) (N : List Int) (y : Int) (w : World) (hn : RdI nv N w) :
    Calls Try.prog 3 #[nv, .int .i64 y] w fun en w' => en = .returned (.bool true) ∧ Kept w w' := by
  have KN := Lib.hid (fun Z => known26 Z)
  have HN := Lib.hid hn
  obtain ⟨ao, cap, rfl, hcap, _⟩ := hn
  obtain ⟨M, hM⟩ : ∃ M, M = N.length := ⟨_, rfl⟩
  rw [← hM] at hcap HN ⊢
  clear hM
  have CE := Lib.hid (fun Z p h => edge_any w Z p N h)
  have CP320 := Lib.hid (fun v Z => place_any v 320 (by omega) (by omega) Z)
  obtain ⟨gy, hgy⟩ : ∃ r, r = y % 320 := ⟨_, rfl⟩
  have bgy : 0 ≤ gy ∧ gy < 320 := by rw [hgy]; exact ⟨Int.emod_nonneg _ (by omega), Int.emod_lt_of_pos _ (by omega)⟩
  have Hgy : Hid (y % 320 = gy) := Lib.hid hgy.symm
  clear hgy
  have hv : Pl.crd (gy - 32) := by unfold Pl.crd; omega
  obtain ⟨e, he⟩ : ∃ e, e = Pl.edge N := ⟨_, rfl⟩
  have hem := Pl.edge_may N
  rw [← he] at CE hem
  clear he
  have K1 := Lib.hid (fun Z => line_rd e (gy - 32) 20 Z)
  have K2 := Lib.hid (fun Z => line26_rd e (gy - 32) 20 Z)
  have hl := Pl.line_len e (gy - 32) 20
  have HSP := Lib.hid (Pl.line_sp e (gy - 32) 20 (by omega))
  have HRT := Lib.hid (fun i h0 h1 => Pl.right_turns e (gy - 32) 20 i hem hv (by omega) h0 h1)
  have KT := Lib.hid (fun x Z => turns_fr e x (gy - 32) Z)
  obtain ⟨A, hA⟩ : ∃ A, A = Pl.line e (gy - 32) 20 := ⟨_, rfl⟩
  rw [← hA] at K1 K2 hl HSP HRT
  clear hA hv hem
  have KC := Lib.hid (fun va vb Z h1 h2 => crosses_same va vb A (by omega) Z h1 h2)
  obtain ⟨m, hm⟩ : ∃ m, m = A.length := ⟨_, rfl⟩
  have HM := Lib.hid hm
  rw [← hm] at hl
  clear hm
  have KT2 : Hid (∀ i k, 0 ≤ i → i < 20 → k = Pl.right A i → ∀ Z, Calls Try.prog 19 #[edv e, .int .i64 (16 * i + 8), .int .i64 (gy - 32)] Z fun en w' => en = .returned (.int .i64 k) ∧ Fr (fun _ => False) Z w') := Lib.hid (fun i k h0 h1 hk Z => by
    rw [hk, HRT.out i h0 h1]
    exact KT.out _ Z)
  clear KT HRT
  obtain ⟨x00, y00, b0, cx0, cy0, x10, y10⟩ := e
  simp only [edv] at CE K1 K2 KT2
  go_enter Try.func3, Try.ntmps3
  go_wp2_with fail
  refine (KN.out _).mono ?_
  rintro en w1 ⟨rfl, f1⟩
  have F1 := Lib.hid f1
  clear f1 KN
  go_wp2_with fail
  refine (CE.out _ _ (LN.new HN.out F1.out 29)).mono ?_
  rintro en w2 ⟨rfl, n2, _⟩
  have F2 := Lib.hid n2.fr
  clear n2 CE
  go_wp2_with fail
  refine (CP320.out _ _).mono ?_
  rintro en w3 ⟨rfl, rfl⟩
  rw [Hgy.out]
  have B0 := Lib.hid (Blk.new (W := w) (Z := w2) #[.int .i64 x00, .int .i64 y00, .bool b0, .int .i64 cx0, .int .i64 cy0, .int .i64 x10, .int .i64 y10] 25 F2.out.2.2.1)
  have F3 := Lib.hid (F2.out.trans (Fr.alloc (fun _ => False) w2 (.cells #[.int .i64 x00, .int .i64 y00, .bool b0, .int .i64 cx0, .int .i64 cy0, .int .i64 x10, .int .i64 y10] 25)))
  obtain ⟨p, hp⟩ : ∃ p, p = w2.heap.size := ⟨_, rfl⟩
  rw [← hp] at B0 ⊢
  clear hp F2 F1 CP320 HN Hgy
  generalize hZ : w2.alloc (.cells #[.int .i64 x00, .int .i64 y00, .bool b0, .int .i64 cx0, .int .i64 cy0, .int .i64 x10, .int .i64 y10] 25) = Z at *
  have HS : Hid (One w p x00 y00 b0 cx0 cy0 x10 y10 Z) := Lib.hid (by
    obtain ⟨a0, a1, a2, a3, a4, a5, a6⟩ := B0.out.at0
    exact ⟨a0, a1, a2, a3, a4, a5, a6, F3.out⟩)
  clear hZ B0 F3
  obtain ⟨a0, a1, a2, a3, a4, a5, a6, _⟩ := HS.out
  go_wp2_with fail
  refine (K1.out _).mono ?_
  rintro en w4 ⟨v4, rfl, r4, f4⟩
  have HS4 := Lib.hid (HS.out.fr f4)
  clear a0 a1 a2 a3 a4 a5 a6 f4 HS K1
  have R4 := Lib.hid r4
  obtain ⟨ao4, cap4, rfl, hs4⟩ := r4
  rw [← HM.out] at R4 ⊢
  clear hs4
  obtain ⟨a0, a1, a2, a3, a4, a5, a6, _⟩ := HS4.out
  go_wp2_with fail
  refine (K2.out _).mono ?_
  rintro en w5 ⟨v5, rfl, r5, f5⟩
  have HS5 := Lib.hid (HS4.out.fr f5)
  have R5 := Lib.hid (R4.out.fr0 f5)
  have R5b := Lib.hid r5
  clear a0 a1 a2 a3 a4 a5 a6 f5 HS4 R4 r5 K2
  go_wp2_with fail
  refine (KC.out _ _ _ R5.out R5b.out).mono ?_
  rintro en w6 ⟨rfl, f6⟩
  have HS6 := Lib.hid (HS5.out.fr f6)
  have R6 := Lib.hid (R5.out.fr0 f6)
  clear f6 HS5 R5 R5b KC
  have hmle : ¬ (2 : Int) < (m : Int) := by omega
  go_wp2_with fail
  go_loopw [8] (fun i wr => ∃ I : Int, i = .int .i64 I ∧ (0 ≤ I ∧ I ≤ 20) ∧ Hid (Fr (fun _ => False) w6 wr)) (fun i _ => (20 - intOf i).toNat)
  case atStart => exact ⟨0, rfl, by omega, Lib.hid (Fr.refl _ _)⟩
  case round =>
    obtain ⟨I, rfl, ⟨hI1, hI2⟩, HF⟩ := hrel
    by_cases hI : I = 20
    · subst hI
      have HFW := Lib.hid (HS6.out.fr HF.out).2.2.2.2.2.2.2
      go_wp2_with fail
      go_ret
      exact ⟨rfl, Kept.of_fr HFW.out⟩
    · have hI3 : I < 20 := by omega
      clear hI hI2
      rename World => wo
      go_wp2_with fail
      go_loopw [9, 10] (fun s i wz => ∃ (j : Nat) (k : Int), i = .int .i64 (j : Int) ∧ s = .int .i64 k ∧ j ≤ m ∧ (-2 ≤ k ∧ k ≤ 2) ∧ Hid (k = Pl.right (A.take j) I ∧ -(j : Int) ≤ k ∧ k ≤ (j : Int)) ∧ Hid (Fr (fun _ => False) w6 wz)) (fun _ i _ => ((m : Int) - intOf i).toNat)
      case atStart => exact ⟨0, 0, rfl, rfl, by omega, by omega, Lib.hid ⟨rfl, by omega, by omega⟩, HF⟩
      case round =>
        obtain ⟨j, k, rfl, rfl, hj, ⟨hk1, hk2⟩, HK, HG⟩ := hrel
        by_cases hjm : j = m
        · have HT := Lib.hid (KT2.out I k hI1 hI3 (by
            have := HK.out.1
            rw [hjm, HM.out, List.take_length] at this
            exact this))
          subst hjm
          have hb : decide ((j : Int) < (j : Int)) = false := decide_eq_false (by omega)
          obtain ⟨a0, a1, a2, a3, a4, a5, a6, _⟩ := HS6.out.fr HG.out
          go_wp2_with fail
          refine (HT.out _).mono ?_
          rintro en w8 ⟨rfl, f8⟩
          have F8 := Lib.hid (HG.out.trans f8)
          clear f8 a0 a1 a2 a3 a4 a5 a6
          go_wp2_with fail
          refine ⟨?_, by simp [intOf]; omega⟩
          repeat (apply Exists.intro (α := Value))
          first
            | exact ⟨I + 1, by simp, by omega, F8⟩
            | (refine ⟨⟨I + 1, by first | rfl | simp, by omega, F8⟩, ?_⟩
               repeat (first | exact rfl | refine ⟨rfl, ?_⟩))
        · have hjI : (j : Int) < (m : Int) := by omega
          have HJ := Lib.hid (show j < m ∧ m ≤ 2 from ⟨by omega, hl⟩)
          obtain ⟨c, hc⟩ : ∃ c, A[j]? = some c := ⟨_, List.getElem?_eq_getElem (by have := HM.out; omega)⟩
          obtain ⟨aa, ca, hva, ra⟩ := R6.out.fr0 HG.out
          obtain ⟨ga, rfl, _, ra⟩ := ra.resolve_left (fun q => by rw [q] at hc; simp at hc)
          injection hva with q1 ql1 qc1
          clear ql1
          subst qc1
          subst q1
          obtain ⟨ra0, ra1⟩ := ra j c hc
          have HR := Lib.hid (Pl.right_take A I j c hc)
          obtain ⟨sp1, sp2, sp3⟩ := HSP.out j c hc
          have HNX : Hid (Pl.right (A.take (j + 1)) I = k + (if I < c.2 then c.1 else 0)) := Lib.hid (by rw [HR.out, ← HK.out.1])
          have hkb : -1 ≤ k ∧ k ≤ 1 := by have := HK.out; have := HJ.out; omega
          obtain ⟨ct, ck⟩ := c
          simp only at ra0 ra1 sp1 sp2 sp3 HNX
          clear ra hc hjm HR hk1 hk2
          have hc1 : -1 ≤ ct ∧ ct ≤ 1 := by omega
          clear sp1
          by_cases hck : I < ck
          · have HNY := Lib.hid (show Pl.right (A.take (j + 1)) I = k + ct by rw [HNX.out, if_pos hck])
            go_wp2_with fail
            refine ⟨?_, by simp [intOf]; omega⟩
            repeat (apply Exists.intro (α := Value))
            first
              | exact ⟨j + 1, _, by simp, rfl, by have := HJ.out; omega, by omega, Lib.hid ⟨HNY.out.symm, by have := HK.out; omega, by have := HK.out; omega⟩, HG⟩
              | (refine ⟨⟨j + 1, _, by first | rfl | simp, rfl, by have := HJ.out; omega, by omega, Lib.hid ⟨HNY.out.symm, by have := HK.out; omega, by have := HK.out; omega⟩, HG⟩, ?_⟩
                 repeat (first | exact rfl | refine ⟨rfl, ?_⟩))
          · have HNY := Lib.hid (show Pl.right (A.take (j + 1)) I = k by rw [HNX.out, if_neg hck]; omega)
            go_wp2_with fail
            refine ⟨?_, by simp [intOf]; omega⟩
            repeat (apply Exists.intro (α := Value))
            first
              | exact ⟨j + 1, _, by simp, rfl, by have := HJ.out; omega, by omega, Lib.hid ⟨HNY.out.symm, by have := HK.out; omega, by have := HK.out; omega⟩, HG⟩
              | (refine ⟨⟨j + 1, _, by first | rfl | simp, rfl, by have := HJ.out; omega, by omega, Lib.hid ⟨HNY.out.symm, by have := HK.out; omega, by have := HK.out; omega⟩, HG⟩, ?_⟩
                 repeat (first | exact rfl | refine ⟨rfl, ?_⟩))
theorem law_BowCounts (v0 : Value) (N : List Int) (y : Int) (w : World) (h0 : RdI v0 N w ∧ N.length ≤ maxLen) (_ : (Lit.int .i64 y).wf = true) :
    Calls Try.prog 3 #[v0, .int .i64 y] w fun en w' => en = .returned (.bool true) ∧ Kept w w' := walk_BowCounts v0 N y w h0.1
end Go.Proofs.Ytnienpalbfgflaa
