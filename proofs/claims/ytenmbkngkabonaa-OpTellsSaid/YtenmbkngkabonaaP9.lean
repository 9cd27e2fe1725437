/- The walks of tympanref15.Count, Name, Number and Family (printed by wip/gen_ref15.py). -/
import Derived.Test.YtenmbkngkabonaaP8
namespace Go.Proofs.Ytenmbkngkabonaa
set_option linter.unusedVariables false
open Go.RowKit

set_option maxRecDepth 100000 in
theorem refCat_is : Pl.refCat Try.f64 6 = (Pl.yields (rangedText Try.f58)).map (fun y => Value.string ((rangedText Try.f58).extract y.2.2.1 y.2.2.2)) := by kernel_rfl
theorem fams_are : (Pl.yields (rangedText Try.f58)).map (fun y => y.2.1) = List.replicate 38 1 ++ List.replicate 20 2 ++ List.replicate 13 3 ++ List.replicate 9 4 ++ List.replicate 21 5 ++ List.replicate 61 6 := by decide +kernel
def Pl.OpT3 (T : ByteArray) : Prop := Pl.OpT2 T ∧ Pl.refCat Try.f64 6 = (Pl.yields T).map (fun y => Value.string (T.extract y.2.2.1 y.2.2.2)) ∧
  (Pl.yields T).map (fun y => y.2.1) = List.replicate 38 1 ++ List.replicate 20 2 ++ List.replicate 13 3 ++ List.replicate 9 4 ++ List.replicate 21 5 ++ List.replicate 61 6
theorem Pl.opT3_is : Pl.OpT3 (rangedText Try.f58) := ⟨Pl.opT2_is, refCat_is, fams_are⟩

theorem refall_any (T : ByteArray) (hT : Pl.OpT3 T) (w : World) : Calls Try.prog 60 #[] w fun e w' => ∃ g cap, e = .returned (.slice (some ⟨g, 0, none⟩) 162 cap) ∧
    (∀ j : Nat, j < 162 → w'.cell? ⟨g, j, none⟩ = some (.string (Pl.opWord T ((j : Int) + 1)))) ∧ Kept w w' := by
  have hl := hT.1.1.2.2.1
  refine (refall_own w).mono ?_
  rintro e w1 ⟨v, rfl, hown, hK⟩
  rcases hown.2 with ⟨_, h⟩ | ⟨g, cap, cur, rfl, _, _, _, _, _, _⟩
  · omega
  · refine ⟨g, cap, rfl, fun j hj => ?_, hK⟩
    rw [hown.cellAt j (by omega), hT.2.1]
    unfold Pl.opWord
    rw [Pl.opAt_some hl _ (by omega) (by omega)]
    simp [List.getElem?_map, List.getElem?_eq_getElem (show j < (Pl.yields T).length by omega)]

theorem refcount_any (w : World) : Calls Try.prog 19 #[] w fun e w' => e = .returned (.int .i64 162) ∧ Kept w w' := by
  obtain ⟨T, hT⟩ : ∃ T, Pl.OpT3 T := ⟨_, Pl.opT3_is⟩
  have A := Lib.hid (fun w => refall_any T hT w)
  clear hT
  go_enter Try.func19, Try.ntmps19
  go_wp2_with fail
  refine (A.out _).mono ?_
  rintro e w1 ⟨g, cap, rfl, hc, hK⟩
  go_wp2_with fail
  go_ret
  exact ⟨rfl, hK⟩

theorem refname_any (T : ByteArray) (hT : Pl.OpT3 T) (N : Int) (w : World) : Calls Try.prog 21 #[.int .i64 N] w fun e w' => e = .returned (.string (Pl.opWord T N)) ∧ Kept w w' := by
  have A := Lib.hid (fun w => refall_any T hT w)
  by_cases h : N < 1 ∨ 162 < N
  · rw [(Pl.word_out hT.1.1 N h).1]
    clear hT
    rcases h with h | h
    · go_enter Try.func21, Try.ntmps21
      go_wp2_with fail
      refine (A.out _).mono ?_
      rintro e w1 ⟨g, cap, rfl, hc, hK⟩
      have hc := Lib.hid hc
      go_wp2_with fail
      go_ret
      exact ⟨rfl, hK⟩
    · have h1 : 1 ≤ N := by omega
      go_enter Try.func21, Try.ntmps21
      go_wp2_with fail
      refine (A.out _).mono ?_
      rintro e w1 ⟨g, cap, rfl, hc, hK⟩
      have hc := Lib.hid hc
      go_wp2_with fail
      go_ret
      exact ⟨rfl, hK⟩
  · obtain ⟨m, rfl⟩ : ∃ m : Nat, N = (m : Int) + 1 := ⟨(N - 1).toNat, by omega⟩
    have hm : m < 162 := by omega
    clear hT h
    obtain ⟨X, hX⟩ : ∃ X, Pl.opWord T ((m : Int) + 1) = X := ⟨_, rfl⟩
    rw [hX]
    have e1 : (m : Int) + 1 - 1 = m := by omega
    go_enter Try.func21, Try.ntmps21
    go_wp2_with fail
    refine (A.out _).mono ?_
    rintro e w1 ⟨g, cap, rfl, hc, hK⟩
    have hcm := hc m hm
    rw [hX] at hcm
    have hc := Lib.hid hc
    have hX := Lib.hid hX
    go_wp2_with fail
    go_ret
    exact ⟨rfl, hK⟩

theorem Pl.find_at {T : ByteArray} (hT : Pl.OpT2 T) (NM : ByteArray) (i : Nat) (hi : i < 162) (h : Pl.opWord T ((i : Int) + 1) = NM) (hb : ∀ j : Nat, j < i → Pl.opWord T ((j : Int) + 1) ≠ NM) :
    Pl.opNum T NM = (i : Int) + 1 ∧ (Pl.opFind T NM).isSome = true := by
  rw [← h]
  exact Pl.find_word hT _ (by omega) (by omega)
theorem Pl.find_not {T : ByteArray} (hT : Pl.OpT2 T) (NM : ByteArray) (hb : ∀ j : Nat, j < 162 → Pl.opWord T ((j : Int) + 1) ≠ NM) : Pl.opNum T NM = 0 ∧ (Pl.opFind T NM).isSome = false := by
  have hl := hT.1.2.2.1
  have e : Pl.opFind T NM = none := by
    unfold Pl.opFind
    rw [List.find?_eq_none]
    intro y hy hd
    obtain ⟨i, hi, rfl⟩ := List.getElem_of_mem hy
    refine hb i (by omega) ?_
    unfold Pl.opWord
    rw [Pl.opAt_some hl _ (by omega) (by omega)]
    have := of_decide_eq_true hd
    simpa using this
  unfold Pl.opNum
  rw [e]
  exact ⟨rfl, rfl⟩

set_option maxRecDepth 100000 in
theorem refnumber_any (T : ByteArray) (hT : Pl.OpT3 T) (NM : ByteArray) (w : World) : Calls Try.prog 17 #[.string NM] w fun e w' => e = .returned (.tuple #[.int .i64 (Pl.opNum T NM), .bool (Pl.opFind T NM).isSome]) ∧ Kept w w' := by
  have A := Lib.hid (fun w => refall_any T hT w)
  have FA := Lib.hid (Pl.find_at hT.1 NM)
  have FN := Lib.hid (Pl.find_not hT.1 NM)
  clear hT
  obtain ⟨G, hG⟩ : ∃ G : Int → ByteArray, G = Pl.opWord T := ⟨_, rfl⟩
  rw [← hG] at A FA FN
  clear hG
  go_enter Try.func17, Try.ntmps17
  go_wp2_with fail
  refine (A.out _).mono ?_
  rintro e w1 ⟨g, cap, rfl, hc, hK⟩
  have HC := Lib.hid hc
  clear hc
  go_wp2_with fail
  go_loopw [5] (fun i wr => ∃ k : Nat, k ≤ 162 ∧ i = .int .i64 (k : Int) ∧ Hid (∀ j : Nat, j < k → G ((j : Int) + 1) ≠ NM) ∧ wr = w1) (fun i _ => (162 - intOf i).toNat)
  case atStart => exact ⟨0, by omega, rfl, fun j hj => by omega, rfl⟩
  case round =>
    obtain ⟨k, hk, rfl, hno, rfl⟩ := hrel
    by_cases hlt : k < 162
    · have hcm := HC.out k hlt
      obtain ⟨X, hX⟩ : ∃ X, G ((k : Int) + 1) = X := ⟨_, rfl⟩
      rw [hX] at hcm
      by_cases hN : X = NM
      · subst hN
        obtain ⟨r1, r2⟩ := FA.out k hlt hX hno.out
        have R1 := Lib.hid r1
        have R2 := Lib.hid r2
        clear r1 r2 hX
        have hs : (X.toList == X.toList) = true := by simp
        go_wp2_with fail
        go_ret2
        exact ⟨by rw [R1.out, R2.out]; rfl, hK⟩
      · have hL : ¬ X.toList = NM.toList := fun e => hN (Pl.toList_inj.1 e)
        have hs : (X.toList == NM.toList) = false := beq_eq_false_iff_ne.2 hL
        have HX := Lib.hid hX
        have HN := Lib.hid hN
        clear hX hN hL
        go_wp2_with fail
        go_roundw
        case rel =>
          refine ⟨k + 1, by omega, by go_num, Lib.hid fun j hj => ?_, by trivial⟩
          by_cases e : j = k
          · subst e; rw [HX.out]; exact HN.out
          · exact hno.out j (by omega)
        case measure => simp [intOf]; omega
    · obtain rfl : k = 162 := by omega
      obtain ⟨r1, r2⟩ := FN.out hno.out
      have R1 := Lib.hid r1
      have R2 := Lib.hid r2
      clear r1 r2
      go_wp2_with fail
      go_ret2
      exact ⟨by rw [R1.out, R2.out]; rfl, hK⟩

theorem Pl.fam_is {T : ByteArray} (hT : Pl.OpT3 T) (N : Int) : Pl.opFam T N = if N < 1 then 0 else if N ≤ 38 then 1 else if N ≤ 58 then 2 else if N ≤ 71 then 3 else if N ≤ 80 then 4 else if N ≤ 101 then 5 else if N ≤ 162 then 6 else 0 := by
  have hl := hT.1.1.2.2.1
  by_cases h : N < 1 ∨ 162 < N
  · rw [(Pl.word_out hT.1.1 N h).2]
    (repeat' split) <;> omega
  · have hg : ((Pl.yields T).map (fun y => y.2.1))[(N - 1).toNat]? = some ((Pl.yields T)[(N - 1).toNat]'(by omega)).2.1 := by
      rw [List.getElem?_map, List.getElem?_eq_getElem (by omega)]; rfl
    rw [hT.2.2] at hg
    unfold Pl.opFam
    rw [Pl.opAt_some hl N (by omega) (by omega)]
    show (((Pl.yields T)[(N - 1).toNat]).2.1 : Int) = _
    generalize ((Pl.yields T)[(N - 1).toNat]).2.1 = F at hg
    obtain ⟨m, hm⟩ : ∃ m, (N - 1).toNat = m := ⟨_, rfl⟩
    rw [hm] at hg
    simp only [List.getElem?_append, List.getElem?_replicate, List.length_append, List.length_replicate] at hg
    (repeat' split at hg) <;> (simp at hg) <;> subst hg <;> (repeat' split) <;> omega

set_option maxHeartbeats 1000000 in
set_option maxRecDepth 100000 in
theorem reffamily_any (T : ByteArray) (hT : Pl.OpT3 T) (N : Int) (hN : -9223372036854775808 ≤ N ∧ N ≤ 9223372036854775807) (w : World) : Calls Try.prog 23 #[.int .i64 N] w fun e w' => e = .returned (.int .i64 (Pl.opFam T N)) ∧ Kept w w' := by
  have FI := Lib.hid (Pl.fam_is hT N)
  clear hT
  by_cases h1 : N < 1
  · go_enter Try.func23, Try.ntmps23
    go_wp2_with fail
    go_ret
    exact ⟨ret_int (by rw [FI.out, if_pos (by assumption)]), Kept.refl _⟩
  obtain ⟨f, hf⟩ : ∃ f, Try.f64 = f := ⟨_, rfl⟩
  have C0 := fun w => refnames_1 w
  rw [hf] at C0
  have C0 := Lib.hid C0
  have C1 := fun w => refnames_2 w
  rw [hf] at C1
  have C1 := Lib.hid C1
  have C2 := fun w => refnames_3 w
  rw [hf] at C2
  have C2 := Lib.hid C2
  have C3 := fun w => refnames_4 w
  rw [hf] at C3
  have C3 := Lib.hid C3
  have C4 := fun w => refnames_5 w
  rw [hf] at C4
  have C4 := Lib.hid C4
  have C5 := fun w => refnames_6 w
  rw [hf] at C5
  have C5 := Lib.hid C5
  have hp : 1 ≤ N := by omega
  have hmax := hN.2
  clear h1 hf hN
  go_enter Try.func23, Try.ntmps23
  go_wp2_with fail
  go_loopw [0, 3] (fun n i wr => ∃ (k : Nat) (M : Int), k ≤ 6 ∧ i = .int .i64 ((k : Int) + 1) ∧ n = .int .i64 M ∧ 1 ≤ M ∧ M ≤ N ∧ Hid ((k = 0 ∧ N = M + 0) ∨ (k = 1 ∧ N = M + 38) ∨ (k = 2 ∧ N = M + 58) ∨ (k = 3 ∧ N = M + 71) ∨ (k = 4 ∧ N = M + 80) ∨ (k = 5 ∧ N = M + 101) ∨ (k = 6 ∧ N = M + 162)) ∧ Kept w wr) (fun _ i _ => (7 - intOf i).toNat)
  case atStart => exact ⟨0, N, by omega, rfl, rfl, hp, by omega, .inl ⟨rfl, by omega⟩, Kept.refl w⟩
  case round =>
    obtain ⟨k, M, hk, rfl, rfl, m1, m2, hkn, hK⟩ := hrel
    rcases hkn.out with ⟨rfl, hM⟩ | ⟨rfl, hM⟩ | ⟨rfl, hM⟩ | ⟨rfl, hM⟩ | ⟨rfl, hM⟩ | ⟨rfl, hM⟩ | ⟨rfl, hM⟩
    · clear hkn hk
      rw [show ((0 : Nat) : Int) + 1 = 1 from rfl]
      have HM := Lib.hid hM
      have mm : M ≤ 9223372036854775807 := by omega
      clear hM m2
      by_cases hle : M ≤ 38
      · go_wp2_with fail
        refine (C0.out _).mono ?_
        rintro e w1 ⟨rfl, rfl⟩
        have hK1 := hK.grown (World.grownBy_alloc _ (.cells (Pl.refA f 0) 9) none) (fun k h => by cases h)
        go_wp2_with fail
        go_ret
        exact ⟨ret_int (by have := HM.out; rw [FI.out]; (repeat' split) <;> omega), hK1⟩
      · go_wp2_with fail
        refine (C0.out _).mono ?_
        rintro e w1 ⟨rfl, rfl⟩
        have hK1 := hK.grown (World.grownBy_alloc _ (.cells (Pl.refA f 0) 9) none) (fun k h => by cases h)
        go_wp2_with fail
        go_roundw
        case rel => exact ⟨1, M - 38, by omega, rfl, rfl, by omega, by have := HM.out; omega, .inr (.inl ⟨rfl, by have := HM.out; omega⟩), hK1⟩
        case measure => simp [intOf]
    · clear hkn hk
      rw [show ((1 : Nat) : Int) + 1 = 2 from rfl]
      have HM := Lib.hid hM
      have mm : M ≤ 9223372036854775807 := by omega
      clear hM m2
      by_cases hle : M ≤ 20
      · go_wp2_with fail
        refine (C1.out _).mono ?_
        rintro e w1 ⟨rfl, rfl⟩
        have hK1 := hK.grown (World.grownBy_alloc _ (.cells (Pl.refA f 1) 9) none) (fun k h => by cases h)
        go_wp2_with fail
        go_ret
        exact ⟨ret_int (by have := HM.out; rw [FI.out]; (repeat' split) <;> omega), hK1⟩
      · go_wp2_with fail
        refine (C1.out _).mono ?_
        rintro e w1 ⟨rfl, rfl⟩
        have hK1 := hK.grown (World.grownBy_alloc _ (.cells (Pl.refA f 1) 9) none) (fun k h => by cases h)
        go_wp2_with fail
        go_roundw
        case rel => exact ⟨2, M - 20, by omega, rfl, rfl, by omega, by have := HM.out; omega, .inr (.inr (.inl ⟨rfl, by have := HM.out; omega⟩)), hK1⟩
        case measure => simp [intOf]
    · clear hkn hk
      rw [show ((2 : Nat) : Int) + 1 = 3 from rfl]
      have HM := Lib.hid hM
      have mm : M ≤ 9223372036854775807 := by omega
      clear hM m2
      by_cases hle : M ≤ 13
      · go_wp2_with fail
        refine (C2.out _).mono ?_
        rintro e w1 ⟨rfl, rfl⟩
        have hK1 := hK.grown (World.grownBy_alloc _ (.cells (Pl.refA f 2) 9) none) (fun k h => by cases h)
        go_wp2_with fail
        go_ret
        exact ⟨ret_int (by have := HM.out; rw [FI.out]; (repeat' split) <;> omega), hK1⟩
      · go_wp2_with fail
        refine (C2.out _).mono ?_
        rintro e w1 ⟨rfl, rfl⟩
        have hK1 := hK.grown (World.grownBy_alloc _ (.cells (Pl.refA f 2) 9) none) (fun k h => by cases h)
        go_wp2_with fail
        go_roundw
        case rel => exact ⟨3, M - 13, by omega, rfl, rfl, by omega, by have := HM.out; omega, .inr (.inr (.inr (.inl ⟨rfl, by have := HM.out; omega⟩))), hK1⟩
        case measure => simp [intOf]
    · clear hkn hk
      rw [show ((3 : Nat) : Int) + 1 = 4 from rfl]
      have HM := Lib.hid hM
      have mm : M ≤ 9223372036854775807 := by omega
      clear hM m2
      by_cases hle : M ≤ 9
      · go_wp2_with fail
        refine (C3.out _).mono ?_
        rintro e w1 ⟨rfl, rfl⟩
        have hK1 := hK.grown (World.grownBy_alloc _ (.cells (Pl.refA f 3) 9) none) (fun k h => by cases h)
        go_wp2_with fail
        go_ret
        exact ⟨ret_int (by have := HM.out; rw [FI.out]; (repeat' split) <;> omega), hK1⟩
      · go_wp2_with fail
        refine (C3.out _).mono ?_
        rintro e w1 ⟨rfl, rfl⟩
        have hK1 := hK.grown (World.grownBy_alloc _ (.cells (Pl.refA f 3) 9) none) (fun k h => by cases h)
        go_wp2_with fail
        go_roundw
        case rel => exact ⟨4, M - 9, by omega, rfl, rfl, by omega, by have := HM.out; omega, .inr (.inr (.inr (.inr (.inl ⟨rfl, by have := HM.out; omega⟩)))), hK1⟩
        case measure => simp [intOf]
    · clear hkn hk
      rw [show ((4 : Nat) : Int) + 1 = 5 from rfl]
      have HM := Lib.hid hM
      have mm : M ≤ 9223372036854775807 := by omega
      clear hM m2
      by_cases hle : M ≤ 21
      · go_wp2_with fail
        refine (C4.out _).mono ?_
        rintro e w1 ⟨rfl, rfl⟩
        have hK1 := hK.grown (World.grownBy_alloc _ (.cells (Pl.refA f 4) 9) none) (fun k h => by cases h)
        go_wp2_with fail
        go_ret
        exact ⟨ret_int (by have := HM.out; rw [FI.out]; (repeat' split) <;> omega), hK1⟩
      · go_wp2_with fail
        refine (C4.out _).mono ?_
        rintro e w1 ⟨rfl, rfl⟩
        have hK1 := hK.grown (World.grownBy_alloc _ (.cells (Pl.refA f 4) 9) none) (fun k h => by cases h)
        go_wp2_with fail
        go_roundw
        case rel => exact ⟨5, M - 21, by omega, rfl, rfl, by omega, by have := HM.out; omega, .inr (.inr (.inr (.inr (.inr (.inl ⟨rfl, by have := HM.out; omega⟩))))), hK1⟩
        case measure => simp [intOf]
    · clear hkn hk
      rw [show ((5 : Nat) : Int) + 1 = 6 from rfl]
      have HM := Lib.hid hM
      have mm : M ≤ 9223372036854775807 := by omega
      clear hM m2
      by_cases hle : M ≤ 61
      · go_wp2_with fail
        refine (C5.out _).mono ?_
        rintro e w1 ⟨rfl, rfl⟩
        have hK1 := hK.grown (World.grownBy_alloc _ (.cells (Pl.refA f 5) 9) none) (fun k h => by cases h)
        go_wp2_with fail
        go_ret
        exact ⟨ret_int (by have := HM.out; rw [FI.out]; (repeat' split) <;> omega), hK1⟩
      · go_wp2_with fail
        refine (C5.out _).mono ?_
        rintro e w1 ⟨rfl, rfl⟩
        have hK1 := hK.grown (World.grownBy_alloc _ (.cells (Pl.refA f 5) 9) none) (fun k h => by cases h)
        go_wp2_with fail
        go_roundw
        case rel => exact ⟨6, M - 61, by omega, rfl, rfl, by omega, by have := HM.out; omega, .inr (.inr (.inr (.inr (.inr (.inr (⟨rfl, by have := HM.out; omega⟩)))))), hK1⟩
        case measure => simp [intOf]
    · clear hkn hk
      have HM := Lib.hid hM
      clear hM m2
      go_wp2_with fail
      go_ret
      exact ⟨ret_int (by have := HM.out; rw [FI.out]; (repeat' split) <;> omega), hK⟩
end Go.Proofs.Ytenmbkngkabonaa
