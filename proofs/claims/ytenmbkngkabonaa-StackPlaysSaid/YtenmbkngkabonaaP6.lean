/- Plain facts on the operators' names and families. -/
import Derived.Test.YtenmbkngkabonaaP5
namespace Go.Proofs.Ytenmbkngkabonaa
set_option linter.unusedVariables false
open Go.RowKit

theorem opT_full : (Pl.yields (rangedText Try.f58)).all (fun y => !(Pl.wordL (rangedText Try.f58) y).isEmpty) = true := by decide +kernel
/-- all that is known of the text -/
def Pl.OpT2 (T : ByteArray) : Prop := Pl.OpT T ∧ Pl.upTo 1 (Pl.yields T) = true ∧ Pl.rise 1 (Pl.yields T) = true ∧ Pl.apart ((Pl.yields T).map (Pl.wordL T)) = true ∧ (Pl.yields T).all (fun y => !(Pl.wordL T y).isEmpty) = true
theorem Pl.opT2_is : Pl.OpT2 (rangedText Try.f58) := ⟨Pl.opT_is, opT_upTo, opT_rise, opT_apart, opT_full⟩

theorem Pl.word_list (T : ByteArray) (y : Nat × Nat × Nat × Nat) : (T.extract y.2.2.1 y.2.2.2).data.toList = Pl.wordL T y := by
  unfold Pl.wordL
  simp [ByteArray.data_extract, List.extract_eq_take_drop]
theorem Pl.bytes_ext {s t : ByteArray} : s = t ↔ s.data.toList = t.data.toList := ⟨fun h => by rw [h], fun h => by
  obtain ⟨d⟩ := s
  obtain ⟨e⟩ := t
  simp at h
  rw [h]⟩

theorem Pl.upTo_get : ∀ (l : List (Nat × Nat × Nat × Nat)) (k : Nat), Pl.upTo k l = true → ∀ i (h : i < l.length), l[i].1 = k + i ∧ 1 ≤ l[i].2.1 ∧ l[i].2.1 ≤ 6
  | [], _, _, _, h => by simp at h
  | y :: r, k, hu, i, h => by
    simp only [Pl.upTo, Bool.and_eq_true, beq_iff_eq, decide_eq_true_eq] at hu
    obtain ⟨⟨⟨⟨h1, h2⟩, h3⟩, h4⟩, h5⟩ := hu
    cases i with
    | zero => exact ⟨by simpa using h1, by simpa using h2, by simpa using h3⟩
    | succ i =>
      have := Pl.upTo_get r (k + 1) h5 i (by simpa using h)
      simp only [List.getElem_cons_succ]
      exact ⟨by omega, this.2⟩
theorem Pl.rise_get : ∀ (l : List (Nat × Nat × Nat × Nat)) (f : Nat), Pl.rise f l = true → ∀ i (h : i < l.length), f ≤ l[i].2.1
  | [], _, _, _, h => by simp at h
  | y :: r, f, hu, i, h => by
    simp only [Pl.rise, Bool.and_eq_true, decide_eq_true_eq] at hu
    cases i with
    | zero => simpa using hu.1
    | succ i =>
      have := Pl.rise_get r y.2.1 hu.2 i (by simpa using h)
      simp only [List.getElem_cons_succ]
      omega
theorem Pl.rise_mono : ∀ (l : List (Nat × Nat × Nat × Nat)) (f : Nat), Pl.rise f l = true → ∀ i j (hij : i ≤ j) (h : j < l.length), l[i].2.1 ≤ l[j].2.1
  | [], _, _, _, _, _, h => by simp at h
  | y :: r, f, hu, i, j, hij, h => by
    simp only [Pl.rise, Bool.and_eq_true, decide_eq_true_eq] at hu
    cases j with
    | zero => obtain rfl : i = 0 := by omega
              exact Nat.le_refl _
    | succ j =>
      cases i with
      | zero => simpa using Pl.rise_get r y.2.1 hu.2 j (by simpa using h)
      | succ i => simpa using Pl.rise_mono r y.2.1 hu.2 i j (by omega) (by simpa using h)
theorem Pl.apart_get : ∀ (l : List (List UInt8)), Pl.apart l = true → ∀ i j (hij : i < j) (h : j < l.length), l[i] ≠ l[j]
  | [], _, _, _, _, h => by simp at h
  | a :: r, hu, i, j, hij, h => by
    simp only [Pl.apart, Bool.and_eq_true, List.all_eq_true] at hu
    cases j with
    | zero => omega
    | succ j =>
      cases i with
      | zero =>
        have hj : j < r.length := by simpa using h
        have := hu.1 r[j] (List.getElem_mem _)
        simpa using this
      | succ i => simpa using Pl.apart_get r hu.2 i j (by omega) (by simpa using h)

/-- the one at a number from 1 to 162 -/
theorem Pl.opAt_some {T : ByteArray} (hl : (Pl.yields T).length = 162) (N : Int) (h1 : 1 ≤ N) (h2 : N ≤ 162) : Pl.opAt T N = some ((Pl.yields T)[(N - 1).toNat]'(by omega)) := by
  unfold Pl.opAt
  rw [if_pos h1]
  exact List.getElem?_eq_getElem _
theorem Pl.opWord_of {T : ByteArray} (hl : (Pl.yields T).length = 162) (N : Int) (h1 : 1 ≤ N) (h2 : N ≤ 162) : (Pl.opWord T N).data.toList = Pl.wordL T ((Pl.yields T)[(N - 1).toNat]'(by omega)) := by
  unfold Pl.opWord
  rw [Pl.opAt_some hl N h1 h2]
  exact Pl.word_list T _
theorem Pl.word_ne {T : ByteArray} (hT : Pl.OpT2 T) (M N : Int) (h1 : 1 ≤ M) (h2 : M < N) (h3 : N ≤ 162) : Pl.opWord T M ≠ Pl.opWord T N := by
  have hl := hT.1.2.2.1
  intro h
  have e := Pl.bytes_ext.1 h
  rw [Pl.opWord_of hl M h1 (by omega), Pl.opWord_of hl N (by omega) h3] at e
  have := Pl.apart_get _ hT.2.2.2.1 (M - 1).toNat (N - 1).toNat (by omega) (by rw [List.length_map, hl]; omega)
  simp only [List.getElem_map] at this
  exact this e
theorem Pl.word_full {T : ByteArray} (hT : Pl.OpT2 T) (N : Int) (h1 : 1 ≤ N) (h2 : N ≤ 162) : Pl.opWord T N ≠ ⟨#[]⟩ := by
  have hl := hT.1.2.2.1
  intro h
  have e := Pl.bytes_ext.1 h
  rw [Pl.opWord_of hl N h1 h2] at e
  have := List.all_eq_true.1 hT.2.2.2.2 _ (List.getElem_mem (l := Pl.yields T) (n := (N - 1).toNat) (by omega))
  rw [e] at this
  simp at this
theorem Pl.word_inj {T : ByteArray} (hT : Pl.OpT2 T) (M N : Int) (hM : 1 ≤ M ∧ M ≤ 162) (hN : 1 ≤ N ∧ N ≤ 162) : Pl.opWord T M = Pl.opWord T N ↔ M = N := by
  refine ⟨fun h => ?_, fun h => by rw [h]⟩
  rcases Int.lt_trichotomy M N with c | c | c
  · exact absurd h (Pl.word_ne hT M N hM.1 c hN.2)
  · exact c
  · exact absurd h.symm (Pl.word_ne hT N M hN.1 c hM.2)
theorem Pl.fam_bd {T : ByteArray} (hT : Pl.OpT2 T) (N : Int) (h1 : 1 ≤ N) (h2 : N ≤ 162) : 1 ≤ Pl.opFam T N ∧ Pl.opFam T N ≤ 6 := by
  have hl := hT.1.2.2.1
  have := Pl.upTo_get _ 1 hT.2.1 (N - 1).toNat (by omega)
  unfold Pl.opFam
  rw [Pl.opAt_some hl N h1 h2]
  show 1 ≤ (((Pl.yields T)[(N - 1).toNat]).2.1 : Int) ∧ (((Pl.yields T)[(N - 1).toNat]).2.1 : Int) ≤ 6
  omega
theorem Pl.fam_mono {T : ByteArray} (hT : Pl.OpT2 T) (M N : Int) (h1 : 1 ≤ M) (h2 : M ≤ N) (h3 : N ≤ 162) : Pl.opFam T M ≤ Pl.opFam T N := by
  have hl := hT.1.2.2.1
  have := Pl.rise_mono _ 1 hT.2.2.1 (M - 1).toNat (N - 1).toNat (by omega) (by omega)
  unfold Pl.opFam
  rw [Pl.opAt_some hl M h1 (by omega), Pl.opAt_some hl N (by omega) h3]
  show (((Pl.yields T)[(M - 1).toNat]).2.1 : Int) ≤ (((Pl.yields T)[(N - 1).toNat]).2.1 : Int)
  omega
theorem Pl.find_word {T : ByteArray} (hT : Pl.OpT2 T) (N : Int) (h1 : 1 ≤ N) (h2 : N ≤ 162) : Pl.opNum T (Pl.opWord T N) = N ∧ (Pl.opFind T (Pl.opWord T N)).isSome = true := by
  have hl := hT.1.2.2.1
  have hw : ∀ i (h : i < (Pl.yields T).length), T.extract ((Pl.yields T)[i]).2.2.1 ((Pl.yields T)[i]).2.2.2 = Pl.opWord T ((i : Int) + 1) := by
    intro i h
    unfold Pl.opWord
    rw [Pl.opAt_some hl _ (by omega) (by omega)]
    simp
  have e : Pl.opFind T (Pl.opWord T N) = some ((Pl.yields T)[(N - 1).toNat]'(by omega)) := by
    unfold Pl.opFind
    rw [List.find?_eq_some_iff_getElem]
    refine ⟨?_, (N - 1).toNat, by omega, rfl, ?_⟩
    · rw [hw _ (by omega), decide_eq_true_eq]
      congr 1; omega
    · intro j hj
      rw [hw _ (by omega)]
      have := Pl.word_ne hT ((j : Int) + 1) N (by omega) (by omega) h2
      simp [this]
  unfold Pl.opNum
  rw [e]
  have := (Pl.upTo_get _ 1 hT.2.1 (N - 1).toNat (by omega)).1
  exact ⟨by show (((Pl.yields T)[(N - 1).toNat]).1 : Int) = N; omega, rfl⟩
theorem Pl.find_none {T : ByteArray} (hT : Pl.OpT2 T) : (Pl.opFind T ⟨#[]⟩).isSome = false := by
  have : Pl.opFind T ⟨#[]⟩ = none := by
    unfold Pl.opFind
    rw [List.find?_eq_none]
    intro y hy
    have h := List.all_eq_true.1 hT.2.2.2.2 y hy
    intro hd
    have hd := Pl.bytes_ext.1 (of_decide_eq_true hd)
    rw [Pl.word_list] at hd
    rw [hd] at h
    simp at h
  rw [this]; rfl
theorem Pl.word_out {T : ByteArray} (hT : Pl.OpT T) (N : Int) (h : N < 1 ∨ 162 < N) : Pl.opWord T N = ⟨#[]⟩ ∧ Pl.opFam T N = 0 := by
  have e : Pl.opAt T N = none := by
    rcases h with h | h
    · exact Pl.opAt_low T N h
    · exact Pl.opAt_high T N (by rw [hT.2.2.1]; exact h)
  unfold Pl.opWord Pl.opFam
  rw [e]
  exact ⟨rfl, rfl⟩
/-- the document's examples -/
theorem opT_known : Pl.opNum (rangedText Try.f58) ⟨#[97, 100, 100]⟩ = 11 ∧ (Pl.opFind (rangedText Try.f58) ⟨#[97, 100, 100]⟩).isSome = true ∧ Pl.opWord (rangedText Try.f58) 1 = ⟨#[112, 111, 112]⟩ ∧ Pl.opFam (rangedText Try.f58) 11 = 1 := by
  refine ⟨by decide +kernel, by decide +kernel, by decide +kernel, by decide +kernel⟩
end Go.Proofs.Ytenmbkngkabonaa
