/- tympanhelp.Find of one letter; plain facts on a fix's text cut short or raised by one. -/
import Derived.Test.YtpfkijjpophobaaQ6
namespace Go.Proofs.Ytpfkijjpophobaa
set_option linter.unusedVariables false
open Go.RowKit

theorem slice_one (l : List UInt8) (i : Nat) (b : UInt8) (h : l[i]? = some b) (W : World) :
    (Instr.slice 9 (.string (Pl.tx l)) (some (.int .i64 (i : Int))) (some (.int .i64 ((i : Int) + 1))) none).run Try.prog W = .ok (.string (Pl.tx [b])) W := by
  have hi : i < l.length := (List.getElem?_eq_some_iff.1 h).1
  rw [run_slice_string_if (P := Try.prog) W 9 (Pl.tx l) .i64 .i64 (i : Int) ((i : Int) + 1) Try.underlying9, if_pos (by rw [Pl.tx_size]; omega), Int.toNat_natCast, show ((i : Int) + 1).toNat = i + 1 by omega, if_pos (by omega)]
  congr 2
  apply ByteArray.ext
  rw [ByteArray.data_extract]
  unfold Pl.tx
  simp
  rw [List.take_add_one, List.getElem?_drop, Nat.add_zero, h]
  rfl
theorem Pl.tx_ne (a b : UInt8) (h : a ≠ b) : ((Pl.tx [a]).toList == (Pl.tx [b]).toList) = false ∧ Pl.tx [a] ≠ Pl.tx [b] := by
  have h3 : Pl.tx [a] ≠ Pl.tx [b] := fun e => h (by unfold Pl.tx at e; injection e with e; injection e with e; injection e)
  refine ⟨beq_eq_false_iff_ne.2 (fun e => h3 ?_), h3⟩
  apply ByteArray.ext
  rw [ByteArray.toList_eq, ByteArray.toList_eq] at e
  exact Array.ext' e
set_option maxRecDepth 100000 in
theorem find_pt (A B : List UInt8) (hA : (46 : UInt8) ∉ A) (hl : A.length + B.length < 4611686018427387904) (W : World) :
    Calls Try.prog 17 #[.string (Pl.tx (A ++ 46 :: B)), .string ⟨#[46]⟩] W fun e w' => e = .returned (.int .i64 (A.length : Int)) ∧ Grown W w' := by
  have hIx : ∀ (i : Nat) (b : UInt8), (A ++ 46 :: B)[i]? = some b → ∀ W, (Instr.slice 9 (.string (Pl.tx (A ++ 46 :: B))) (some (.int .i64 (i : Int))) (some (.int .i64 ((i : Int) + 1))) none).run Try.prog W = .ok (.string (Pl.tx [b])) W := fun i b h W => slice_one _ i b h W
  have hsz : (Pl.tx (A ++ 46 :: B)).size = A.length + B.length + 1 := by rw [Pl.tx_size, List.length_append, List.length_cons]; omega
  obtain ⟨s, hs⟩ : ∃ s, s = Pl.tx (A ++ 46 :: B) := ⟨_, rfl⟩
  rw [← hs] at hIx hsz ⊢
  have HIX := Lib.hid hIx
  obtain ⟨P, hP⟩ : ∃ P : ByteArray, P = ⟨#[46]⟩ := ⟨_, rfl⟩
  have HP := Lib.hid hP
  have hPs : P.size = 1 := by rw [hP]; rfl
  rw [← hP]
  clear hIx hs hP
  go_enter Try.func17, Try.ntmps17
  go_wp2_with fail
  go_loopw [5] (fun s5 wr => ∃ i : Nat, s5 = .int .i64 (i : Int) ∧ i ≤ A.length ∧ Hid (Grown W wr)) (fun s5 _ => ((A.length : Int) - intOf s5).toNat)
  case atStart => exact ⟨0, rfl, by omega, Lib.hid (Grown.refl W)⟩
  case round =>
    obtain ⟨i, rfl, hi, HG⟩ := hrel
    have hlt : (i : Int) + 1 ≤ (s.size : Int) := by omega
    have hwr : IntKind.i64.wrap ((i : Int) + 1) = (i : Int) + 1 := by rw [IntKind.wrap_i64]; omega
    rcases Nat.lt_or_eq_of_le hi with h | rfl
    · have ix := HIX.out i A[i] (by rw [List.getElem?_append_left h, List.getElem?_eq_getElem h])
      have hne : A[i] ≠ 46 := fun e => hA (by rw [← e]; exact List.getElem_mem h)
      obtain ⟨e1, e3⟩ := Pl.tx_ne A[i] 46 hne
      obtain ⟨X, hX⟩ : ∃ X, X = Pl.tx [A[i]] := ⟨_, rfl⟩
      rw [← hX] at ix e1 e3
      rw [show Pl.tx [46] = P from HP.out.symm] at e1 e3
      clear hX hne hA
      go_wp2_with fail
      exact ⟨⟨i + 1, by simp, by omega, HG⟩, by simp [intOf]; omega⟩
    · have ix := HIX.out A.length 46 (by rw [List.getElem?_append_right (Nat.le_refl _), Nat.sub_self]; rfl)
      rw [show Pl.tx [46] = P from HP.out.symm] at ix
      clear hA
      go_wp2_with fail
      go_ret
      exact ⟨rfl, HG.out⟩

theorem Pl.dec_head (n : Nat) : ∀ (hn : n < 10 ^ 20), 1 ≤ n → ∀ b r, Pl.dec n = b :: r → b.toNat ≠ 48 := by
  induction n using Nat.strongRecOn with
  | ind n ih =>
    intro hn h1 b r e
    rw [Pl.dec_step n hn] at e
    by_cases h : n < 10
    · rw [if_pos h, List.nil_append] at e
      injection e with e _
      rw [← e, Pl.digit_nat _ (by omega)]
      omega
    · rw [if_neg h] at e
      cases hd : Pl.dec (n / 10) with
      | nil => exact absurd hd (Pl.dec_ne _)
      | cons c t =>
        rw [hd] at e
        injection e with e _
        rw [← e]
        exact ih (n / 10) (by omega) (by omega) (by omega) c t hd
theorem Pl.dec_one (n : Nat) (hn : n < 10 ^ 20) (h : 1 < (Pl.dec n).length) : 1 ≤ n := by
  rcases Nat.eq_zero_or_pos n with rfl | h0
  · exact absurd h (by decide)
  · exact h0
/-- a number with a point, any digits -/
theorem Pl.read_pt (D E : List UInt8) (hD : Pl.dig D) (hE : Pl.dig E) (h1 : 1 ≤ E.length) (h12 : E.length ≤ 12) :
    Pl.read (Pl.tx (D ++ [46] ++ E)) = (0, 0, 2) ∨ (Pl.nm D ≤ 16383 ∧ Pl.read (Pl.tx (D ++ [46] ++ E)) = (2, Pl.nst (((Pl.nm D * 10 ^ E.length + Pl.nm E : Nat) : Int) * 65536) ((10 ^ E.length : Nat) : Int), 0)) := by
  have h := Pl.read_point [] D E (.inl rfl) hD hE
  rw [List.nil_append] at h
  rw [h]
  have hnb := Pl.nm_lt E hE
  have hpl : 10 ^ E.length ≤ 10 ^ 12 := Nat.pow_le_pow_right (by omega) h12
  have hp0 := Nat.pow_pos (n := E.length) (show 0 < 10 by omega)
  have hsum : ((Pl.nm D : Nat) : Int) * 65536 + Pl.nst (((Pl.nm E : Nat) : Int) * 65536) ((10 ^ E.length : Nat) : Int) = Pl.nst (((Pl.nm D * 10 ^ E.length + Pl.nm E : Nat) : Int) * 65536) ((10 ^ E.length : Nat) : Int) := by
    rw [← Pl.nst_add _ _ _ (by omega) (by omega)]
    obtain ⟨p, hp⟩ : ∃ p, p = 10 ^ E.length := ⟨_, rfl⟩
    rw [← hp]
    refine congrArg (fun x => Pl.nst x (p : Int)) ?_
    show ((Pl.nm E : Nat) : Int) * 65536 + ((Pl.nm D : Nat) : Int) * 65536 * (p : Int) = ((Pl.nm D * p + Pl.nm E : Nat) : Int) * 65536
    have hc : ((Pl.nm D : Nat) : Int) * 65536 * (p : Int) = ((Pl.nm D : Nat) : Int) * (p : Int) * 65536 := by
      rw [Int.mul_assoc, Int.mul_comm 65536, ← Int.mul_assoc]
    rw [hc, Int.natCast_add, Int.natCast_mul]
    omega
  unfold Pl.readPart
  rw [List.length_map, if_neg (by rintro (q | q); cases q; omega), Pl.dvl_nm _ (by omega) _ hE, show min ((Pl.nm E : Int)) 1000000000000 = (Pl.nm E : Int) by omega]
  by_cases hv : 16383 < Pl.nm D
  · rw [if_pos (show 12 < E.length ∨ 16383 < min (Pl.nm D : Int) 2147483648 by omega)]
    exact .inl rfl
  · rw [if_neg (show ¬ (12 < E.length ∨ 16383 < min (Pl.nm D : Int) 2147483648) by omega), show min (Pl.nm D : Int) 2147483648 = (Pl.nm D : Int) by omega, hsum]
    split
    · exact .inl rfl
    · exact .inr ⟨by omega, rfl⟩
/-- nothing with fewer digits denotes that fix -/
theorem Pl.fewer (z : Int) (j : Nat) (h1 : 1 ≤ j) (h4 : j ≤ 4) (h0 : 0 ≤ z) (hno : ¬ Pl.fixOk z j) (a : Int) : Pl.nst (a * 65536) ((10 ^ j : Nat) : Int) ≠ z := by
  intro e
  have hp : 10 ^ j ≤ 10 ^ 4 := Nat.pow_le_pow_right (by omega) h4
  have hp0 := Nat.pow_pos (n := j) (show 0 < 10 by omega)
  have h3 := Pl.nst_near (a * 65536) ((10 ^ j : Nat) : Int) (by omega)
  have h5 := Pl.nst_near (z * ((10 ^ j : Nat) : Int)) 65536 (by omega)
  rw [e] at h3
  have hn : a = Pl.fixN z j := by
    unfold Pl.fixN
    obtain ⟨n, hn⟩ : ∃ n, n = Pl.nst (z * ((10 ^ j : Nat) : Int)) 65536 := ⟨_, rfl⟩
    rw [← hn] at h5 ⊢
    obtain ⟨y, hy⟩ : ∃ y, y = z * ((10 ^ j : Nat) : Int) := ⟨_, rfl⟩
    rw [← hy] at h3 h5
    omega
  apply hno
  unfold Pl.fixOk
  rw [← hn]
  exact e
theorem Pl.part_lt (j : Nat) (h1 : 1 ≤ j) (h4 : j ≤ 4) (x : Int) (h0 : 0 ≤ x) (hx : x < ((10 ^ j : Nat) : Int)) : Pl.nst (x * 65536) ((10 ^ j : Nat) : Int) ≤ 65535 := by
  have hc : j = 1 ∨ j = 2 ∨ j = 3 ∨ j = 4 := by omega
  rcases hc with rfl | rfl | rfl | rfl
  · rw [show ((10 ^ 1 : Nat) : Int) = 10 from rfl] at hx ⊢
    have := Pl.nst_near (x * 65536) 10 (by omega)
    omega
  · rw [show ((10 ^ 2 : Nat) : Int) = 100 from rfl] at hx ⊢
    have := Pl.nst_near (x * 65536) 100 (by omega)
    omega
  · rw [show ((10 ^ 3 : Nat) : Int) = 1000 from rfl] at hx ⊢
    have := Pl.nst_near (x * 65536) 1000 (by omega)
    omega
  · rw [show ((10 ^ 4 : Nat) : Int) = 10000 from rfl] at hx ⊢
    have := Pl.nst_near (x * 65536) 10000 (by omega)
    omega
/-- cut short it is a number still -/
theorem Pl.read_short (D E : List UInt8) (hD : Pl.dig D) (hE : Pl.dig E) (h1 : 1 ≤ E.length) (h4 : E.length ≤ 4) (hq : Pl.nm D ≤ 16383) : ∃ y, Pl.read (Pl.tx (D ++ [46] ++ E)) = (2, y, 0) ∧ y = Pl.nst (((Pl.nm D * 10 ^ E.length + Pl.nm E : Nat) : Int) * 65536) ((10 ^ E.length : Nat) : Int) := by
  have h := Pl.read_point [] D E (.inl rfl) hD hE
  rw [List.nil_append] at h
  have hnb := Pl.nm_lt E hE
  have hpl : 10 ^ E.length ≤ 10 ^ 4 := Nat.pow_le_pow_right (by omega) h4
  have hp0 := Nat.pow_pos (n := E.length) (show 0 < 10 by omega)
  have hx := Pl.part_lt E.length h1 h4 (Pl.nm E) (by omega) (by omega)
  rcases Pl.read_pt D E hD hE h1 (by omega) with h2 | h2
  · exfalso
    rw [h] at h2
    unfold Pl.readPart at h2
    rw [List.length_map, if_neg (by rintro (q | q); cases q; omega), Pl.dvl_nm _ (by omega) _ hE, show min ((Pl.nm E : Int)) 1000000000000 = (Pl.nm E : Int) by omega,
      if_neg (show ¬ (12 < E.length ∨ 16383 < min (Pl.nm D : Int) 2147483648) by omega), show min (Pl.nm D : Int) 2147483648 = (Pl.nm D : Int) by omega, if_neg (by omega)] at h2
    injection h2 with h2 _
    omega
  · exact ⟨_, h2.2, rfl⟩
theorem Pl.fixK_least (z : Int) : ∀ j, 1 ≤ j → j < Pl.fixK z → ¬ Pl.fixOk z j := by
  intro j h1 h2
  unfold Pl.fixK at h2
  split at h2
  · omega
  · rename_i a1
    split at h2
    · rw [show j = 1 by omega]; exact a1
    · rename_i a2
      split at h2
      · rcases (show j = 1 ∨ j = 2 by omega) with rfl | rfl
        · exact a1
        · exact a2
      · rename_i a3
        split at h2
        · rcases (show j = 1 ∨ j = 2 ∨ j = 3 by omega) with rfl | rfl | rfl
          · exact a1
          · exact a2
          · exact a3
        · rename_i a4
          rcases (show j = 1 ∨ j = 2 ∨ j = 3 ∨ j = 4 by omega) with rfl | rfl | rfl | rfl
          · exact a1
          · exact a2
          · exact a3
          · exact a4
end Go.Proofs.Ytpfkijjpophobaa
