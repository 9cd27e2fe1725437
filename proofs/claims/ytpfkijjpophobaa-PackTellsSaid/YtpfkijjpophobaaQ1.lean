/- The reference of layer 6: find, all, add, Ten, positive: the walks. Pieces of a text. -/
import Derived.Test.YtpfkijjpophobaaL6b
namespace Go.Proofs.Ytpfkijjpophobaa
set_option linter.unusedVariables false
open Go.RowKit

theorem Pl.tx_eta (s : ByteArray) : s = Pl.tx s.data.toList := by unfold Pl.tx; rw [Array.toArray_toList]
theorem slice_to (l : List UInt8) (j : Nat) (hj : j ≤ l.length) (W : World) :
    (Instr.slice 9 (.string (Pl.tx l)) none (some (.int .i64 (j : Int))) none).run Try.prog W = .ok (.string (Pl.tx (l.take j))) W := by
  rw [run_slice_string_to_if (P := Try.prog) W 9 (Pl.tx l) .i64 (j : Int) Try.underlying9, if_pos (by rw [Pl.tx_size]; omega), Int.toNat_natCast]
  congr 2
  apply ByteArray.ext
  rw [ByteArray.data_extract]
  unfold Pl.tx
  simp
theorem slice_from (l : List UInt8) (i : Nat) (hi : i ≤ l.length) (W : World) :
    (Instr.slice 9 (.string (Pl.tx l)) (some (.int .i64 (i : Int))) none none).run Try.prog W = .ok (.string (Pl.tx (l.drop i))) W := by
  rw [run_slice_string_from_if (P := Try.prog) W 9 (Pl.tx l) .i64 (i : Int) Try.underlying9, if_pos (by rw [Pl.tx_size]; omega), Int.toNat_natCast]
  congr 2
  apply ByteArray.ext
  rw [ByteArray.data_extract]
  unfold Pl.tx
  simp [ByteArray.size]
  exact List.take_of_length_le (by simp)
theorem byte_at (l : List UInt8) (i : Nat) (b : UInt8) (h : l[i]? = some b) (W : World) : (Instr.index 9 (.string (Pl.tx l)) (.int .i64 (i : Int))).run Try.prog W = .ok (.int .u8 (b.toNat : Int)) W := by
  have hi : i < l.length := (List.getElem?_eq_some_iff.1 h).1
  rw [index_at (Pl.tx l) i (by rw [Pl.tx_size]; exact hi) W, Pl.bt_tx, h]
  rfl

set_option maxRecDepth 100000 in
/-- find: the first place of a byte -/
theorem find_some (A B : List UInt8) (c : UInt8) (hA : c ∉ A) (hl : A.length + B.length < 4611686018427387904) (W : World) :
    Calls Try.prog 40 #[.string (Pl.tx (A ++ c :: B)), .int .u8 (c.toNat : Int)] W fun e w' => e = .returned (.int .i64 (A.length : Int)) ∧ W = w' := by
  have hIx : ∀ (i : Nat) (b : UInt8), (A ++ c :: B)[i]? = some b → ∀ W, (Instr.index 9 (.string (Pl.tx (A ++ c :: B))) (.int .i64 (i : Int))).run Try.prog W = .ok (.int .u8 (b.toNat : Int)) W := fun i b h W => byte_at _ i b h W
  have hsz : (Pl.tx (A ++ c :: B)).size = A.length + B.length + 1 := by rw [Pl.tx_size, List.length_append, List.length_cons]; omega
  obtain ⟨s, hs⟩ : ∃ s, s = Pl.tx (A ++ c :: B) := ⟨_, rfl⟩
  rw [← hs] at hIx hsz ⊢
  have HIX := Lib.hid hIx
  have c0 : 0 ≤ (c.toNat : Int) := by omega
  have c1 : (c.toNat : Int) ≤ 255 := by have := c.toNat_lt; omega
  clear hIx hs
  go_enter Try.func40, Try.ntmps40
  go_wp2_with fail
  go_loopw [5] (fun s5 wr => ∃ i : Nat, s5 = .int .i64 (i : Int) ∧ i ≤ A.length ∧ wr = W) (fun s5 _ => ((A.length : Int) - intOf s5).toNat)
  case atStart => exact ⟨0, rfl, by omega, rfl⟩
  case round =>
    obtain ⟨i, rfl, hi, rfl⟩ := hrel
    have hlt : (i : Int) < (s.size : Int) := by omega
    rcases Nat.lt_or_eq_of_le hi with h | rfl
    · have ix := HIX.out i A[i] (by rw [List.getElem?_append_left h, List.getElem?_eq_getElem h])
      have hne : A[i] ≠ c := fun e => hA (by rw [← e]; exact List.getElem_mem h)
      have hn2 : A[i].toNat ≠ c.toNat := fun e => hne (UInt8.toNat_inj.1 e)
      obtain ⟨d, hd⟩ : ∃ d, d = A[i].toNat := ⟨_, rfl⟩
      have d1 : (d : Int) ≤ 255 := by have := A[i].toNat_lt; omega
      rw [← hd] at ix hn2
      have b1 : ((d : Int) == (c.toNat : Int)) = false := beq_eq_false_iff_ne.2 (by omega)
      have b2 : (d == c.toNat) = false := beq_eq_false_iff_ne.2 hn2
      clear hd hne hn2 hA
      go_wp2_with fail
      exact ⟨⟨i + 1, by simp, by omega, by trivial⟩, by simp [intOf]; omega⟩
    · have ix := HIX.out A.length c (by rw [List.getElem?_append_right (Nat.le_refl _), Nat.sub_self]; rfl)
      clear hA
      go_wp2_with fail
      go_ret
      exact ⟨rfl, rfl⟩
set_option maxRecDepth 100000 in
theorem find_none (l : List UInt8) (c : UInt8) (hA : c ∉ l) (hl : l.length < 4611686018427387904) (W : World) :
    Calls Try.prog 40 #[.string (Pl.tx l), .int .u8 (c.toNat : Int)] W fun e w' => e = .returned (.int .i64 (-1)) ∧ W = w' := by
  have hIx : ∀ (i : Nat) (b : UInt8), l[i]? = some b → ∀ W, (Instr.index 9 (.string (Pl.tx l)) (.int .i64 (i : Int))).run Try.prog W = .ok (.int .u8 (b.toNat : Int)) W := fun i b h W => byte_at _ i b h W
  have hsz : (Pl.tx l).size = l.length := Pl.tx_size l
  obtain ⟨s, hs⟩ : ∃ s, s = Pl.tx l := ⟨_, rfl⟩
  rw [← hs] at hIx hsz ⊢
  have HIX := Lib.hid hIx
  have c0 : 0 ≤ (c.toNat : Int) := by omega
  have c1 : (c.toNat : Int) ≤ 255 := by have := c.toNat_lt; omega
  clear hIx hs
  go_enter Try.func40, Try.ntmps40
  go_wp2_with fail
  go_loopw [5] (fun s5 wr => ∃ i : Nat, s5 = .int .i64 (i : Int) ∧ i ≤ l.length ∧ wr = W) (fun s5 _ => ((l.length : Int) - intOf s5).toNat)
  case atStart => exact ⟨0, rfl, by omega, rfl⟩
  case round =>
    obtain ⟨i, rfl, hi, rfl⟩ := hrel
    rcases Nat.lt_or_eq_of_le hi with h | rfl
    · have hlt : (i : Int) < (s.size : Int) := by omega
      have ix := HIX.out i l[i] (List.getElem?_eq_getElem h)
      have hne : l[i] ≠ c := fun e => hA (by rw [← e]; exact List.getElem_mem h)
      have hn2 : l[i].toNat ≠ c.toNat := fun e => hne (UInt8.toNat_inj.1 e)
      obtain ⟨d, hd⟩ : ∃ d, d = l[i].toNat := ⟨_, rfl⟩
      have d1 : (d : Int) ≤ 255 := by have := l[i].toNat_lt; omega
      rw [← hd] at ix hn2
      have b1 : ((d : Int) == (c.toNat : Int)) = false := beq_eq_false_iff_ne.2 (by omega)
      have b2 : (d == c.toNat) = false := beq_eq_false_iff_ne.2 hn2
      clear hd hne hn2 hA
      go_wp2_with fail
      exact ⟨⟨i + 1, by simp, by omega, by trivial⟩, by simp [intOf]; omega⟩
    · have hlt : ¬ ((l.length : Int) < (s.size : Int)) := by omega
      clear hA
      go_wp2_with fail
      go_ret
      exact ⟨rfl, rfl⟩
theorem rdigit (d : Nat) (hd : d ≤ 255) (W : World) :
    Calls Try.prog 66 #[.int .u8 (d : Int)] W fun e w' => e = .returned (.bool (Pl.isD d)) ∧ W = w' := by
  have d1 : (d : Int) ≤ 255 := by omega
  have hc : (Pl.isD d = true ∧ 48 ≤ (d : Int) ∧ (d : Int) ≤ 57) ∨ (Pl.isD d = false ∧ (d : Int) < 48) ∨ (Pl.isD d = false ∧ 57 < (d : Int)) := by
    by_cases h1 : d < 48
    · exact .inr (.inl ⟨decide_eq_false (by omega), by omega⟩)
    by_cases h2 : 57 < d
    · exact .inr (.inr ⟨decide_eq_false (by omega), by omega⟩)
    exact .inl ⟨decide_eq_true (by omega), by omega, by omega⟩
  rcases hc with ⟨h, h1, h2⟩ | ⟨h, h1⟩ | ⟨h, h1⟩
  all_goals
    rw [h]
    have h1' : decide (48 ≤ (d : Int)) = decide (48 ≤ (d : Int)) := rfl
    clear h h1'
    go_enter Try.func66, Try.ntmps66
    go_wp2_with fail
    all_goals
      go_ret
      refine ⟨ret_bool ?_, rfl⟩
      first | rfl | (simp; omega) | (simp; done)
/-- all: digits alone -/
def Pl.allD (l : List UInt8) : Bool := l.all (fun b => Pl.isD b.toNat)
theorem Pl.allD_iff (l : List UInt8) : Pl.allD l = true ↔ Pl.dig l := by
  unfold Pl.allD Pl.dig
  rw [List.all_eq_true]
  constructor
  · intro h b hb
    exact of_decide_eq_true (h b hb)
  · intro h b hb
    exact decide_eq_true (h b hb)
set_option maxRecDepth 100000 in
theorem all_any (l : List UInt8) (hl : l.length < 4611686018427387904) (W : World) :
    Calls Try.prog 42 #[.string (Pl.tx l)] W fun e w' => e = .returned (.bool (Pl.allD l)) ∧ W = w' := by
  have hIx : ∀ (i : Nat) (b : UInt8), l[i]? = some b → ∀ W, (Instr.index 9 (.string (Pl.tx l)) (.int .i64 (i : Int))).run Try.prog W = .ok (.int .u8 (b.toNat : Int)) W := fun i b h W => byte_at _ i b h W
  have hsz : (Pl.tx l).size = l.length := Pl.tx_size l
  obtain ⟨s, hs⟩ : ∃ s, s = Pl.tx l := ⟨_, rfl⟩
  rw [← hs] at hIx hsz ⊢
  have HIX := Lib.hid hIx
  obtain ⟨R, hR⟩ : ∃ R, R = Pl.allD l := ⟨_, rfl⟩
  rw [← hR]
  have HR : Hid (R = (l.drop 0).all (fun b => Pl.isD b.toNat)) := Lib.hid (by rw [hR]; rfl)
  clear hIx hs hR
  go_enter Try.func42, Try.ntmps42
  go_wp2_with fail
  go_loopw [3] (fun s3 wr => ∃ i : Nat, s3 = .int .i64 (i : Int) ∧ i ≤ l.length ∧ wr = W ∧ Hid (R = (l.drop i).all (fun b => Pl.isD b.toNat))) (fun s3 _ => ((l.length : Int) - intOf s3).toNat)
  case atStart => exact ⟨0, rfl, by omega, rfl, HR⟩
  case round =>
    obtain ⟨i, rfl, hi, rfl, HQ⟩ := hrel
    rcases Nat.lt_or_eq_of_le hi with h | rfl
    · have hlt : (i : Int) < (s.size : Int) := by omega
      have ix := HIX.out i l[i] (List.getElem?_eq_getElem h)
      have hst : l.drop i = l[i] :: l.drop (i + 1) := List.drop_eq_getElem_cons h
      obtain ⟨d, hd⟩ : ∃ d, d = l[i].toNat := ⟨_, rfl⟩
      have d2 : d ≤ 255 := by have := l[i].toNat_lt; omega
      have d1 : (d : Int) ≤ 255 := by omega
      have CD := Lib.hid (fun Z => rdigit d d2 Z)
      have HQ2 : Hid (R = (Pl.isD d && (l.drop (i + 1)).all (fun b => Pl.isD b.toNat))) := Lib.hid (by rw [HQ.out, hst, List.all_cons, hd])
      rw [← hd] at ix
      clear hd hst HQ HR
      cases hb : Pl.isD d with
      | false =>
        rw [hb] at CD HQ2
        go_wp2_with fail
        refine (CD.out _).mono ?_
        rintro e w1 ⟨rfl, rfl⟩
        go_wp2_with fail
        go_ret
        exact ⟨by rw [HQ2.out]; rfl, rfl⟩
      | true =>
        rw [hb] at CD HQ2
        go_wp2_with fail
        refine (CD.out _).mono ?_
        rintro e w1 ⟨rfl, rfl⟩
        go_wp2_with fail
        exact ⟨⟨i + 1, by simp, by omega, by trivial, Lib.hid (by rw [HQ2.out, Bool.true_and])⟩, by simp [intOf]; omega⟩
    · have hlt : ¬ ((l.length : Int) < (s.size : Int)) := by omega
      have HQ2 : Hid (R = true) := Lib.hid (by rw [HQ.out, List.drop_length]; rfl)
      clear HQ HR
      go_wp2_with fail
      go_ret
      exact ⟨by rw [HQ2.out]; rfl, rfl⟩
/-- add: the number of letters to a base, held at 2^40 -/
def Pl.rav (B v : Int) : List UInt8 → Int
  | [] => v
  | b :: r => Pl.rav B (min (v * B + Pl.cv (b.toNat : Int)) 1099511627776) r
theorem Pl.cv_bd (c : Int) : -1 ≤ Pl.cv c ∧ Pl.cv c ≤ 35 := by
  unfold Pl.cv
  (repeat' split) <;> omega
set_option maxRecDepth 100000 in
theorem add_any (l : List UInt8) (hl : l.length < 4611686018427387904) (B : Int) (hB : 2 ≤ B ∧ B ≤ 36) (hc : ∀ b ∈ l, 0 ≤ Pl.cv (b.toNat : Int)) (W : World) :
    Calls Try.prog 43 #[.string (Pl.tx l), .int .i64 B] W fun e w' => e = .returned (.int .i64 (Pl.rav B 0 l)) ∧ Grown W w' := by
  have hIx : ∀ (i : Nat) (b : UInt8), l[i]? = some b → ∀ W, (Instr.index 9 (.string (Pl.tx l)) (.int .i64 (i : Int))).run Try.prog W = .ok (.int .u8 (b.toNat : Int)) W := fun i b h W => byte_at _ i b h W
  have hsz : (Pl.tx l).size = l.length := Pl.tx_size l
  obtain ⟨s, hs⟩ : ∃ s, s = Pl.tx l := ⟨_, rfl⟩
  rw [← hs] at hIx hsz ⊢
  have HIX := Lib.hid hIx
  have HC := Lib.hid hc
  obtain ⟨R, hR⟩ : ∃ R, R = Pl.rav B 0 l := ⟨_, rfl⟩
  rw [← hR]
  have HR : Hid (R = Pl.rav B 0 (l.drop 0)) := Lib.hid (by rw [hR]; rfl)
  obtain ⟨B2, B36⟩ := hB
  clear hIx hs hR hc
  go_enter Try.func43, Try.ntmps43
  go_wp2_with fail
  go_loopw [5, 6] (fun s5 s6 wr => ∃ (i : Nat) (v : Int), s5 = .int .i64 v ∧ s6 = .int .i64 (i : Int) ∧ i ≤ l.length ∧ 0 ≤ v ∧ v ≤ 1099511627776 ∧ Hid (Grown W wr) ∧ Hid (R = Pl.rav B v (l.drop i))) (fun _ s6 _ => ((l.length : Int) - intOf s6).toNat)
  case atStart => exact ⟨0, 0, rfl, rfl, by omega, by omega, by omega, Lib.hid (Grown.refl W), HR⟩
  case round =>
    obtain ⟨i, v, rfl, rfl, hi, v0, v1, HG, HQ⟩ := hrel
    rcases Nat.lt_or_eq_of_le hi with h | rfl
    · have hlt : (i : Int) < (s.size : Int) := by omega
      have ix := HIX.out i l[i] (List.getElem?_eq_getElem h)
      have hst : l.drop i = l[i] :: l.drop (i + 1) := List.drop_eq_getElem_cons h
      have hcv := HC.out l[i] (List.getElem_mem h)
      have hcb := Pl.cv_bd (l[i].toNat : Int)
      obtain ⟨d, hd⟩ : ∃ d, d = l[i].toNat := ⟨_, rfl⟩
      have d2 : d ≤ 255 := by have := l[i].toNat_lt; omega
      have d1 : (d : Int) ≤ 255 := by omega
      have CV := Lib.hid (fun Z => rvalue_any (d : Int) (by omega) Z)
      have HQ2 : Hid (R = Pl.rav B (min (v * B + Pl.cv (d : Int)) 1099511627776) (l.drop (i + 1))) := Lib.hid (by rw [HQ.out, hst, hd]; rfl)
      rw [← hd] at ix hcv hcb
      obtain ⟨c, hcc⟩ : ∃ c, c = Pl.cv (d : Int) := ⟨_, rfl⟩
      rw [← hcc] at CV HQ2 hcv hcb
      have hcb2 := hcb.2
      have m0 : 0 ≤ v * B := Int.mul_nonneg v0 (by omega)
      have m1 : v * B ≤ 1099511627776 * 36 := Int.mul_le_mul v1 B36 (by omega) (by omega)
      clear hd hst HQ HR hcc hcb
      go_wp2_with fail
      refine (CV.out _).mono ?_
      rintro e w1 ⟨rfl, g1⟩
      have G1 := Lib.hid (grown_trans HG.out g1)
      clear CV
      go_wp2_with fail
      refine ⟨⟨i + 1, min (v * B + c) 1099511627776, ?_, by simp, by omega, by omega, by omega, G1, HQ2⟩, by simp [intOf]; omega⟩
      congr 1
      split <;> omega
    · have hlt : ¬ ((l.length : Int) < (s.size : Int)) := by omega
      have HQ2 : Hid (R = v) := Lib.hid (by rw [HQ.out, List.drop_length]; rfl)
      clear HQ HR
      go_wp2_with fail
      go_ret
      exact ⟨by rw [HQ2.out]; rfl, HG.out⟩
set_option maxRecDepth 100000 in
theorem rten_any (n : Nat) (hn : n ≤ 18) (W : World) :
    Calls Try.prog 49 #[.int .i64 (n : Int)] W fun e w' => e = .returned (.int .i64 ((10 ^ n : Nat) : Int)) ∧ W = w' := by
  go_enter Try.func49, Try.ntmps49
  go_wp2_with fail
  go_loopw [0, 3] (fun s0 s3 wr => ∃ k : Nat, s0 = .int .i64 ((n - k : Nat) : Int) ∧ k ≤ n ∧ s3 = .int .i64 ((10 ^ k : Nat) : Int) ∧ wr = W) (fun s0 _ _ => (intOf s0).toNat)
  case atStart => exact ⟨0, rfl, by omega, rfl, rfl⟩
  case round =>
    obtain ⟨k, rfl, hk, rfl, rfl⟩ := hrel
    rcases Nat.lt_or_eq_of_le hk with hlt | rfl
    · have hbk : 10 ^ k ≤ 10 ^ 17 := Nat.pow_le_pow_right (by omega) (by omega)
      have hpw : 10 * 10 ^ k = 10 ^ (k + 1) := by rw [Nat.pow_succ]; omega
      have HP := Lib.hid hpw
      obtain ⟨T, hT⟩ : ∃ T : Nat, T = 10 ^ k := ⟨_, rfl⟩
      rw [← hT] at hbk HP ⊢
      have hb1 : (T : Int) ≤ 100000000000000000 := by omega
      have hb2 : (0 : Int) ≤ (T : Int) := by omega
      obtain ⟨m, hm⟩ : ∃ m, m = n - k := ⟨_, rfl⟩
      rw [← hm]
      have hm1 : (0 : Int) < (m : Int) := by omega
      have hm2 : (m : Int) ≤ 18 := by omega
      have HM : Hid ((m : Int) - 1 = ((n - (k + 1) : Nat) : Int)) := Lib.hid (by omega)
      clear hT hbk hpw hm
      go_wp2_with fail
      go_roundw
      case rel => exact ⟨k + 1, by rw [← HM.out], by omega, by rw [← HP.out]; simp, by trivial⟩
      case measure => simp [intOf] <;> omega
    · rw [Nat.sub_self]
      go_wp2_with fail
      go_ret
      exact ⟨rfl, rfl⟩
set_option maxRecDepth 100000 in
/-- positive: a number's digits -/
theorem positive_any (n : Nat) : n < 18446744073709551616 → ∀ W : World, Calls Try.prog 45 #[.int .u64 (n : Int)] W fun e w' => e = .returned (.string ⟨(Pl.dec n).toArray⟩) ∧ ∃ m, w' = W.drewN m := by
  induction n using Nat.strongRecOn with
  | ind n ih =>
    intro hn W
    have hst := Pl.dec_step n (by omega)
    have tenu : ∀ x : Nat, x < 10 → ∀ W : World, (Instr.slice 9 (.string ⟨#[48, 49, 50, 51, 52, 53, 54, 55, 56, 57]⟩) (some (.int .u64 (x : Int))) (some (.int .u64 ((x : Int) + 1))) none).run Try.prog W = .ok (.string ⟨#[UInt8.ofNat (48 + x)]⟩) W := by
      intro x hx W
      have h : x = 0 ∨ x = 1 ∨ x = 2 ∨ x = 3 ∨ x = 4 ∨ x = 5 ∨ x = 6 ∨ x = 7 ∨ x = 8 ∨ x = 9 := by omega
      rcases h with rfl | rfl | rfl | rfl | rfl | rfl | rfl | rfl | rfl | rfl <;> rfl
    by_cases h : n < 10
    · rw [if_pos h, List.nil_append, show n % 10 = n by omega] at hst
      have HS := Lib.hid hst
      have sl := tenu n h
      have h' : (n : Int) < 10 := by omega
      obtain ⟨L, hL⟩ : ∃ L : ByteArray, L = ⟨#[UInt8.ofNat (48 + n)]⟩ := ⟨_, rfl⟩
      rw [← hL] at sl
      have HL := Lib.hid hL
      clear hst ih hL tenu
      go_enter Try.func45, Try.ntmps45
      go_wp2_with fail
      go_ret
      refine ⟨?_, 0, rfl⟩
      show Ending.returned (.string L) = _
      rw [HS.out, HL.out]
    · rw [if_neg h] at hst
      have CI := Lib.hid (ih (n / 10) (by omega) (by omega))
      have sl := tenu (n % 10) (by omega)
      have hd := Pl.dec_len (n / 10)
      obtain ⟨x, hx⟩ : ∃ x, x = n % 10 := ⟨_, rfl⟩
      obtain ⟨q, hq⟩ : ∃ q, q = n / 10 := ⟨_, rfl⟩
      rw [← hx] at hst sl
      rw [← hq] at hst CI hd
      have e1 : (n : Int) % 10 = (x : Int) := by omega
      have e2 : (n : Int) / 10 = (q : Int) := by omega
      obtain ⟨L, hL⟩ : ∃ L : ByteArray, L = ⟨#[UInt8.ofNat (48 + x)]⟩ := ⟨_, rfl⟩
      rw [← hL] at sl
      have hLs : L.size = 1 := by rw [hL]; rfl
      obtain ⟨Q, hQ⟩ : ∃ Q : ByteArray, Q = ⟨(Pl.dec q).toArray⟩ := ⟨_, rfl⟩
      rw [← hQ] at CI
      have hQs : Q.size ≤ 20 := by rw [hQ]; simpa [ByteArray.size] using hd
      obtain ⟨R, hR⟩ : ∃ R : ByteArray, R = Q ++ L := ⟨_, rfl⟩
      have hQL : Q ++ L = R := hR.symm
      have hsz : ¬ (9223372036854775807 < Q.size + L.size) := by omega
      have HR : Hid (R = ⟨(Pl.dec n).toArray⟩) := Lib.hid (by
        rw [hR, hQ, hL, hst]
        apply ByteArray.ext
        simp)
      have hx0 : 0 ≤ (x : Int) := by omega
      have hx9 : (x : Int) ≤ 9 := by omega
      have hq0 : 0 ≤ (q : Int) := by omega
      have hq1 : (q : Int) ≤ 1844674407370955161 := by omega
      have hh : 10 ≤ (n : Int) := by omega
      have hn2 : (n : Int) ≤ 18446744073709551615 := by omega
      clear hst ih hx hq hL hR hQ hLs hQs hd h tenu
      go_enter Try.func45, Try.ntmps45
      go_wp2_with fail
      go_quiet (exact Calls.quiet_of (CI.out _))
      go_wp2_with fail
      go_ret
      refine ⟨?_, _, rfl⟩
      show Ending.returned (.string R) = _
      rw [HR.out]
theorem positive6 (n : Nat) (hn : n < 18446744073709551616) (W : World) : Calls Try.prog 45 #[.int .u64 (n : Int)] W fun e w' => e = .returned (.string ⟨(Pl.dec n).toArray⟩) ∧ Grown W w' :=
  (positive_any n hn W).mono fun e w' ⟨he, m, hm⟩ => ⟨he, by rw [hm]; exact grown_drewN (Grown.refl W) m⟩
end Go.Proofs.Ytpfkijjpophobaa
