/- token.sign, token.May of any word: the walks. -/
import Derived.Test.YtpfkijjpophobaaG4
namespace Go.Proofs.Ytpfkijjpophobaa
set_option linter.unusedVariables false
open Go.RowKit

set_option maxRecDepth 100000 in
theorem sign_yes (k : Int) (hk : 7 ≤ k ∧ k ≤ 12) (W : World) :
    Calls Try.prog 70 #[.int .i64 k] W fun e w' => ∃ s : ByteArray, ¬ s.toList = [] ∧ e = .returned (.string s) ∧ W = w' := by
  have h : k = 7 ∨ k = 8 ∨ k = 9 ∨ k = 10 ∨ k = 11 ∨ k = 12 := by omega
  rcases h with rfl | rfl | rfl | rfl | rfl | rfl
  all_goals
    go_enter Try.func70, Try.ntmps70
    go_wp2_with fail
    go_ret
    exact ⟨_, by first | exact Pl.tx_nonempty [123] (by decide) | exact Pl.tx_nonempty [125] (by decide) | exact Pl.tx_nonempty [91] (by decide) | exact Pl.tx_nonempty [93] (by decide) | exact Pl.tx_nonempty [60, 60] (by decide) | exact Pl.tx_nonempty [62, 62] (by decide), rfl, rfl⟩
set_option maxRecDepth 100000 in
theorem sign_no (k : Int) (h0 : -9223372036854775808 ≤ k) (h1 : k ≤ 9223372036854775807) (hk : ¬ (7 ≤ k ∧ k ≤ 12)) (W : World) :
    Calls Try.prog 70 #[.int .i64 k] W fun e w' => e = .returned (.string ⟨#[]⟩) ∧ W = w' := by
  obtain ⟨x, hx⟩ : ∃ x, IntKind.i64.wrap (k - 7) = x := ⟨_, rfl⟩
  have hx' := hx
  rw [IntKind.wrap_i64] at hx'
  have b0 : (x == 0) = false := beq_eq_false_iff_ne.2 (by omega)
  have b1 : (x == 1) = false := beq_eq_false_iff_ne.2 (by omega)
  have b2 : (x == 2) = false := beq_eq_false_iff_ne.2 (by omega)
  have b3 : (x == 3) = false := beq_eq_false_iff_ne.2 (by omega)
  have b4 : (x == 4) = false := beq_eq_false_iff_ne.2 (by omega)
  have b5 : (x == 5) = false := beq_eq_false_iff_ne.2 (by omega)
  by_cases hlow : k - 7 < -9223372036854775808
  · have e : ((k - 7 + 9223372036854775808) % 18446744073709551616 - 9223372036854775808) = x := hx'
    clear hx'
    go_enter Try.func70, Try.ntmps70
    go_wp2_with fail
    all_goals
      go_ret
      exact ⟨rfl, rfl⟩
  · have e : k - 7 = x := by omega
    clear hx'
    go_enter Try.func70, Try.ntmps70
    go_wp2_with fail
    all_goals
      go_ret
      exact ⟨rfl, rfl⟩
/-- a word as a value -/
def Pl.tokv (k n : Int) (s : List UInt8) (a : Int) : Value := .agg #[.int .i64 k, .int .i64 n, .string (Pl.tx s), .int .i64 a]
/-- may a word be? -/
def Pl.tokMay (k n : Int) (s : List UInt8) : Bool :=
  if k = 1 then decide (s = [] ∧ -2147483647 ≤ n ∧ n ≤ 2147483647) else if k = 2 then decide (s = [] ∧ -1073741823 ≤ n ∧ n ≤ 1073741823) else if n ≠ 0 then false
  else if k = 3 then decide ((Pl.read (Pl.tx s)).2.2 = 3 ∧ s ≠ [] ∧ s.length ≤ 100 ∧ Pl.regs s = s.length) else if k = 4 ∨ k = 5 then decide (s.length ≤ 100 ∧ Pl.regs s = s.length)
  else if k = 6 then decide (s.length ≤ 4000) else decide (7 ≤ k ∧ k ≤ 12 ∧ s = [])
theorem Pl.str_cases (s : List UInt8) : (s = [] ∧ Pl.tx s = ⟨#[]⟩) ∨ (s ≠ [] ∧ ¬ (Pl.tx s).toList = [] ∧ ((Pl.tx s).toList == []) = false ∧ (Pl.tx s).toList.isEmpty = false) := by
  by_cases h : s = []
  · exact .inl ⟨h, by rw [h]; rfl⟩
  · have hl3 := Pl.tx_nonempty s h
    exact .inr ⟨h, hl3, Pl.ne_beq hl3, Pl.ne_empty hl3⟩
set_option maxHeartbeats 1000000 in
set_option maxRecDepth 100000 in
theorem may_num (k n : Int) (s : List UInt8) (a : Int) (hk : k = 1 ∨ k = 2) (W : World) :
    Calls Try.prog 51 #[Pl.tokv k n s a] W fun e w' => e = .returned (.bool (Pl.tokMay k n s)) ∧ Fr (fun _ => False) W w' := by
  have hs := Pl.str_cases s
  unfold Pl.tokv
  obtain ⟨R, hR⟩ : ∃ R, R = Pl.tokMay k n s := ⟨_, rfl⟩
  rw [← hR]
  unfold Pl.tokMay at hR
  obtain ⟨S, hS⟩ : ∃ S, S = Pl.tx s := ⟨_, rfl⟩
  rw [← hS] at hs ⊢
  clear hS
  rcases hk with rfl | rfl
  · rw [if_pos rfl] at hR
    rcases hs with ⟨rfl, rfl⟩ | ⟨hne, hl3, hl1, hl2⟩
    · have HR := Lib.hid hR
      clear hR
      go_enter Try.func51, Try.ntmps51
      go_wp2_with fail
      all_goals
        go_ret
        refine ⟨ret_bool ?_, Fr.alloc _ _ _⟩
        rw [HR.out]
        first | (simp; done) | (simp; omega)
    · rw [decide_eq_false (fun q => hne q.1)] at hR
      subst hR
      clear hne
      go_enter Try.func51, Try.ntmps51
      go_wp2_with fail
      all_goals
        go_ret
        exact ⟨rfl, Fr.alloc _ _ _⟩
  · rw [if_neg (by decide), if_pos rfl] at hR
    rcases hs with ⟨rfl, rfl⟩ | ⟨hne, hl3, hl1, hl2⟩
    · have HR := Lib.hid hR
      clear hR
      go_enter Try.func51, Try.ntmps51
      go_wp2_with fail
      all_goals
        go_ret
        refine ⟨ret_bool ?_, Fr.alloc _ _ _⟩
        rw [HR.out]
        first | (simp; done) | (simp; omega)
    · rw [decide_eq_false (fun q => hne q.1)] at hR
      subst hR
      clear hne
      go_enter Try.func51, Try.ntmps51
      go_wp2_with fail
      all_goals
        go_ret
        exact ⟨rfl, Fr.alloc _ _ _⟩
theorem Fr.drewN {P : Nat → Prop} {W w' : World} (h : Fr P W w') (n : Nat) : Fr P W (w'.drewN n) := h
theorem quiet_eq {f : FuncId} {args : Array Value} {w : World} {n : Nat} {v : Value}
    (h : Calls Try.prog f args (w.drewN n) fun e w' => e = .returned v ∧ w.drewN n = w') : Calls Try.prog f args (w.drewN n) fun e w'' => e = .returned v ∧ ∃ m, w'' = w.drewN m :=
  h.mono fun _ _ ⟨he, hm⟩ => ⟨he, n, hm.symm⟩
theorem may_n (k n : Int) (s : List UInt8) (a : Int) (h1 : k ≠ 1) (h2 : k ≠ 2) (hn : n ≠ 0) (W : World) :
    Calls Try.prog 51 #[Pl.tokv k n s a] W fun e w' => e = .returned (.bool (Pl.tokMay k n s)) ∧ Fr (fun _ => False) W w' := by
  have e : Pl.tokMay k n s = false := by unfold Pl.tokMay; rw [if_neg h1, if_neg h2, if_pos hn]
  rw [e]
  unfold Pl.tokv
  have b1 : (k == 1) = false := beq_eq_false_iff_ne.2 h1
  have b2 : (k == 2) = false := beq_eq_false_iff_ne.2 h2
  have b3 : (n == 0) = false := beq_eq_false_iff_ne.2 hn
  clear e
  go_enter Try.func51, Try.ntmps51
  go_wp2_with fail
  go_ret
  exact ⟨rfl, Fr.alloc _ _ _⟩
theorem may_string (s : List UInt8) (a : Int) (W : World) (hz : (Pl.tx s).size ≤ 9223372036854775807) :
    Calls Try.prog 51 #[Pl.tokv 6 0 s a] W fun e w' => e = .returned (.bool (Pl.tokMay 6 0 s)) ∧ Fr (fun _ => False) W w' := by
  have hR : Pl.tokMay 6 0 s = decide (s.length ≤ 4000) := by unfold Pl.tokMay; simp
  rw [hR]
  unfold Pl.tokv
  have hsz := Pl.tx_size s
  obtain ⟨S, hS⟩ : ∃ S, S = Pl.tx s := ⟨_, rfl⟩
  rw [← hS] at hz hsz ⊢
  have hzI : (S.size : Int) ≤ 9223372036854775807 := by omega
  have hd : decide (s.length ≤ 4000) = decide ((S.size : Int) ≤ 4000) := by rw [hsz]; exact decide_eq_decide.2 (by omega)
  rw [hd]
  clear hS hd hR hsz
  go_enter Try.func51, Try.ntmps51
  go_wp2_with fail
  all_goals
    go_ret
    exact ⟨rfl, Fr.alloc _ _ _⟩
set_option maxHeartbeats 1000000 in
set_option maxRecDepth 100000 in
theorem may_lit (k : Int) (hk : k = 4 ∨ k = 5) (s : List UInt8) (a : Int) (W : World) (hz : (Pl.tx s).size ≤ 9223372036854775807) :
    Calls Try.prog 51 #[Pl.tokv k 0 s a] W fun e w' => e = .returned (.bool (Pl.tokMay k 0 s)) ∧ Fr (fun _ => False) W w' := by
  have hR : Pl.tokMay k 0 s = decide (s.length ≤ 100 ∧ Pl.regs s = s.length) := by
    unfold Pl.tokMay
    rw [if_neg (by omega), if_neg (by omega), if_neg (by omega), if_neg (by omega), if_pos hk]
  rw [hR]
  unfold Pl.tokv
  have hsz := Pl.tx_size s
  have CR : s.length ≤ 100 → ∀ Z, Calls Try.prog 69 #[.string (Pl.tx s), .int .i64 0] Z fun e w' => e = .returned (.int .i64 (Pl.regs s : Int)) ∧ Z = w' := fun h Z => regular_any s (by omega) Z
  obtain ⟨S, hS⟩ : ∃ S, S = Pl.tx s := ⟨_, rfl⟩
  rw [← hS] at hz hsz CR ⊢
  have hzI : (S.size : Int) ≤ 9223372036854775807 := by omega
  have hrl := Pl.regs_le s
  by_cases hl : s.length ≤ 100
  · have CR := Lib.hid (CR hl)
    obtain ⟨r, hr⟩ : ∃ r, r = Pl.regs s := ⟨_, rfl⟩
    rw [← hr] at CR hrl ⊢
    obtain ⟨m, hm⟩ : ∃ m, m = s.length := ⟨_, rfl⟩
    rw [← hm] at hl hrl hsz ⊢
    have hd : decide (m ≤ 100 ∧ r = m) = decide ((r : Int) = (m : Int)) := decide_eq_decide.2 (by omega)
    rw [hd]
    have hmI : (m : Int) ≤ 100 := by omega
    clear hS hd hR hr hm
    rcases hk with rfl | rfl
    all_goals
      by_cases hq : r = m
      · subst hq
        go_enter Try.func51, Try.ntmps51
        go_wp2_with fail
        go_quiet (exact quiet_eq (CR.out _))
        go_wp2_with fail
        go_ret
        exact ⟨ret_bool (by simp), (Fr.alloc _ _ _).drewN _⟩
      · have hb : ((r : Int) == (m : Int)) = false := beq_eq_false_iff_ne.2 (by omega)
        rw [decide_eq_false (show ¬ ((r : Int) = (m : Int)) by omega)]
        go_enter Try.func51, Try.ntmps51
        go_wp2_with fail
        go_quiet (exact quiet_eq (CR.out _))
        go_wp2_with fail
        go_ret
        exact ⟨rfl, (Fr.alloc _ _ _).drewN _⟩
  · have hd : decide (s.length ≤ 100 ∧ Pl.regs s = s.length) = false := decide_eq_false (fun q => hl q.1)
    rw [hd]
    have hlI : decide ((S.size : Int) ≤ 100) = false := decide_eq_false (by omega)
    have hlJ : decide (S.size ≤ 100) = false := decide_eq_false (by omega)
    clear hS hd hR CR hsz hl hrl
    have hk1 : (k == 1) = false := beq_eq_false_iff_ne.2 (by omega)
    have hk2 : (k == 2) = false := beq_eq_false_iff_ne.2 (by omega)
    have hk3 : (k == 3) = false := beq_eq_false_iff_ne.2 (by omega)
    have h2 : W.heap.size < (W.alloc (.cells #[.int .i64 k, .int .i64 0, .string S, .int .i64 a] 48)).heap.size := by simp
    rcases hk with rfl | rfl
    all_goals
      go_enter Try.func51, Try.ntmps51
      go_wp2_with fail
      go_region
      all_goals
        go_wp2_with fail
        go_ret
        exact ⟨rfl, Fr.of_grown _ (by (repeat (first | exact Grown.refl _ | assumption | apply Grown.drew | apply Grown.alloc)))⟩
end Go.Proofs.Ytpfkijjpophobaa
