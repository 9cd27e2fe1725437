/- token.May of names and signs: the walks; of any word. -/
import Derived.Test.YtpfkijjpophobaaG5
namespace Go.Proofs.Ytpfkijjpophobaa
set_option linter.unusedVariables false
open Go.RowKit

set_option maxHeartbeats 2000000 in
set_option maxRecDepth 100000 in
theorem may_name (s : List UInt8) (a : Int) (W : World) (hz : (Pl.tx s).size ≤ 9223372036854775807) :
    Calls Try.prog 51 #[Pl.tokv 3 0 s a] W fun e w' => e = .returned (.bool (Pl.tokMay 3 0 s)) ∧ Fr (fun _ => False) W w' := by
  have hR : Pl.tokMay 3 0 s = decide ((Pl.read (Pl.tx s)).2.2 = 3 ∧ s ≠ [] ∧ s.length ≤ 100 ∧ Pl.regs s = s.length) := by
    unfold Pl.tokMay
    rw [if_neg (by omega), if_neg (by omega), if_neg (by omega), if_pos rfl]
  rw [hR]
  unfold Pl.tokv
  have hsz := Pl.tx_size s
  have CR : s.length ≤ 100 → ∀ Z, Calls Try.prog 69 #[.string (Pl.tx s), .int .i64 0] Z fun e w' => e = .returned (.int .i64 (Pl.regs s : Int)) ∧ Z = w' := fun h Z => regular_any s (by omega) Z
  have CD := fun Z => read_any (Pl.tx s) hz Z
  obtain ⟨RR, hRR⟩ : ∃ RR, RR = Pl.read (Pl.tx s) := ⟨_, rfl⟩
  rw [← hRR] at CD ⊢
  obtain ⟨x, y, z⟩ := RR
  have CD : ∀ Z, Calls Try.prog 13 #[.string (Pl.tx s)] Z fun e w' => e = .returned (.tuple #[.int .i64 x, .int .i64 y, .int .i64 z]) ∧ Fr (fun _ => False) Z w' := CD
  show Calls _ _ _ W fun e w' => e = .returned (.bool (decide (z = 3 ∧ s ≠ [] ∧ s.length ≤ 100 ∧ Pl.regs s = s.length))) ∧ _
  have hs := Pl.str_cases s
  have hrl := Pl.regs_le s
  obtain ⟨S, hS⟩ : ∃ S, S = Pl.tx s := ⟨_, rfl⟩
  rw [← hS] at hz hsz CR CD hs ⊢
  have hzI : (S.size : Int) ≤ 9223372036854775807 := by omega
  have CD := Lib.hid CD
  clear hS hRR hR
  have hcell : ∀ w', Fr (fun _ => False) (W.alloc (.cells #[.int .i64 3, .int .i64 0, .string S, .int .i64 a] 48)) w' → w'.cell? ⟨W.heap.size, 2, none⟩ = some (.string S) := fun w' hf => (hf.cell (a := ⟨W.heap.size, 2, none⟩) (by simp) (fun f => f)).trans (by simp [go_sem])
  have HCELL := Lib.hid hcell
  clear hcell
  by_cases h3 : z = 3
  · subst h3
    rcases hs with ⟨rfl, rfl⟩ | ⟨hne, hl3, hl1, hl2⟩
    · rw [decide_eq_false (fun q => q.2.1 rfl)]
      clear hsz hrl CR hz hzI
      go_enter Try.func51, Try.ntmps51
      go_wp2_with fail
      refine (CD.out _).mono ?_
      rintro e w2 ⟨rfl, f2⟩
      have c2 := HCELL.out w2 f2
      have F2 : Hid (Fr (fun _ => False) W w2) := Lib.hid ((Fr.alloc _ _ _).trans f2)
      clear f2 CD HCELL
      go_wp2_with fail
      go_ret
      exact ⟨rfl, F2.out⟩
    · by_cases hl : s.length ≤ 100
      · have CR := Lib.hid (CR hl)
        obtain ⟨r, hr⟩ : ∃ r, r = Pl.regs s := ⟨_, rfl⟩
        obtain ⟨m, hm⟩ : ∃ m, m = s.length := ⟨_, rfl⟩
        have hd : decide ((3 : Int) = 3 ∧ s ≠ [] ∧ s.length ≤ 100 ∧ Pl.regs s = s.length) = decide ((r : Int) = (m : Int)) := decide_eq_decide.2 ⟨fun q => by have := q.2.2.2; omega, fun q => ⟨rfl, hne, hl, by omega⟩⟩
        rw [hd]
        rw [← hr] at CR hrl
        rw [← hm] at hl hrl hsz
        have hmI : (m : Int) ≤ 100 := by omega
        clear hd hr hm hne
        by_cases hq : r = m
        · subst hq
          go_enter Try.func51, Try.ntmps51
          go_wp2_with fail
          refine (CD.out _).mono ?_
          rintro e w2 ⟨rfl, f2⟩
          have c2 := HCELL.out w2 f2
          have F2 : Hid (Fr (fun _ => False) W w2) := Lib.hid ((Fr.alloc _ _ _).trans f2)
          clear f2 CD HCELL
          go_wp2_with fail
          go_quiet (exact quiet_eq (CR.out _))
          go_wp2_with fail
          go_ret
          exact ⟨ret_bool (by simp), F2.out.drewN _⟩
        · have hb : ((r : Int) == (m : Int)) = false := beq_eq_false_iff_ne.2 (by omega)
          rw [decide_eq_false (show ¬ ((r : Int) = (m : Int)) by omega)]
          go_enter Try.func51, Try.ntmps51
          go_wp2_with fail
          refine (CD.out _).mono ?_
          rintro e w2 ⟨rfl, f2⟩
          have c2 := HCELL.out w2 f2
          have F2 : Hid (Fr (fun _ => False) W w2) := Lib.hid ((Fr.alloc _ _ _).trans f2)
          clear f2 CD HCELL
          go_wp2_with fail
          go_quiet (exact quiet_eq (CR.out _))
          go_wp2_with fail
          go_ret
          exact ⟨rfl, F2.out.drewN _⟩
      · rw [decide_eq_false (fun q => hl q.2.2.1)]
        have hlI : decide ((S.size : Int) ≤ 100) = false := decide_eq_false (by omega)
        have hlJ : decide (S.size ≤ 100) = false := decide_eq_false (by omega)
        clear CR hsz hl hrl hne
        go_enter Try.func51, Try.ntmps51
        go_wp2_with fail
        refine (CD.out _).mono ?_
        rintro e w2 ⟨rfl, f2⟩
        have c2 := HCELL.out w2 f2
        have F2 : Hid (Fr (fun _ => False) W w2) := Lib.hid ((Fr.alloc _ _ _).trans f2)
        clear f2 CD HCELL
        go_wp2_with fail
        go_region
        all_goals
          go_wp2_with fail
          go_ret
          exact ⟨rfl, F2.out⟩
  · rw [decide_eq_false (fun q => h3 q.1)]
    have hb : (z == 3) = false := beq_eq_false_iff_ne.2 h3
    clear hs hsz hrl CR hz
    go_enter Try.func51, Try.ntmps51
    go_wp2_with fail
    refine (CD.out _).mono ?_
    rintro e w2 ⟨rfl, f2⟩
    have F2 : Hid (Fr (fun _ => False) W w2) := Lib.hid ((Fr.alloc _ _ _).trans f2)
    clear f2 CD HCELL
    go_wp2_with fail
    go_ret
    exact ⟨rfl, F2.out⟩
set_option maxRecDepth 100000 in
theorem may_sign (k : Int) (h0 : -9223372036854775808 ≤ k) (h1 : k ≤ 9223372036854775807) (hk : ¬ (1 ≤ k ∧ k ≤ 6)) (s : List UInt8) (a : Int) (W : World) :
    Calls Try.prog 51 #[Pl.tokv k 0 s a] W fun e w' => e = .returned (.bool (Pl.tokMay k 0 s)) ∧ Fr (fun _ => False) W w' := by
  have hR : Pl.tokMay k 0 s = decide (7 ≤ k ∧ k ≤ 12 ∧ s = []) := by
    unfold Pl.tokMay
    rw [if_neg (by omega), if_neg (by omega), if_neg (by omega), if_neg (by omega), if_neg (by omega), if_neg (by omega)]
  rw [hR]
  unfold Pl.tokv
  have k1 : (k == 1) = false := beq_eq_false_iff_ne.2 (by omega)
  have k2 : (k == 2) = false := beq_eq_false_iff_ne.2 (by omega)
  have k3 : (k == 3) = false := beq_eq_false_iff_ne.2 (by omega)
  have k4 : (k == 4) = false := beq_eq_false_iff_ne.2 (by omega)
  have k5 : (k == 5) = false := beq_eq_false_iff_ne.2 (by omega)
  have k6 : (k == 6) = false := beq_eq_false_iff_ne.2 (by omega)
  have hs := Pl.str_cases s
  obtain ⟨S, hS⟩ : ∃ S, S = Pl.tx s := ⟨_, rfl⟩
  rw [← hS] at hs ⊢
  clear hS hR
  by_cases h7 : 7 ≤ k ∧ k ≤ 12
  · have CS := Lib.hid (fun Z => sign_yes k h7 Z)
    rcases hs with ⟨rfl, rfl⟩ | ⟨hne, hl3, hl1, hl2⟩
    · rw [decide_eq_true ⟨h7.1, h7.2, rfl⟩]
      clear h7 hk
      go_enter Try.func51, Try.ntmps51
      go_wp2_with fail
      refine (CS.out _).mono ?_
      rintro e w2 ⟨T, hT, rfl, rfl⟩
      have t1 := Pl.ne_beq hT
      have t2 := Pl.ne_empty hT
      go_wp2_with fail
      go_ret
      exact ⟨rfl, Fr.alloc _ _ _⟩
    · rw [decide_eq_false (fun q => hne q.2.2)]
      clear h7 hk hne
      go_enter Try.func51, Try.ntmps51
      go_wp2_with fail
      refine (CS.out _).mono ?_
      rintro e w2 ⟨T, hT, rfl, rfl⟩
      have t1 := Pl.ne_beq hT
      have t2 := Pl.ne_empty hT
      go_wp2_with fail
      go_ret
      exact ⟨rfl, Fr.alloc _ _ _⟩
  · have CS := Lib.hid (fun Z => sign_no k h0 h1 h7 Z)
    rw [decide_eq_false (fun q => h7 ⟨q.1, q.2.1⟩)]
    clear h7 hk hs
    go_enter Try.func51, Try.ntmps51
    go_wp2_with fail
    refine (CS.out _).mono ?_
    rintro e w2 ⟨rfl, rfl⟩
    go_wp2_with fail
    go_ret
    exact ⟨rfl, Fr.alloc _ _ _⟩
/-- token.May of any word -/
theorem tmay_any (k n : Int) (s : List UInt8) (a : Int) (h0 : -9223372036854775808 ≤ k) (h1 : k ≤ 9223372036854775807) (hz : (Pl.tx s).size ≤ 9223372036854775807) (W : World) :
    Calls Try.prog 51 #[Pl.tokv k n s a] W fun e w' => e = .returned (.bool (Pl.tokMay k n s)) ∧ Fr (fun _ => False) W w' := by
  by_cases k12 : k = 1 ∨ k = 2
  · exact may_num k n s a k12 W
  by_cases hn : n = 0
  · subst hn
    by_cases k3 : k = 3
    · subst k3; exact may_name s a W hz
    by_cases k45 : k = 4 ∨ k = 5
    · exact may_lit k k45 s a W hz
    by_cases k6 : k = 6
    · subst k6; exact may_string s a W hz
    exact may_sign k h0 h1 (by omega) s a W
  · exact may_n k n s a (by omega) (by omega) hn W
end Go.Proofs.Ytpfkijjpophobaa
