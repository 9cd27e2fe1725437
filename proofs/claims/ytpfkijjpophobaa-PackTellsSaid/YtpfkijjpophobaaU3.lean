/- tympanref8.May of any word: the walk. -/
import Derived.Test.YtpfkijjpophobaaU2
import Derived.Test.YtpfkijjpophobaaQ5
namespace Go.Proofs.Ytpfkijjpophobaa
set_option linter.unusedVariables false
open Go.RowKit

theorem rmay3 (v : Int) (W : World) :
    Calls Try.prog 47 #[.int .i64 v] W fun e w' => e = .returned (.bool (decide (-1073741823 ≤ v ∧ v ≤ 1073741823))) ∧ W = w' := by
  go_enter Try.func47, Try.ntmps47
  go_wp2_with fail
  all_goals
    go_ret
    refine ⟨ret_bool ?_, rfl⟩
    first | (simp; done) | (simp; omega)
set_option maxHeartbeats 2000000 in
set_option maxRecDepth 100000 in
theorem rmay_1 (n : Int) (s : List UInt8) (a : Int) (hz : s.length < 4611686018427387904) (W : World) :
    Calls Try.prog 57 #[Pl.tokv 1 n s a] W fun e w' => e = .returned (.bool (Pl.tokMay 1 n s)) ∧ Fr (fun _ => False) W w' := by
  have hs := Pl.str_cases s
  unfold Pl.tokv
  have hR : Pl.tokMay 1 n s = decide (s = [] ∧ -2147483647 ≤ n ∧ n ≤ 2147483647) := by unfold Pl.tokMay; simp
  rw [hR]
  clear hR
  obtain ⟨S, hS⟩ : ∃ S, S = Pl.tx s := ⟨_, rfl⟩
  rw [← hS] at hs ⊢
  rcases hs with ⟨h1, h2⟩ | ⟨h1, h2, h3, h4⟩
  · subst h2
    clear hS
    by_cases b0 : -2147483647 ≤ n
    · rw [show decide (s = [] ∧ -2147483647 ≤ n ∧ n ≤ 2147483647) = decide (n ≤ 2147483647) from decide_eq_decide.2 ⟨fun q => q.2.2, fun q => ⟨h1, b0, q⟩⟩]
      clear h1
      go_enter Try.func57, Try.ntmps57
      go_wp2_with fail
      go_quiet (fail)
      go_wp2_with fail
      go_ret
      exact ⟨rfl, (Fr.alloc _ _ _).drewN _⟩
    · rw [decide_eq_false (fun q => b0 q.2.1)]
      clear h1
      go_enter Try.func57, Try.ntmps57
      go_wp2_with fail
      go_quiet (fail)
      go_wp2_with fail
      go_ret
      exact ⟨rfl, (Fr.alloc _ _ _).drewN _⟩
  · rw [decide_eq_false (fun q => h1 q.1)]
    clear h1 hS
    go_enter Try.func57, Try.ntmps57
    go_wp2_with fail
    go_quiet (fail)
    go_wp2_with fail
    go_ret
    exact ⟨rfl, (Fr.alloc _ _ _).drewN _⟩
set_option maxHeartbeats 2000000 in
set_option maxRecDepth 100000 in
theorem rmay_2 (n : Int) (s : List UInt8) (a : Int) (hz : s.length < 4611686018427387904) (W : World) :
    Calls Try.prog 57 #[Pl.tokv 2 n s a] W fun e w' => e = .returned (.bool (Pl.tokMay 2 n s)) ∧ Fr (fun _ => False) W w' := by
  have hs := Pl.str_cases s
  unfold Pl.tokv
  have hR : Pl.tokMay 2 n s = decide (s = [] ∧ -1073741823 ≤ n ∧ n ≤ 1073741823) := by unfold Pl.tokMay; simp
  rw [hR]
  clear hR
  obtain ⟨S, hS⟩ : ∃ S, S = Pl.tx s := ⟨_, rfl⟩
  rw [← hS] at hs ⊢
  have CM := Lib.hid (fun Z => rmay3 n Z)
  obtain ⟨x, hx⟩ : ∃ x, x = decide (-1073741823 ≤ n ∧ n ≤ 1073741823) := ⟨_, rfl⟩
  rw [← hx] at CM
  rcases hs with ⟨h1, h2⟩ | ⟨h1, h2, h3, h4⟩
  · subst h2
    rw [show decide (s = [] ∧ -1073741823 ≤ n ∧ n ≤ 1073741823) = x by rw [hx]; exact decide_eq_decide.2 ⟨fun q => q.2, fun q => ⟨h1, q⟩⟩]
    clear hS h1 hx
    go_enter Try.func57, Try.ntmps57
    go_wp2_with fail
    go_quiet (fail)
    go_wp2_with fail
    refine (CM.out _).mono ?_
    rintro e w2 ⟨rfl, rfl⟩
    go_wp2_with fail
    go_ret
    exact ⟨rfl, (Fr.alloc _ _ _).drewN _⟩
  · rw [decide_eq_false (fun q => h1 q.1)]
    clear h1 hS hx
    go_enter Try.func57, Try.ntmps57
    go_wp2_with fail
    go_quiet (fail)
    go_wp2_with fail
    go_ret
    exact ⟨rfl, (Fr.alloc _ _ _).drewN _⟩
set_option maxHeartbeats 2000000 in
set_option maxRecDepth 100000 in
theorem rmay_3n (n : Int) (hn : n ≠ 0) (s : List UInt8) (a : Int) (hz : s.length < 4611686018427387904) (W : World) :
    Calls Try.prog 57 #[Pl.tokv 3 n s a] W fun e w' => e = .returned (.bool (Pl.tokMay 3 n s)) ∧ Fr (fun _ => False) W w' := by
  have hs := Pl.str_cases s
  unfold Pl.tokv
  have hR : Pl.tokMay 3 n s = false := by unfold Pl.tokMay; rw [if_neg (by omega), if_neg (by omega), if_pos hn]
  rw [hR]
  clear hR
  obtain ⟨S, hS⟩ : ∃ S, S = Pl.tx s := ⟨_, rfl⟩
  rw [← hS] at hs ⊢
  have CR := Lib.hid (fun Z => rread_any s hz Z)
  obtain ⟨⟨r1, r2, r3⟩, hr⟩ : ∃ r, r = Pl.read (Pl.tx s) := ⟨_, rfl⟩
  rw [← hr, ← hS] at CR
  have HRR := Lib.hid hr
  clear hr
  have hnb : (n == 0) = false := beq_eq_false_iff_ne.2 hn
  clear hs hS hn
  go_enter Try.func57, Try.ntmps57
  go_wp2_with fail
  go_quiet (fail)
  go_wp2_with fail
  refine (CR.out _).mono ?_
  rintro e w2 ⟨rfl, g2⟩
  obtain ⟨t0, t1, t2, t3, t4⟩ := ((TokB.new W 3 n S a).fr ((Fr.refl (fun _ => False) _).drewN 1) (fun f => f)).fr (Fr.of_grown (fun _ => False) g2) (fun f => f)
  have F2 := Lib.hid (((Fr.alloc (fun _ => False) W _).drewN 1).trans (Fr.of_grown _ g2))
  clear g2 t4
  go_wp2_with fail
  go_region
  go_wp2_with fail
  go_ret
  exact ⟨rfl, F2.out.drewN 1⟩
set_option maxHeartbeats 2000000 in
set_option maxRecDepth 100000 in
theorem rmay_3z (s : List UInt8) (a : Int) (hz : s.length < 4611686018427387904) (W : World) :
    Calls Try.prog 57 #[Pl.tokv 3 0 s a] W fun e w' => e = .returned (.bool (Pl.tokMay 3 0 s)) ∧ Fr (fun _ => False) W w' := by
  have hs := Pl.str_cases s
  unfold Pl.tokv
  have hR : Pl.tokMay 3 0 s = decide ((Pl.read (Pl.tx s)).2.2 = 3 ∧ s ≠ [] ∧ s.length ≤ 100 ∧ Pl.regs s = s.length) := by
    unfold Pl.tokMay
    simp
  have hR0 : ¬ s.length ≤ 100 → Pl.tokMay 3 0 s = false := fun h => by rw [hR]; exact decide_eq_false (fun q => h q.2.2.1)
  obtain ⟨S, hS⟩ : ∃ S, S = Pl.tx s := ⟨_, rfl⟩
  rw [← hS] at hs ⊢
  have CR := Lib.hid (fun Z => rread_any s hz Z)
  obtain ⟨⟨r1, r2, r3⟩, hr⟩ : ∃ r, r = Pl.read (Pl.tx s) := ⟨_, rfl⟩
  rw [← hr, ← hS] at CR
  have HRR := Lib.hid hr
  clear hr
  have hsz := Pl.tx_size s
  rw [← hS] at hsz
  by_cases hl : s.length ≤ 100
  · have CG := Lib.hid (fun Z => rregular_any s (by omega) Z)
    rw [← hS] at CG
    have hrl := Pl.regs_le s
    obtain ⟨r, hr⟩ : ∃ r, r = Pl.regs s := ⟨_, rfl⟩
    rw [← hr] at CG hrl
    obtain ⟨m, hm⟩ : ∃ m, m = s.length := ⟨_, rfl⟩
    rw [← hm] at hl hrl hsz
    have hmI : (m : Int) ≤ 100 := by omega
    by_cases hq : r = m
    · subst hq
      rcases hs with ⟨h1, h2⟩ | ⟨h1, h2, h3, h4⟩
      · rw [show Pl.tokMay 3 0 s = false by rw [hR]; exact decide_eq_false (fun q => q.2.1 h1)]
        subst h2
        clear hS hR hR0 hr hm h1
        go_enter Try.func57, Try.ntmps57
        go_wp2_with fail
        go_quiet (fail)
        go_wp2_with fail
        refine (CR.out _).mono ?_
        rintro e w2 ⟨rfl, g2⟩
        obtain ⟨t0, t1, t2, t3, t4⟩ := ((TokB.new W 3 0 ⟨#[]⟩ a).fr ((Fr.refl (fun _ => False) _).drewN 1) (fun f => f)).fr (Fr.of_grown (fun _ => False) g2) (fun f => f)
        have F2 := Lib.hid (((Fr.alloc (fun _ => False) W _).drewN 1).trans (Fr.of_grown _ g2))
        clear g2 t4
        go_wp2_with fail
        go_quiet (exact quiet_eq (CG.out _))
        go_wp2_with fail
        go_ret
        exact ⟨rfl, F2.out.drewN _⟩
      · rw [show Pl.tokMay 3 0 s = decide (r3 = 3) by
          rw [hR]
          have h9 := HRR.out
          refine decide_eq_decide.2 ⟨fun q => ?_, fun q => ⟨?_, h1, by omega, by rw [← hr, ← hm]⟩⟩
          · rw [← h9] at q; exact q.1
          · rw [← h9]; exact q]
        clear hS hR hR0 hr hm h1 HRR
        by_cases h8 : r3 = 3
        · subst h8
          go_enter Try.func57, Try.ntmps57
          go_wp2_with fail
          go_quiet (fail)
          go_wp2_with fail
          refine (CR.out _).mono ?_
          rintro e w2 ⟨rfl, g2⟩
          obtain ⟨t0, t1, t2, t3, t4⟩ := ((TokB.new W 3 0 S a).fr ((Fr.refl (fun _ => False) _).drewN 1) (fun f => f)).fr (Fr.of_grown (fun _ => False) g2) (fun f => f)
          have F2 := Lib.hid (((Fr.alloc (fun _ => False) W _).drewN 1).trans (Fr.of_grown _ g2))
          clear g2 t4
          go_wp2_with fail
          go_quiet (exact quiet_eq (CG.out _))
          go_wp2_with fail
          go_ret
          exact ⟨rfl, F2.out.drewN _⟩
        · have h8b : (r3 == 3) = false := beq_eq_false_iff_ne.2 h8
          rw [decide_eq_false h8]
          go_enter Try.func57, Try.ntmps57
          go_wp2_with fail
          go_quiet (fail)
          go_wp2_with fail
          refine (CR.out _).mono ?_
          rintro e w2 ⟨rfl, g2⟩
          obtain ⟨t0, t1, t2, t3, t4⟩ := ((TokB.new W 3 0 S a).fr ((Fr.refl (fun _ => False) _).drewN 1) (fun f => f)).fr (Fr.of_grown (fun _ => False) g2) (fun f => f)
          have F2 := Lib.hid (((Fr.alloc (fun _ => False) W _).drewN 1).trans (Fr.of_grown _ g2))
          clear g2 t4
          go_wp2_with fail
          go_quiet (exact quiet_eq (CG.out _))
          go_wp2_with fail
          go_ret
          exact ⟨rfl, F2.out.drewN _⟩
    · have hb : ((r : Int) == (m : Int)) = false := beq_eq_false_iff_ne.2 (by omega)
      rw [show Pl.tokMay 3 0 s = false by rw [hR]; exact decide_eq_false (fun q => hq (by have := q.2.2.2; omega))]
      clear hs hS hR hR0 hr hm hq
      go_enter Try.func57, Try.ntmps57
      go_wp2_with fail
      go_quiet (fail)
      go_wp2_with fail
      refine (CR.out _).mono ?_
      rintro e w2 ⟨rfl, g2⟩
      obtain ⟨t0, t1, t2, t3, t4⟩ := ((TokB.new W 3 0 S a).fr ((Fr.refl (fun _ => False) _).drewN 1) (fun f => f)).fr (Fr.of_grown (fun _ => False) g2) (fun f => f)
      have F2 := Lib.hid (((Fr.alloc (fun _ => False) W _).drewN 1).trans (Fr.of_grown _ g2))
      clear g2 t4
      go_wp2_with fail
      go_quiet (exact quiet_eq (CG.out _))
      go_wp2_with fail
      go_ret
      exact ⟨rfl, F2.out.drewN _⟩
  · have hlI : decide ((S.size : Int) ≤ 100) = false := decide_eq_false (by omega)
    have hlJ : decide (S.size ≤ 100) = false := decide_eq_false (by omega)
    rw [hR0 (fun q => hl q)]
    clear hs hS hsz hl hR0
    go_enter Try.func57, Try.ntmps57
    go_wp2_with fail
    go_quiet (fail)
    go_wp2_with fail
    refine (CR.out _).mono ?_
    rintro e w2 ⟨rfl, g2⟩
    obtain ⟨t0, t1, t2, t3, t4⟩ := ((TokB.new W 3 0 S a).fr ((Fr.refl (fun _ => False) _).drewN 1) (fun f => f)).fr (Fr.of_grown (fun _ => False) g2) (fun f => f)
    have F2 := Lib.hid (((Fr.alloc (fun _ => False) W _).drewN 1).trans (Fr.of_grown _ g2))
    clear g2 t4
    go_wp2_with fail
    go_region
    go_wp2_with fail
    go_ret
    exact ⟨rfl, F2.out.drewN 1⟩
set_option maxHeartbeats 2000000 in
set_option maxRecDepth 100000 in
theorem rmay_4n (n : Int) (hn : n ≠ 0) (s : List UInt8) (a : Int) (hz : s.length < 4611686018427387904) (W : World) :
    Calls Try.prog 57 #[Pl.tokv 4 n s a] W fun e w' => e = .returned (.bool (Pl.tokMay 4 n s)) ∧ Fr (fun _ => False) W w' := by
  have hs := Pl.str_cases s
  unfold Pl.tokv
  have hR : Pl.tokMay 4 n s = false := by unfold Pl.tokMay; rw [if_neg (by omega), if_neg (by omega), if_pos hn]
  rw [hR]
  clear hR
  obtain ⟨S, hS⟩ : ∃ S, S = Pl.tx s := ⟨_, rfl⟩
  rw [← hS] at hs ⊢
  have CR := Lib.hid (fun Z => rread_any s hz Z)
  obtain ⟨⟨r1, r2, r3⟩, hr⟩ : ∃ r, r = Pl.read (Pl.tx s) := ⟨_, rfl⟩
  rw [← hr, ← hS] at CR
  have HRR := Lib.hid hr
  clear hr
  have hnb : (n == 0) = false := beq_eq_false_iff_ne.2 hn
  clear hs hS hn
  go_enter Try.func57, Try.ntmps57
  go_wp2_with fail
  go_quiet (fail)
  go_wp2_with fail
  refine (CR.out _).mono ?_
  rintro e w2 ⟨rfl, g2⟩
  obtain ⟨t0, t1, t2, t3, t4⟩ := ((TokB.new W 4 n S a).fr ((Fr.refl (fun _ => False) _).drewN 1) (fun f => f)).fr (Fr.of_grown (fun _ => False) g2) (fun f => f)
  have F2 := Lib.hid (((Fr.alloc (fun _ => False) W _).drewN 1).trans (Fr.of_grown _ g2))
  clear g2 t4
  go_wp2_with fail
  go_region
  go_wp2_with fail
  go_ret
  exact ⟨rfl, F2.out.drewN 1⟩
set_option maxHeartbeats 2000000 in
set_option maxRecDepth 100000 in
theorem rmay_4z (s : List UInt8) (a : Int) (hz : s.length < 4611686018427387904) (W : World) :
    Calls Try.prog 57 #[Pl.tokv 4 0 s a] W fun e w' => e = .returned (.bool (Pl.tokMay 4 0 s)) ∧ Fr (fun _ => False) W w' := by
  have hs := Pl.str_cases s
  unfold Pl.tokv
  have hR : Pl.tokMay 4 0 s = decide (s.length ≤ 100 ∧ Pl.regs s = s.length) := by
    unfold Pl.tokMay
    simp
  have hR0 : ¬ s.length ≤ 100 → Pl.tokMay 4 0 s = false := fun h => by rw [hR]; exact decide_eq_false (fun q => h q.1)
  obtain ⟨S, hS⟩ : ∃ S, S = Pl.tx s := ⟨_, rfl⟩
  rw [← hS] at hs ⊢
  have CR := Lib.hid (fun Z => rread_any s hz Z)
  obtain ⟨⟨r1, r2, r3⟩, hr⟩ : ∃ r, r = Pl.read (Pl.tx s) := ⟨_, rfl⟩
  rw [← hr, ← hS] at CR
  have HRR := Lib.hid hr
  clear hr
  have hsz := Pl.tx_size s
  rw [← hS] at hsz
  by_cases hl : s.length ≤ 100
  · have CG := Lib.hid (fun Z => rregular_any s (by omega) Z)
    rw [← hS] at CG
    have hrl := Pl.regs_le s
    obtain ⟨r, hr⟩ : ∃ r, r = Pl.regs s := ⟨_, rfl⟩
    rw [← hr] at CG hrl
    obtain ⟨m, hm⟩ : ∃ m, m = s.length := ⟨_, rfl⟩
    rw [← hm] at hl hrl hsz
    have hmI : (m : Int) ≤ 100 := by omega
    by_cases hq : r = m
    · rw [show Pl.tokMay 4 0 s = true by rw [hR]; exact decide_eq_true ⟨by omega, by rw [← hr, ← hm, hq]⟩]
      subst hq
      clear hs hS hR hR0 hr hm
      go_enter Try.func57, Try.ntmps57
      go_wp2_with fail
      go_quiet (fail)
      go_wp2_with fail
      refine (CR.out _).mono ?_
      rintro e w2 ⟨rfl, g2⟩
      obtain ⟨t0, t1, t2, t3, t4⟩ := ((TokB.new W 4 0 S a).fr ((Fr.refl (fun _ => False) _).drewN 1) (fun f => f)).fr (Fr.of_grown (fun _ => False) g2) (fun f => f)
      have F2 := Lib.hid (((Fr.alloc (fun _ => False) W _).drewN 1).trans (Fr.of_grown _ g2))
      clear g2 t4
      go_wp2_with fail
      go_quiet (exact quiet_eq (CG.out _))
      go_wp2_with fail
      go_ret
      exact ⟨rfl, F2.out.drewN _⟩
    · have hb : ((r : Int) == (m : Int)) = false := beq_eq_false_iff_ne.2 (by omega)
      rw [show Pl.tokMay 4 0 s = false by rw [hR]; exact decide_eq_false (fun q => hq (by have := q.2; omega))]
      clear hs hS hR hR0 hr hm hq
      go_enter Try.func57, Try.ntmps57
      go_wp2_with fail
      go_quiet (fail)
      go_wp2_with fail
      refine (CR.out _).mono ?_
      rintro e w2 ⟨rfl, g2⟩
      obtain ⟨t0, t1, t2, t3, t4⟩ := ((TokB.new W 4 0 S a).fr ((Fr.refl (fun _ => False) _).drewN 1) (fun f => f)).fr (Fr.of_grown (fun _ => False) g2) (fun f => f)
      have F2 := Lib.hid (((Fr.alloc (fun _ => False) W _).drewN 1).trans (Fr.of_grown _ g2))
      clear g2 t4
      go_wp2_with fail
      go_quiet (exact quiet_eq (CG.out _))
      go_wp2_with fail
      go_ret
      exact ⟨rfl, F2.out.drewN _⟩
  · have hlI : decide ((S.size : Int) ≤ 100) = false := decide_eq_false (by omega)
    have hlJ : decide (S.size ≤ 100) = false := decide_eq_false (by omega)
    rw [hR0 (fun q => hl q)]
    clear hs hS hsz hl hR0
    go_enter Try.func57, Try.ntmps57
    go_wp2_with fail
    go_quiet (fail)
    go_wp2_with fail
    refine (CR.out _).mono ?_
    rintro e w2 ⟨rfl, g2⟩
    obtain ⟨t0, t1, t2, t3, t4⟩ := ((TokB.new W 4 0 S a).fr ((Fr.refl (fun _ => False) _).drewN 1) (fun f => f)).fr (Fr.of_grown (fun _ => False) g2) (fun f => f)
    have F2 := Lib.hid (((Fr.alloc (fun _ => False) W _).drewN 1).trans (Fr.of_grown _ g2))
    clear g2 t4
    go_wp2_with fail
    go_region
    go_wp2_with fail
    go_ret
    exact ⟨rfl, F2.out.drewN 1⟩
set_option maxHeartbeats 2000000 in
set_option maxRecDepth 100000 in
theorem rmay_5n (n : Int) (hn : n ≠ 0) (s : List UInt8) (a : Int) (hz : s.length < 4611686018427387904) (W : World) :
    Calls Try.prog 57 #[Pl.tokv 5 n s a] W fun e w' => e = .returned (.bool (Pl.tokMay 5 n s)) ∧ Fr (fun _ => False) W w' := by
  have hs := Pl.str_cases s
  unfold Pl.tokv
  have hR : Pl.tokMay 5 n s = false := by unfold Pl.tokMay; rw [if_neg (by omega), if_neg (by omega), if_pos hn]
  rw [hR]
  clear hR
  obtain ⟨S, hS⟩ : ∃ S, S = Pl.tx s := ⟨_, rfl⟩
  rw [← hS] at hs ⊢
  have CR := Lib.hid (fun Z => rread_any s hz Z)
  obtain ⟨⟨r1, r2, r3⟩, hr⟩ : ∃ r, r = Pl.read (Pl.tx s) := ⟨_, rfl⟩
  rw [← hr, ← hS] at CR
  have HRR := Lib.hid hr
  clear hr
  have hnb : (n == 0) = false := beq_eq_false_iff_ne.2 hn
  clear hs hS hn
  go_enter Try.func57, Try.ntmps57
  go_wp2_with fail
  go_quiet (fail)
  go_wp2_with fail
  refine (CR.out _).mono ?_
  rintro e w2 ⟨rfl, g2⟩
  obtain ⟨t0, t1, t2, t3, t4⟩ := ((TokB.new W 5 n S a).fr ((Fr.refl (fun _ => False) _).drewN 1) (fun f => f)).fr (Fr.of_grown (fun _ => False) g2) (fun f => f)
  have F2 := Lib.hid (((Fr.alloc (fun _ => False) W _).drewN 1).trans (Fr.of_grown _ g2))
  clear g2 t4
  go_wp2_with fail
  go_region
  go_wp2_with fail
  go_ret
  exact ⟨rfl, F2.out.drewN 1⟩
set_option maxHeartbeats 2000000 in
set_option maxRecDepth 100000 in
theorem rmay_5z (s : List UInt8) (a : Int) (hz : s.length < 4611686018427387904) (W : World) :
    Calls Try.prog 57 #[Pl.tokv 5 0 s a] W fun e w' => e = .returned (.bool (Pl.tokMay 5 0 s)) ∧ Fr (fun _ => False) W w' := by
  have hs := Pl.str_cases s
  unfold Pl.tokv
  have hR : Pl.tokMay 5 0 s = decide (s.length ≤ 100 ∧ Pl.regs s = s.length) := by
    unfold Pl.tokMay
    simp
  have hR0 : ¬ s.length ≤ 100 → Pl.tokMay 5 0 s = false := fun h => by rw [hR]; exact decide_eq_false (fun q => h q.1)
  obtain ⟨S, hS⟩ : ∃ S, S = Pl.tx s := ⟨_, rfl⟩
  rw [← hS] at hs ⊢
  have CR := Lib.hid (fun Z => rread_any s hz Z)
  obtain ⟨⟨r1, r2, r3⟩, hr⟩ : ∃ r, r = Pl.read (Pl.tx s) := ⟨_, rfl⟩
  rw [← hr, ← hS] at CR
  have HRR := Lib.hid hr
  clear hr
  have hsz := Pl.tx_size s
  rw [← hS] at hsz
  by_cases hl : s.length ≤ 100
  · have CG := Lib.hid (fun Z => rregular_any s (by omega) Z)
    rw [← hS] at CG
    have hrl := Pl.regs_le s
    obtain ⟨r, hr⟩ : ∃ r, r = Pl.regs s := ⟨_, rfl⟩
    rw [← hr] at CG hrl
    obtain ⟨m, hm⟩ : ∃ m, m = s.length := ⟨_, rfl⟩
    rw [← hm] at hl hrl hsz
    have hmI : (m : Int) ≤ 100 := by omega
    by_cases hq : r = m
    · rw [show Pl.tokMay 5 0 s = true by rw [hR]; exact decide_eq_true ⟨by omega, by rw [← hr, ← hm, hq]⟩]
      subst hq
      clear hs hS hR hR0 hr hm
      go_enter Try.func57, Try.ntmps57
      go_wp2_with fail
      go_quiet (fail)
      go_wp2_with fail
      refine (CR.out _).mono ?_
      rintro e w2 ⟨rfl, g2⟩
      obtain ⟨t0, t1, t2, t3, t4⟩ := ((TokB.new W 5 0 S a).fr ((Fr.refl (fun _ => False) _).drewN 1) (fun f => f)).fr (Fr.of_grown (fun _ => False) g2) (fun f => f)
      have F2 := Lib.hid (((Fr.alloc (fun _ => False) W _).drewN 1).trans (Fr.of_grown _ g2))
      clear g2 t4
      go_wp2_with fail
      go_quiet (exact quiet_eq (CG.out _))
      go_wp2_with fail
      go_ret
      exact ⟨rfl, F2.out.drewN _⟩
    · have hb : ((r : Int) == (m : Int)) = false := beq_eq_false_iff_ne.2 (by omega)
      rw [show Pl.tokMay 5 0 s = false by rw [hR]; exact decide_eq_false (fun q => hq (by have := q.2; omega))]
      clear hs hS hR hR0 hr hm hq
      go_enter Try.func57, Try.ntmps57
      go_wp2_with fail
      go_quiet (fail)
      go_wp2_with fail
      refine (CR.out _).mono ?_
      rintro e w2 ⟨rfl, g2⟩
      obtain ⟨t0, t1, t2, t3, t4⟩ := ((TokB.new W 5 0 S a).fr ((Fr.refl (fun _ => False) _).drewN 1) (fun f => f)).fr (Fr.of_grown (fun _ => False) g2) (fun f => f)
      have F2 := Lib.hid (((Fr.alloc (fun _ => False) W _).drewN 1).trans (Fr.of_grown _ g2))
      clear g2 t4
      go_wp2_with fail
      go_quiet (exact quiet_eq (CG.out _))
      go_wp2_with fail
      go_ret
      exact ⟨rfl, F2.out.drewN _⟩
  · have hlI : decide ((S.size : Int) ≤ 100) = false := decide_eq_false (by omega)
    have hlJ : decide (S.size ≤ 100) = false := decide_eq_false (by omega)
    rw [hR0 (fun q => hl q)]
    clear hs hS hsz hl hR0
    go_enter Try.func57, Try.ntmps57
    go_wp2_with fail
    go_quiet (fail)
    go_wp2_with fail
    refine (CR.out _).mono ?_
    rintro e w2 ⟨rfl, g2⟩
    obtain ⟨t0, t1, t2, t3, t4⟩ := ((TokB.new W 5 0 S a).fr ((Fr.refl (fun _ => False) _).drewN 1) (fun f => f)).fr (Fr.of_grown (fun _ => False) g2) (fun f => f)
    have F2 := Lib.hid (((Fr.alloc (fun _ => False) W _).drewN 1).trans (Fr.of_grown _ g2))
    clear g2 t4
    go_wp2_with fail
    go_region
    go_wp2_with fail
    go_ret
    exact ⟨rfl, F2.out.drewN 1⟩
set_option maxHeartbeats 2000000 in
set_option maxRecDepth 100000 in
theorem rmay_6z (s : List UInt8) (a : Int) (hz : s.length < 4611686018427387904) (W : World) :
    Calls Try.prog 57 #[Pl.tokv 6 0 s a] W fun e w' => e = .returned (.bool (Pl.tokMay 6 0 s)) ∧ Fr (fun _ => False) W w' := by
  have hs := Pl.str_cases s
  unfold Pl.tokv
  have hR : Pl.tokMay 6 0 s = decide (s.length ≤ 4000) := by unfold Pl.tokMay; simp
  rw [hR]
  clear hR
  obtain ⟨S, hS⟩ : ∃ S, S = Pl.tx s := ⟨_, rfl⟩
  rw [← hS] at hs ⊢
  have hsz := Pl.tx_size s
  rw [← hS] at hsz
  have hd : decide (s.length ≤ 4000) = decide ((S.size : Int) ≤ 4000) := by rw [hsz]; exact decide_eq_decide.2 (by omega)
  rw [hd]
  clear hs hS hd hsz
  go_enter Try.func57, Try.ntmps57
  go_wp2_with fail
  go_quiet (fail)
  go_wp2_with fail
  all_goals
    go_ret
    exact ⟨rfl, (Fr.alloc _ _ _).drewN _⟩
set_option maxHeartbeats 2000000 in
set_option maxRecDepth 100000 in
theorem rmay_6n (n : Int) (hn : n ≠ 0) (s : List UInt8) (a : Int) (hz : s.length < 4611686018427387904) (W : World) :
    Calls Try.prog 57 #[Pl.tokv 6 n s a] W fun e w' => e = .returned (.bool (Pl.tokMay 6 n s)) ∧ Fr (fun _ => False) W w' := by
  have hs := Pl.str_cases s
  unfold Pl.tokv
  have hR : Pl.tokMay 6 n s = false := by unfold Pl.tokMay; rw [if_neg (by omega), if_neg (by omega), if_pos hn]
  rw [hR]
  clear hR
  obtain ⟨S, hS⟩ : ∃ S, S = Pl.tx s := ⟨_, rfl⟩
  rw [← hS] at hs ⊢
  have hnb : (n == 0) = false := beq_eq_false_iff_ne.2 hn
  clear hs hS hn
  go_enter Try.func57, Try.ntmps57
  go_wp2_with fail
  go_quiet (fail)
  go_wp2_with fail
  go_ret
  exact ⟨rfl, (Fr.alloc _ _ _).drewN _⟩
set_option maxHeartbeats 2000000 in
set_option maxRecDepth 100000 in
theorem rmay_k (k n : Int) (hk : ¬ (1 ≤ k ∧ k ≤ 6)) (s : List UInt8) (a : Int) (hz : s.length < 4611686018427387904) (W : World) :
    Calls Try.prog 57 #[Pl.tokv k n s a] W fun e w' => e = .returned (.bool (Pl.tokMay k n s)) ∧ Fr (fun _ => False) W w' := by
  have hs := Pl.str_cases s
  unfold Pl.tokv
  have hR : Pl.tokMay k n s = if n ≠ 0 then false else decide (7 ≤ k ∧ k ≤ 12 ∧ s = []) := by
    unfold Pl.tokMay
    rw [if_neg (by omega), if_neg (by omega)]
    split
    · rfl
    · rw [if_neg (by omega), if_neg (by omega), if_neg (by omega)]
  obtain ⟨S, hS⟩ : ∃ S, S = Pl.tx s := ⟨_, rfl⟩
  rw [← hS] at hs ⊢
  have b1 : (k == 1) = false := beq_eq_false_iff_ne.2 (by omega)
  have b2 : (k == 2) = false := beq_eq_false_iff_ne.2 (by omega)
  have b3 : (k == 3) = false := beq_eq_false_iff_ne.2 (by omega)
  have b4 : (k == 4) = false := beq_eq_false_iff_ne.2 (by omega)
  have b5 : (k == 5) = false := beq_eq_false_iff_ne.2 (by omega)
  have b6 : (k == 6) = false := beq_eq_false_iff_ne.2 (by omega)
  rw [hR]
  clear hR
  by_cases hn : n = 0
  · subst hn
    rw [if_neg (show ¬ (0 : Int) ≠ 0 by omega)]
    rcases hs with ⟨h1, h2⟩ | ⟨h1, h2, h3, h4⟩
    · subst h2
      by_cases h7 : 7 ≤ k
      · rw [show decide (7 ≤ k ∧ k ≤ 12 ∧ s = []) = decide (k ≤ 12) from decide_eq_decide.2 ⟨fun q => q.2.1, fun q => ⟨h7, q, h1⟩⟩]
        clear hS h1 hk
        go_enter Try.func57, Try.ntmps57
        go_wp2_with fail
        go_quiet (fail)
        go_wp2_with fail
        go_ret
        exact ⟨rfl, (Fr.alloc _ _ _).drewN _⟩
      · rw [decide_eq_false (fun q => h7 q.1)]
        clear hS h1 hk
        go_enter Try.func57, Try.ntmps57
        go_wp2_with fail
        go_quiet (fail)
        go_wp2_with fail
        go_ret
        exact ⟨rfl, (Fr.alloc _ _ _).drewN _⟩
    · rw [decide_eq_false (fun q => h1 q.2.2)]
      clear hS h1 hk
      go_enter Try.func57, Try.ntmps57
      go_wp2_with fail
      go_quiet (fail)
      go_wp2_with fail
      go_ret
      exact ⟨rfl, (Fr.alloc _ _ _).drewN _⟩
  · have hnb : (n == 0) = false := beq_eq_false_iff_ne.2 hn
    rw [if_pos hn]
    clear hs hS hn hk
    go_enter Try.func57, Try.ntmps57
    go_wp2_with fail
    go_quiet (fail)
    go_wp2_with fail
    go_ret
    exact ⟨rfl, (Fr.alloc _ _ _).drewN _⟩
theorem rtmay_any (k n : Int) (s : List UInt8) (a : Int) (hz : s.length < 4611686018427387904) (W : World) :
    Calls Try.prog 57 #[Pl.tokv k n s a] W fun e w' => e = .returned (.bool (Pl.tokMay k n s)) ∧ Fr (fun _ => False) W w' := by
  by_cases hk : 1 ≤ k ∧ k ≤ 6
  · have cs : k = 1 ∨ k = 2 ∨ k = 3 ∨ k = 4 ∨ k = 5 ∨ k = 6 := by omega
    rcases cs with rfl | rfl | rfl | rfl | rfl | rfl
    · exact rmay_1 n s a hz W
    · exact rmay_2 n s a hz W
    · by_cases hn : n = 0
      · subst hn; exact rmay_3z s a hz W
      · exact rmay_3n n hn s a hz W
    · by_cases hn : n = 0
      · subst hn; exact rmay_4z s a hz W
      · exact rmay_4n n hn s a hz W
    · by_cases hn : n = 0
      · subst hn; exact rmay_5z s a hz W
      · exact rmay_5n n hn s a hz W
    · by_cases hn : n = 0
      · subst hn; exact rmay_6z s a hz W
      · exact rmay_6n n hn s a hz W
  · exact rmay_k k n hk s a hz W
end Go.Proofs.Ytpfkijjpophobaa
