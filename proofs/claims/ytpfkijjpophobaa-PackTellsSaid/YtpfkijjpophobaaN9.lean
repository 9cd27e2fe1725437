/- numtext.based where no base is told. -/
import Derived.Test.YtpfkijjpophobaaN8
namespace Go.Proofs.Ytpfkijjpophobaa
set_option linter.unusedVariables false
open Go.RowKit

set_option maxHeartbeats 4000000 in
set_option maxRecDepth 100000 in
theorem based_no (s : ByteArray) (hs : s.size ≤ 9223372036854775807) (hb : ¬ Pl.basedIf s) (W : World) :
    Calls Try.prog 33 #[.string s] W fun e w' => e = .returned (.tuple #[.int .i64 0, .bool false]) ∧ Fr (fun _ => False) W w' := by
  have hRd : Rd W.heap.size s 0 (W.alloc (.cells #[.string s, .int .i64 0] 57)) := ⟨by simp [go_sem], by simp [go_sem], fun o => by rw [frozen?_alloc_cells]; simp [World.frozen?]⟩
  have CD := Lib.hid (digits_any W.heap.size s 0 (by omega) hs 1000 (by omega) _ hRd)
  have hdl := Pl.dgs_len s 0 (by omega)
  unfold Pl.basedIf at hb
  obtain ⟨n, hn⟩ : ∃ n, n = (Pl.dgs s 0).length := ⟨_, rfl⟩
  obtain ⟨B, hB⟩ : ∃ B, B = Pl.dvl 1000 0 (Pl.dgs s 0) := ⟨_, rfl⟩
  rw [← hn, ← hB] at CD hb
  rw [← hn] at hdl
  have n4 : (s.size : Int) ≤ 9223372036854775807 := by omega
  have n5 : (n : Int) ≤ (s.size : Int) := by omega
  have I0 : 1 ≤ n → ∀ W, (Instr.index 9 (.string s) (.int .i64 0)).run Try.prog W = .ok (.int .u8 (Pl.bt s 0 : Int)) W := fun h W => index_at s 0 (by omega) W
  have cases : decide ((n : Int) < 1) = true
      ∨ (decide ((n : Int) < 1) = false ∧ decide ((2 : Int) < (n : Int)) = true)
      ∨ (decide ((n : Int) < 1) = false ∧ decide ((2 : Int) < (n : Int)) = false ∧ (∀ W, (Instr.index 9 (.string s) (.int .i64 0)).run Try.prog W = .ok (.int .u8 (Pl.bt s 0 : Int)) W) ∧ ((Pl.bt s 0 : Int) == 48) = true)
      ∨ (decide ((n : Int) < 1) = false ∧ decide ((2 : Int) < (n : Int)) = false ∧ (∀ W, (Instr.index 9 (.string s) (.int .i64 0)).run Try.prog W = .ok (.int .u8 (Pl.bt s 0 : Int)) W) ∧ ((Pl.bt s 0 : Int) == 48) = false ∧ decide (B < 2) = true)
      ∨ (decide ((n : Int) < 1) = false ∧ decide ((2 : Int) < (n : Int)) = false ∧ (∀ W, (Instr.index 9 (.string s) (.int .i64 0)).run Try.prog W = .ok (.int .u8 (Pl.bt s 0 : Int)) W) ∧ ((Pl.bt s 0 : Int) == 48) = false ∧ decide (B < 2) = false ∧ decide (36 < B) = true)
      ∨ (decide ((n : Int) < 1) = false ∧ decide ((2 : Int) < (n : Int)) = false ∧ (∀ W, (Instr.index 9 (.string s) (.int .i64 0)).run Try.prog W = .ok (.int .u8 (Pl.bt s 0 : Int)) W) ∧ ((Pl.bt s 0 : Int) == 48) = false ∧ decide (B < 2) = false ∧ decide (36 < B) = false ∧ decide ((s.size : Int) - 1 ≤ (n : Int)) = true)
      ∨ (decide ((n : Int) < 1) = false ∧ decide ((2 : Int) < (n : Int)) = false ∧ (∀ W, (Instr.index 9 (.string s) (.int .i64 0)).run Try.prog W = .ok (.int .u8 (Pl.bt s 0 : Int)) W) ∧ ((Pl.bt s 0 : Int) == 48) = false ∧ decide (B < 2) = false ∧ decide (36 < B) = false ∧ decide ((s.size : Int) - 1 ≤ (n : Int)) = false ∧ (∀ W, (Instr.index 9 (.string s) (.int .i64 (n : Int))).run Try.prog W = .ok (.int .u8 (Pl.bt s n : Int)) W) ∧ ((Pl.bt s n : Int) == 35) = false) := by
    by_cases h1 : (n : Int) < 1
    · exact .inl (decide_eq_true h1)
    have h1' := decide_eq_false h1
    by_cases h2 : (2 : Int) < (n : Int)
    · exact .inr (.inl ⟨h1', decide_eq_true h2⟩)
    have h2' := decide_eq_false h2
    have J := I0 (by omega)
    by_cases h3 : (Pl.bt s 0 : Int) = 48
    · exact .inr (.inr (.inl ⟨h1', h2', J, beq_iff_eq.2 h3⟩))
    have h3' : ((Pl.bt s 0 : Int) == 48) = false := beq_eq_false_iff_ne.2 h3
    by_cases h4 : B < 2
    · exact .inr (.inr (.inr (.inl ⟨h1', h2', J, h3', decide_eq_true h4⟩)))
    have h4' := decide_eq_false h4
    by_cases h5 : 36 < B
    · exact .inr (.inr (.inr (.inr (.inl ⟨h1', h2', J, h3', h4', decide_eq_true h5⟩))))
    have h5' := decide_eq_false h5
    by_cases h6 : (s.size : Int) - 1 ≤ (n : Int)
    · exact .inr (.inr (.inr (.inr (.inr (.inl ⟨h1', h2', J, h3', h4', h5', decide_eq_true h6⟩)))))
    have h6' := decide_eq_false h6
    refine .inr (.inr (.inr (.inr (.inr (.inr ⟨h1', h2', J, h3', h4', h5', h6', fun W => index_at s n (by omega) W, beq_eq_false_iff_ne.2 (fun h7 => ?_)⟩)))))
    exact hb ⟨by omega, by omega, by omega, by omega, by omega, by omega, by omega⟩
  clear hn hB hRd hb I0 hdl hs
  rcases cases with t1 | ⟨t1, t2⟩ | ⟨t1, t2, I0, t3⟩ | ⟨t1, t2, I0, t3, t4⟩ | ⟨t1, t2, I0, t3, t4, t5⟩ | ⟨t1, t2, I0, t3, t4, t5, t6⟩ | ⟨t1, t2, I0, t3, t4, t5, t6, In, t7⟩
  all_goals
    go_enter Try.func33, Try.ntmps33
    go_wp2_with fail
    refine CD.out.mono ?_
    rintro e w1 ⟨rfl, r1, f1⟩
    rw [Nat.zero_add] at r1
    obtain ⟨r0, r1, r2⟩ := r1
    have F1 := Lib.hid f1
    clear CD f1
    go_wp2_with fail
    go_ret2
    exact ⟨rfl, (Fr.alloc (fun _ => False) W _).trans' F1.out (fun i q => .inr (by omega))⟩

instance (s : ByteArray) : Decidable (Pl.basedIf s) := inferInstanceAs (Decidable (1 ≤ (Pl.dgs s 0).length ∧ (Pl.dgs s 0).length ≤ 2 ∧ Pl.bt s 0 ≠ 48 ∧ 2 ≤ Pl.dvl 1000 0 (Pl.dgs s 0) ∧ Pl.dvl 1000 0 (Pl.dgs s 0) ≤ 36 ∧ (Pl.dgs s 0).length < s.size - 1 ∧ Pl.bt s (Pl.dgs s 0).length = 35))
/-- what numtext.based answers -/
def Pl.basedV (s : ByteArray) : Option Int := if Pl.basedIf s then Pl.bvl (Pl.dvl 1000 0 (Pl.dgs s 0)) 0 (Pl.bts s ((Pl.dgs s 0).length + 1)) else none
theorem based_some (s : ByteArray) (hs : s.size ≤ 9223372036854775807) (v : Int) (h : Pl.basedV s = some v) (W : World) :
    Calls Try.prog 33 #[.string s] W fun e w' => e = .returned (.tuple #[.int .i64 v, .bool true]) ∧ Fr (fun _ => False) W w' := by
  unfold Pl.basedV at h
  split at h
  · rename_i hb
    exact (based_any s hs hb W).mono fun e w' ⟨h1, _, h3⟩ => ⟨h1 v h, h3⟩
  · cases h
theorem based_none (s : ByteArray) (hs : s.size ≤ 9223372036854775807) (h : Pl.basedV s = none) (W : World) :
    Calls Try.prog 33 #[.string s] W fun e w' => e = .returned (.tuple #[.int .i64 0, .bool false]) ∧ Fr (fun _ => False) W w' := by
  unfold Pl.basedV at h
  split at h
  · rename_i hb
    exact (based_any s hs hb W).mono fun e w' ⟨_, h2, h3⟩ => ⟨h2 h, h3⟩
  · rename_i hb
    exact based_no s hs hb W
end Go.Proofs.Ytpfkijjpophobaa
