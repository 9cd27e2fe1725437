/- The reference's Kind, Regular: the walks. -/
import Derived.Test.YtpfkijjpophobaaG16
namespace Go.Proofs.Ytpfkijjpophobaa
set_option linter.unusedVariables false
open Go.RowKit

set_option maxRecDepth 100000 in
theorem rkind_any (c : Int) (hc : 0 ≤ c ∧ c ≤ 255) (W : World) :
    Calls Try.prog 78 #[.int .u8 c] W fun e w' => e = .returned (.int .i64 (Pl.ck c)) ∧ W = w' := by
  obtain ⟨h0, h1⟩ := hc
  by_cases h : c = 0 ∨ c = 9 ∨ c = 10 ∨ c = 12 ∨ c = 13 ∨ c = 32 ∨ c = 40 ∨ c = 41 ∨ c = 60 ∨ c = 62 ∨ c = 91 ∨ c = 93 ∨ c = 123 ∨ c = 125 ∨ c = 47 ∨ c = 37
  · rcases h with rfl | rfl | rfl | rfl | rfl | rfl | rfl | rfl | rfl | rfl | rfl | rfl | rfl | rfl | rfl | rfl
    all_goals
      go_enter Try.func78, Try.ntmps78
      go_wp2_with fail
      go_ret
      exact ⟨rfl, rfl⟩
  · rw [Pl.ck_other c h]
    have b0 : (c == 0) = false := beq_eq_false_iff_ne.2 (by omega)
    have b9 : (c == 9) = false := beq_eq_false_iff_ne.2 (by omega)
    have b10 : (c == 10) = false := beq_eq_false_iff_ne.2 (by omega)
    have b12 : (c == 12) = false := beq_eq_false_iff_ne.2 (by omega)
    have b13 : (c == 13) = false := beq_eq_false_iff_ne.2 (by omega)
    have b32 : (c == 32) = false := beq_eq_false_iff_ne.2 (by omega)
    have b40 : (c == 40) = false := beq_eq_false_iff_ne.2 (by omega)
    have b41 : (c == 41) = false := beq_eq_false_iff_ne.2 (by omega)
    have b60 : (c == 60) = false := beq_eq_false_iff_ne.2 (by omega)
    have b62 : (c == 62) = false := beq_eq_false_iff_ne.2 (by omega)
    have b91 : (c == 91) = false := beq_eq_false_iff_ne.2 (by omega)
    have b93 : (c == 93) = false := beq_eq_false_iff_ne.2 (by omega)
    have b123 : (c == 123) = false := beq_eq_false_iff_ne.2 (by omega)
    have b125 : (c == 125) = false := beq_eq_false_iff_ne.2 (by omega)
    have b47 : (c == 47) = false := beq_eq_false_iff_ne.2 (by omega)
    have b37 : (c == 37) = false := beq_eq_false_iff_ne.2 (by omega)
    clear h
    go_enter Try.func78, Try.ntmps78
    go_wp2_with fail
    go_ret
    exact ⟨rfl, rfl⟩
set_option maxRecDepth 100000 in
theorem rregular_any (l : List UInt8) (hl : l.length < 4611686018427387904) (W : World) :
    Calls Try.prog 73 #[.string (Pl.tx l), .int .i64 0] W fun e w' => e = .returned (.int .i64 (Pl.regs l : Int)) ∧ W = w' := by
  have hIx : ∀ (i : Nat) (b : UInt8), l[i]? = some b → ∀ W, (Instr.index 9 (.string (Pl.tx l)) (.int .i64 (i : Int))).run Try.prog W = .ok (.int .u8 (b.toNat : Int)) W := fun i b h W => byte_at6 _ i b h W
  have hsz : (Pl.tx l).size = l.length := Pl.tx_size l
  obtain ⟨s, hs⟩ : ∃ s, s = Pl.tx l := ⟨_, rfl⟩
  rw [← hs] at hIx hsz ⊢
  have HIX := Lib.hid hIx
  obtain ⟨R, hR⟩ : ∃ R, R = Pl.regs l := ⟨_, rfl⟩
  rw [← hR]
  have HR : Hid (R = 0 + Pl.regs (l.drop 0)) := Lib.hid (by rw [hR]; simp)
  have hR1 : R ≤ l.length := by rw [hR]; exact Pl.regs_le l
  clear hIx hs hR
  by_cases hz : l.length = 0
  · have hsz0 : ¬ ((0 : Int) < (s.size : Int)) := by omega
    have hR0 : R = 0 := by omega
    subst hR0
    have hsz1 : (s.size : Int) = 0 := by omega
    clear HR HIX hR1 hsz hz
    go_enter Try.func73, Try.ntmps73
    go_wp2_with fail
    go_ret
    exact ⟨rfl, rfl⟩
  have hsz0 : ¬ ((s.size : Int) ≤ 0) := by omega
  go_enter Try.func73, Try.ntmps73
  go_wp2_with fail
  go_loopw [5] (fun s5 wr => ∃ i : Nat, s5 = .int .i64 (i : Int) ∧ i ≤ l.length ∧ wr = W ∧ Hid (R = i + Pl.regs (l.drop i))) (fun s5 _ => ((l.length : Int) - intOf s5).toNat)
  case atStart => exact ⟨0, rfl, by omega, rfl, HR⟩
  case round =>
    obtain ⟨i, rfl, hi, rfl, HQ⟩ := hrel
    rcases Nat.lt_or_eq_of_le hi with h | rfl
    · have hlt : (i : Int) < (s.size : Int) := by omega
      have ix := HIX.out i l[i] (List.getElem?_eq_getElem h)
      have hst : l.drop i = l[i] :: l.drop (i + 1) := List.drop_eq_getElem_cons h
      have c255 : l[i].toNat < 256 := l[i].toNat_lt
      have hq := HQ.out
      rw [hst, Pl.regs_cons] at hq
      have CK := Lib.hid (fun Z => rkind_any (l[i].toNat : Int) (by omega) Z)
      by_cases hr : Pl.ck (l[i].toNat : Int) = 3
      · have hir : Pl.isR l[i] = true := decide_eq_true hr
        rw [if_pos hir] at hq
        have HQ2 : Hid (R = (i + 1) + Pl.regs (l.drop (i + 1))) := Lib.hid (by omega)
        rw [hr] at CK
        obtain ⟨d, hd⟩ : ∃ d, d = l[i].toNat := ⟨_, rfl⟩
        rw [← hd] at ix CK c255
        clear hd hst HQ HR hq hr hir
        go_wp2_with fail
        refine (CK.out _).mono ?_
        rintro e w1 ⟨rfl, rfl⟩
        go_wp2_with fail
        exact ⟨⟨i + 1, by simp, by omega, by trivial, HQ2⟩, by simp [intOf]; omega⟩
      · have hir : Pl.isR l[i] = false := decide_eq_false hr
        rw [if_neg (by rw [hir]; exact fun q => by cases q)] at hq
        obtain ⟨x, hx⟩ : ∃ x, x = Pl.ck (l[i].toNat : Int) := ⟨_, rfl⟩
        rw [← hx] at CK
        have hb : (x == 3) = false := beq_eq_false_iff_ne.2 (by rw [hx]; exact hr)
        obtain ⟨d, hd⟩ : ∃ d, d = l[i].toNat := ⟨_, rfl⟩
        rw [← hd] at ix CK c255
        have hRi : R = i := by omega
        subst hRi
        clear hd hst HQ HR hq hr hir hx
        go_wp2_with fail
        refine (CK.out _).mono ?_
        rintro e w1 ⟨rfl, rfl⟩
        go_wp2_with fail
        go_ret
        exact ⟨rfl, rfl⟩
    · have hlt : ¬ ((l.length : Int) < (s.size : Int)) := by omega
      have hq := HQ.out
      rw [List.drop_length] at hq
      have hRi : R = l.length := hq
      subst hRi
      clear HQ HR hq
      go_wp2_with fail
      go_ret
      exact ⟨rfl, rfl⟩
end Go.Proofs.Ytpfkijjpophobaa
