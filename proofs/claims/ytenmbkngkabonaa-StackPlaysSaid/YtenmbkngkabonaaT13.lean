/- The walk of (*stack.Stack).ToMark. -/
import Derived.Test.YtenmbkngkabonaaT12
namespace Go.Proofs.Ytenmbkngkabonaa
set_option linter.unusedVariables false
open Go.RowKit

theorem Pl.fd_none : ∀ (R : List Pl.Ob), (∀ (i : Nat) (q : Pl.Ob), i < R.length → R[i]? = some q → q.1 ≠ 6) → R.findIdx? (fun q => q.1 == 6) = none := by
  intro R h
  rw [List.findIdx?_eq_none_iff]
  intro q hq
  obtain ⟨i, hi⟩ := List.getElem?_of_mem hq
  simpa using h i q (List.getElem?_eq_some_iff.1 hi).1 hi
theorem Pl.fd_some (R : List Pl.Ob) (k : Nat) (q : Pl.Ob) (hk : R[k]? = some q) (hq : q.1 = 6) (h : ∀ (i : Nat) (q : Pl.Ob), i < k → R[i]? = some q → q.1 ≠ 6) : R.findIdx? (fun q => q.1 == 6) = some k := by
  obtain ⟨hl, he⟩ := List.getElem?_eq_some_iff.1 hk
  rw [List.findIdx?_eq_some_iff_getElem]
  refine ⟨hl, by rw [he]; simpa using hq, fun j hj => ?_⟩
  simpa using h j _ hj (List.getElem?_eq_getElem (by omega))
def Pl.toMark (L : List Pl.Ob) : Int × Int := match L.reverse.findIdx? (fun q => q.1 == 6) with | some i => ((i : Int), 0) | none => (0, 10)
theorem Pl.rev_at (L : List Pl.Ob) (k : Nat) (hk : k < L.length) : ∃ q, L.reverse[k]? = some q ∧ L[L.length - 1 - k]? = some q := by
  refine ⟨L[L.length - 1 - k]'(by omega), ?_, List.getElem?_eq_getElem _⟩
  rw [List.getElem?_reverse hk]
  exact List.getElem?_eq_getElem _

set_option maxHeartbeats 2000000 in
set_option maxRecDepth 100000 in
theorem tomark_any (base p : Nat) (v : Value) (L : List Pl.Ob) (hlen : L.length ≤ 300) (W : World) (hS : StkV base p v L W) :
    Calls Try.prog 39 #[.pointer (some ⟨p, 0, none⟩)] W fun e w' => e = .returned (.tuple #[.int .i64 (Pl.toMark L).1, .int .i64 (Pl.toMark L).2]) ∧ Grown W w' := by
  have HS := Lib.hid hS
  obtain ⟨ao, cap, rfl⟩ := hS.slice
  have h0 := hS.1
  obtain ⟨M, hM⟩ : ∃ M, M = L.length := ⟨_, rfl⟩
  rw [← hM] at h0
  have HM := Lib.hid hM
  have e1 : (M : Int) ≤ 300 := by omega
  have hlen' := hlen
  have HL := Lib.hid hlen'
  clear hS hM hlen hlen'
  go_enter Try.func39, Try.ntmps39
  go_wp2_with fail
  go_loopw [14] (fun i wr => ∃ k : Nat, i = .int .i64 (k : Int) ∧ k ≤ M ∧ Grown W wr ∧ Hid (∀ (i : Nat) (q : Pl.Ob), i < k → L.reverse[i]? = some q → q.1 ≠ 6)) (fun i _ => ((M : Int) - intOf i).toNat)
  case atStart => exact ⟨0, rfl, by omega, Grown.refl W, Lib.hid (fun i q h => absurd h (by omega))⟩
  case round =>
    obtain ⟨k, rfl, hk, g1, hall⟩ := hrel
    go_wp2_with fail
    · obtain ⟨⟨kk, x, n, a, l, s⟩, hq1, hq2⟩ := Pl.rev_at L k (by have := HM.out; omega)
      have CP := Lib.hid (peek_ok base p _ L k (L.length - 1 - k) kk x n a l s (by have := HM.out; omega) hq2 HL.out wr (HS.out.fr (P := fun _ => False) (Fr.of_grown _ g1) (fun f => f) (fun _ _ f => f)))
      have HQ := Lib.hid hq1
      clear hq1 hq2
      refine CP.out.mono ?_
      rintro e w1 ⟨rfl, g2⟩
      go_wp2_with fail
      · rename_i hkk
        go_ret2
        refine ⟨?_, (grown_trans g1 g2).alloc _ _⟩
        rw [Pl.toMark, Pl.fd_some L.reverse k _ HQ.out (by simpa using hkk) hall.out]
        rfl
      · rename_i hkk
        refine ⟨⟨k + 1, by simp, by omega, (grown_trans g1 g2).alloc _ _, Lib.hid ?_⟩, by simp [intOf] <;> omega⟩
        intro i q hi hq
        rcases Nat.lt_succ_iff_lt_or_eq.1 hi with h | rfl
        · exact hall.out i q h hq
        · rw [HQ.out] at hq
          injection hq with hq
          rw [← hq]
          simpa using hkk
    · go_ret2
      refine ⟨?_, g1⟩
      rw [Pl.toMark, Pl.fd_none L.reverse (fun i q hi hq => hall.out i q (by rw [List.length_reverse] at hi; have := HM.out; omega) hq)]
      rfl
end Go.Proofs.Ytenmbkngkabonaa
