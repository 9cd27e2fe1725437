/- tympanhelp.Same of rows of objects. -/
import Derived.Test.YtenmbkngkabonaaT11
namespace Go.Proofs.Ytenmbkngkabonaa
set_option linter.unusedVariables false
open Go.RowKit

/-- a slice of objects that lies anywhere -/
def RowV (W : World) (v : Value) (L : List Pl.Ob) : Prop :=
  ∃ ao cap, v = .slice ao L.length cap ∧ (L = [] ∨ ∃ g o, ao = some ⟨g, o, none⟩ ∧ g < W.heap.size ∧ ∀ j u, (Pl.flat L)[j]? = some u → W.cell? ⟨g, o + j, none⟩ = some u)
theorem RowV.fr {P : Nat → Prop} {W W' : World} {ao : Option Addr} {m cap : Nat} {L : List Pl.Ob} (h : RowV W (.slice ao m cap) L) (k : Fr P W W') (hp : ∀ a, ao = some a → ¬ P a.block) : RowV W' (.slice ao m cap) L := by
  obtain ⟨ao2, cap2, hv, h⟩ := h
  injection hv with q1 q2 q3
  subst q1
  refine ⟨ao, cap2, by rw [q2, q3], ?_⟩
  rcases h with h | ⟨g, o, rfl, hg, h⟩
  · exact .inl h
  · exact .inr ⟨g, o, rfl, Nat.lt_of_lt_of_le hg k.2.2.1, fun j u hu => (k.cell (a := ⟨g, o + j, none⟩) hg (hp ⟨g, o, none⟩ rfl)).trans (h j u hu)⟩
theorem RowV.grown {W W' : World} {v : Value} {L : List Pl.Ob} (h : RowV W v L) (k : Grown W W') : RowV W' v L := by
  obtain ⟨ao, cap, rfl, _⟩ := id h
  exact h.fr (P := fun _ => False) (Fr.of_grown _ k) (fun _ _ f => f)
theorem own_row {base : Nat} {v : Value} {L : List Pl.Ob} {W : World} (c : W.ownsRow base 38 6 v L.length (Pl.flat L)) : RowV W v L := by
  have hl := own_lt c
  rcases c.2 with ⟨rfl, h0⟩ | ⟨g, cap, cur, rfl, hb, hg, hc, r⟩
  · exact ⟨none, 0, by rw [h0], .inl (List.eq_nil_of_length_eq_zero h0)⟩
  · refine ⟨_, cap, rfl, .inr ⟨g, 0, rfl, hl g rfl, fun j u hu => ?_⟩⟩
    have hj := (List.getElem?_eq_some_iff.1 hu).1
    rw [Pl.flat_len] at hj
    rw [Nat.zero_add, c.cellAt _ hj, hu]
/-- the cells of an element -/
theorem RowV.at {W : World} {v : Value} {L : List Pl.Ob} (h : RowV W v L) (j : Nat) (q : Pl.Ob) (hj : L[j]? = some q) : ∃ g o cap, v = .slice (some ⟨g, o, none⟩) L.length cap ∧ g < W.heap.size ∧
    W.cell? ⟨g, o + j * 6, none⟩ = some (.int .i64 q.1) ∧ W.cell? ⟨g, o + j * 6 + 1, none⟩ = some (.bool q.2.1) ∧ W.cell? ⟨g, o + j * 6 + 2, none⟩ = some (.int .i64 q.2.2.1) ∧ W.cell? ⟨g, o + j * 6 + 3, none⟩ = some (.int .i64 q.2.2.2.1) ∧
    W.cell? ⟨g, o + j * 6 + 4, none⟩ = some (.int .i64 q.2.2.2.2.1) ∧ W.cell? ⟨g, o + j * 6 + 5, none⟩ = some (.string q.2.2.2.2.2) := by
  have hl : j < L.length := (List.getElem?_eq_some_iff.1 hj).1
  obtain ⟨ao, cap, rfl, h | ⟨g, o, rfl, hg, h⟩⟩ := h
  · rw [h] at hl; simp at hl
  · refine ⟨g, o, cap, rfl, hg, ?_, ?_, ?_, ?_, ?_, ?_⟩
    · exact h (j * 6) _ ((Pl.flat_get L j q hj 0 (by omega)).trans rfl)
    · rw [Nat.add_assoc]; exact h (j * 6 + 1) _ ((Pl.flat_get L j q hj 1 (by omega)).trans rfl)
    · rw [Nat.add_assoc]; exact h (j * 6 + 2) _ ((Pl.flat_get L j q hj 2 (by omega)).trans rfl)
    · rw [Nat.add_assoc]; exact h (j * 6 + 3) _ ((Pl.flat_get L j q hj 3 (by omega)).trans rfl)
    · rw [Nat.add_assoc]; exact h (j * 6 + 4) _ ((Pl.flat_get L j q hj 4 (by omega)).trans rfl)
    · rw [Nat.add_assoc]; exact h (j * 6 + 5) _ ((Pl.flat_get L j q hj 5 (by omega)).trans rfl)

set_option maxHeartbeats 2000000 in
set_option maxRecDepth 100000 in
theorem same_yes (v1 v2 : Value) (L : List Pl.Ob) (hlen : L.length ≤ 600) (W : World) (h1 : RowV W v1 L) (h2 : RowV W v2 L) :
    Calls Try.prog 30 #[v1, v2] W fun e w' => e = .returned (.bool true) ∧ Grown W w' := by
  obtain ⟨M, hM⟩ : ∃ M, M = L.length := ⟨_, rfl⟩
  obtain ⟨ao1, cap1, hv1, -⟩ := id h1
  obtain ⟨ao2, cap2, hv2, -⟩ := id h2
  rw [← hM] at hv1 hv2
  subst hv1
  subst hv2
  have H1 := Lib.hid h1
  have H2 := Lib.hid h2
  have HM := Lib.hid hM
  rw [← hM] at hlen
  clear h1 h2 hM
  go_enter Try.func30, Try.ntmps30
  go_wp2_with fail
  go_loopw [5] (fun i wr => ∃ k : Nat, i = .int .i64 (k : Int) ∧ k ≤ M ∧ Grown W wr) (fun i _ => ((M : Int) - intOf i).toNat)
  case atStart => exact ⟨0, rfl, by omega, Grown.refl W⟩
  case round =>
    obtain ⟨k, rfl, hk, g1⟩ := hrel
    go_wp2_with fail
    · obtain ⟨⟨kk, x, n, a, l, s⟩, hq⟩ : ∃ q, L[k]? = some q := ⟨_, List.getElem?_eq_getElem (by have := HM.out; omega)⟩
      obtain ⟨ga, oa, ca, hva, hga, a0, a1, a2, a3, a4, a5⟩ := (H1.out.grown g1).at k _ hq
      obtain ⟨gb, ob, cb, hvb, hgb, b0, b1, b2, b3, b4, b5⟩ := (H2.out.grown g1).at k _ hq
      injection hva with q1 q2 q3
      injection hvb with q4 q5 q6
      subst q1
      subst q4
      clear q2 q3 q5 q6 hq
      go_region
      all_goals
        go_wp2_with fail
        go_roundw
        case rel => exact ⟨k + 1, by simp, by omega, g1.drew⟩
        case measure => simp [intOf] <;> omega
    · go_ret
      exact ⟨rfl, g1⟩
end Go.Proofs.Ytenmbkngkabonaa
