/- tympanlaw26.crosses of two rows of the same crossings; the plain law of BowCounts. -/
import Derived.Test.YtnienpalbfgflaaC12
namespace Go.Proofs.Ytnienpalbfgflaa
set_option linter.unusedVariables false
open Go.RowKit

set_option maxHeartbeats 4000000 in
set_option maxRecDepth 100000 in
theorem crosses_same (va vb : Value) (L : List (Int × Int)) (hm : L.length ≤ 100) (W : World) (ha : RdX va L W) (hb : RdX vb L W) :
    Calls Try.prog 17 #[va, vb] W fun en w' => en = .returned (.bool true) ∧ Fr (fun _ => False) W w' := by
  have HA := Lib.hid ha
  have HB := Lib.hid hb
  obtain ⟨ao, ca, rfl, _⟩ := ha
  obtain ⟨bo, cb, rfl, _⟩ := hb
  obtain ⟨m, hme⟩ : ∃ m, m = L.length := ⟨_, rfl⟩
  have HM := Lib.hid hme
  rw [← hme] at HA HB hm ⊢
  clear hme
  go_enter Try.func17, Try.ntmps17
  go_wp2_with fail
  go_loopw [5] (fun i wr => ∃ j : Nat, i = .int .i64 (j : Int) ∧ j ≤ m ∧ Hid (Fr (fun _ => False) W wr)) (fun i _ => ((m : Int) - intOf i).toNat)
  case atStart => exact ⟨0, rfl, by omega, Lib.hid (Fr.refl _ _)⟩
  case round =>
    obtain ⟨j, rfl, hj, HF⟩ := hrel
    by_cases hjm : j = m
    · subst hjm
      have hb : decide ((j : Int) < (j : Int)) = false := decide_eq_false (by omega)
      go_wp2_with fail
      go_ret
      exact ⟨rfl, HF.out⟩
    · have hjI : (j : Int) < (m : Int) := by omega
      have HJ := Lib.hid (show j < m by omega)
      obtain ⟨c, hc⟩ : ∃ c, L[j]? = some c := ⟨_, List.getElem?_eq_getElem (by have := HM.out; omega)⟩
      obtain ⟨aa, ca, hva, ra⟩ := HA.out.fr0 HF.out
      obtain ⟨ab, cb, hvb, rb⟩ := HB.out.fr0 HF.out
      obtain ⟨ga, rfl, _, ra⟩ := ra.resolve_left (fun q => by rw [q] at hc; simp at hc)
      obtain ⟨gb, rfl, _, rb⟩ := rb.resolve_left (fun q => by rw [q] at hc; simp at hc)
      injection hva with q1 ql1 qc1
      injection hvb with q2 ql2 qc2
      clear ql1 ql2
      subst qc1
      subst qc2
      subst q1
      subst q2
      obtain ⟨ra0, ra1⟩ := ra j c hc
      obtain ⟨rb0, rb1⟩ := rb j c hc
      obtain ⟨ct, ck⟩ := c
      simp only at ra0 ra1 rb0 rb1
      clear ra rb hc hjm
      go_wp2_with fail
      go_quiet (fail)
      go_wp2_with fail
      refine ⟨?_, by simp [intOf]; omega⟩
      repeat (apply Exists.intro (α := Value))
      first
        | exact ⟨j + 1, by simp, by have := HJ.out; omega, Lib.hid HF.out.drewN⟩
        | (refine ⟨⟨j + 1, by first | rfl | simp, by have := HJ.out; omega, Lib.hid (HF.out.trans (Fr.refl _ _))⟩, ?_⟩
           repeat (first | exact rfl | refine ⟨rfl, ?_⟩))
        | exact ⟨j + 1, by simp, by have := HJ.out; omega, Lib.hid (HF.out.trans (Fr.refl _ _))⟩
theorem own_rdX62 {base : Nat} {v : Value} {L : List (Int × Int)} {W : World} (c : W.ownsRow base 62 2 v L.length (Pl.flatX L)) : RdX v L W := by
  have hl := own_lt c
  rcases c.2 with ⟨rfl, h0⟩ | ⟨g, cap, cur, rfl, hb, hg, hc, r⟩
  · exact ⟨none, 0, by rw [h0], .inl (List.eq_nil_of_length_eq_zero h0)⟩
  · refine ⟨_, cap, rfl, .inr ⟨g, rfl, hl g rfl, fun j u hu => ?_⟩⟩
    have e0 := Pl.flatX_get L j u hu 0 (by omega)
    have e1 := Pl.flatX_get L j u hu 1 (by omega)
    constructor
    · have := c.cells rfl (j * 2) (.int .i64 u.1) (by rw [Nat.add_zero] at e0; rw [e0]; rfl)
      rw [Addr.add_lit, Nat.zero_add] at this
      exact this
    · have := c.cells rfl (j * 2 + 1) (.int .i64 u.2) (by rw [e1]; rfl)
      rw [Addr.add_lit, Nat.zero_add] at this
      exact this
theorem line26_rd (e : Pl.Ed) (y n : Int) (W : World) : Calls Try.prog 18 #[edv e, .int .i64 y, .int .i64 n] W fun en w' => ∃ v, en = .returned v ∧ RdX v (Pl.line e y n) w' ∧ Fr (fun _ => False) W w' :=
  (line26_any e y n W).mono fun en w' ⟨v, h1, h2, h3⟩ => ⟨v, h1, own_rdX62 h2, h3⟩
theorem Pl.line_len (e : Pl.Ed) (y n : Int) : (Pl.line e y n).length ≤ 2 := by
  unfold Pl.line
  split
  · rw [← Pl.crs_nz]
    unfold Pl.crs
    rw [List.length_map]
    exact Pl.nz_len _
  · simp
/-- the Turns to the right of centre i, told by a line's crossings -/
def Pl.right (L : List (Int × Int)) (i : Int) : Int := (L.map fun c => if i < c.2 then c.1 else 0).sum
theorem Pl.right_take (L : List (Int × Int)) (i : Int) (j : Nat) (c : Int × Int) (h : L[j]? = some c) : Pl.right (L.take (j + 1)) i = Pl.right (L.take j) i + (if i < c.2 then c.1 else 0) := by
  unfold Pl.right
  rw [List.take_add_one, h, List.map_append, List.sum_append]
  simp
theorem Pl.right_turns (e : Pl.Ed) (y n i : Int) (he : e.may) (hy : Pl.crd y) (hn : 0 ≤ n ∧ n ≤ 64) (h0 : 0 ≤ i) (h1 : i < n) : Pl.right (Pl.line e y n) i = Pl.turns e (16 * i + 8) y := by
  unfold Pl.line Pl.turns
  rw [if_pos ⟨he, hy, hn⟩, if_pos ⟨he, by unfold Pl.crd; omega, hy⟩]
  obtain ⟨o1, o2⟩ := Pl.spots_ok e he y hy
  have h : ∀ s : Pl.Sp, s.ok → Pl.right (Pl.crosses s n) i = Pl.cnt s (16 * i + 8) := fun s hs => by
    unfold Pl.crosses Pl.cnt
    by_cases t : s.t = 0
    · rw [if_pos t, if_neg (fun k => k.1 t)]
      rfl
    · rw [if_neg t]
      have k := Pl.crossK_iff s n i hs t h0 h1
      by_cases c : i < Pl.crossK s n
      · rw [if_pos ⟨t, k.1 c⟩]
        simp [Pl.right, c]
      · rw [if_neg (fun q => c (k.2 q.2))]
        simp [Pl.right, c]
  unfold Pl.tot
  rw [← h _ o1, ← h _ o2]
  unfold Pl.right
  rw [List.map_append, List.sum_append]
theorem Pl.line_sp (e : Pl.Ed) (y n : Int) (hn : 0 ≤ n ∧ n ≤ 64) : ∀ (j : Nat) (c : Int × Int), (Pl.line e y n)[j]? = some c → (c.1 = 1 ∨ c.1 = -1) ∧ 0 ≤ c.2 ∧ c.2 ≤ 64 := by
  intro j c hc
  unfold Pl.line at hc
  split at hc
  · rename_i h
    obtain ⟨he, hy, _⟩ := h
    rw [← Pl.crs_nz] at hc
    unfold Pl.crs at hc
    rw [List.getElem?_map] at hc
    cases hs : (Pl.nz (Pl.spots e y))[j]? with
    | none => rw [hs] at hc; simp at hc
    | some s =>
      rw [hs] at hc
      simp at hc
      obtain ⟨ho, ht⟩ := Pl.nz_ok e he y hy j s hs
      obtain ⟨h1, _⟩ := ho.resolve_left ht
      subst hc
      refine ⟨h1, ?_⟩
      show 0 ≤ Pl.crossK s n ∧ Pl.crossK s n ≤ 64
      unfold Pl.crossK
      omega
  · simp at hc
end Go.Proofs.Ytnienpalbfgflaa
