/- BowCuts: the walk. -/
import Derived.Test.YtnienpalbfgflaaBW14
import Derived.Deep.RegionHeld3
namespace Go.Proofs.Ytnienpalbfgflaa
set_option linter.unusedVariables false
open Go.RowKit

theorem Pl.crosses_cut (s : Pl.Sp) (hs : s.ok) (w : Int) (hw : 0 ≤ w ∧ w ≤ 24) : ∀ (j : Nat) (c : Int × Int), (Pl.crosses s 24)[j]? = some c → ∃ d : Int × Int, (Pl.crosses s w)[j]? = some d ∧ d.1 = c.1 ∧ d.2 = min c.2 w ∧ (c.1 = 1 ∨ c.1 = -1) ∧ 0 ≤ c.2 ∧ c.2 ≤ 24 := by
  intro j c hc
  unfold Pl.crosses at hc ⊢
  by_cases h : s.t = 0
  · rw [if_pos h] at hc; simp at hc
  · rw [if_neg h] at hc ⊢
    cases j with
    | succ j => simp at hc
    | zero =>
      simp at hc
      subst hc
      refine ⟨_, rfl, rfl, ?_, (hs.resolve_left h).1, ?_, ?_⟩
      · show Pl.crossK s w = min (Pl.crossK s 24) w
        unfold Pl.crossK
        omega
      · show 0 ≤ Pl.crossK s 24
        unfold Pl.crossK
        omega
      · show Pl.crossK s 24 ≤ 24
        unfold Pl.crossK
        omega
theorem Pl.crosses_len (s : Pl.Sp) (n m : Int) : (Pl.crosses s n).length = (Pl.crosses s m).length := by
  unfold Pl.crosses
  split <;> rfl
theorem Pl.line_cut (e : Pl.Ed) (v w : Int) (hw : 0 ≤ w ∧ w ≤ 24) : (Pl.line e v w).length = (Pl.line e v 24).length ∧ (Pl.line e v 24).length ≤ 2 ∧ ∀ (j : Nat) (c : Int × Int), (Pl.line e v 24)[j]? = some c → ∃ d : Int × Int, (Pl.line e v w)[j]? = some d ∧ d.1 = c.1 ∧ d.2 = min c.2 w ∧ (c.1 = 1 ∨ c.1 = -1) ∧ 0 ≤ c.2 ∧ c.2 ≤ 24 := by
  unfold Pl.line
  by_cases h : e.may ∧ Pl.crd v
  · rw [if_pos ⟨h.1, h.2, by omega, by omega⟩, if_pos ⟨h.1, h.2, by omega, by omega⟩]
    obtain ⟨o1, o2⟩ := Pl.spots_ok e h.1 v h.2
    have l1 := Pl.crosses_len (Pl.spots e v).1 w 24
    have l2 := Pl.crosses_len (Pl.spots e v).2 w 24
    have l3 : ∀ s : Pl.Sp, (Pl.crosses s 24).length ≤ 1 := fun s => by unfold Pl.crosses; split <;> simp
    refine ⟨by rw [List.length_append, List.length_append, l1, l2], by rw [List.length_append]; have := l3 (Pl.spots e v).1; have := l3 (Pl.spots e v).2; omega, fun j c hc => ?_⟩
    by_cases hj : j < (Pl.crosses (Pl.spots e v).1 24).length
    · rw [List.getElem?_append_left hj] at hc
      rw [List.getElem?_append_left (by omega)]
      exact Pl.crosses_cut _ o1 w hw j c hc
    · rw [List.getElem?_append_right (by omega)] at hc
      rw [List.getElem?_append_right (by omega), l1]
      exact Pl.crosses_cut _ o2 w hw _ c hc
  · rw [if_neg (fun k => h ⟨k.1, k.2.1⟩), if_neg (fun k => h ⟨k.1, k.2.1⟩)]
    exact ⟨rfl, by simp, fun j c hc => by simp at hc⟩
set_option maxHeartbeats 8000000 in
set_option maxRecDepth 100000 in
theorem walk_BowCuts (nv : Value) (N : List Int) (y k : Int) (w : World) (hn : RdI nv N w) :
    Calls Try.prog 7 #[nv, .int .i64 y, .int .i64 k] w fun en w' => en = .returned (.bool true) ∧ Kept w w' := by
  have KN := Lib.hid (fun Z => known26 Z)
  have HN := Lib.hid hn
  obtain ⟨ao, cap, rfl, hcap, _⟩ := hn
  obtain ⟨M, hM⟩ : ∃ M, M = N.length := ⟨_, rfl⟩
  rw [← hM] at hcap HN ⊢
  clear hM
  have CE := Lib.hid (fun Z p h => edge_any w Z p N h)
  have CP25 := Lib.hid (fun v Z => place_any v 25 (by omega) (by omega) Z)
  have CP320 := Lib.hid (fun v Z => place_any v 320 (by omega) (by omega) Z)
  obtain ⟨gy, hgy⟩ : ∃ r, r = y % 320 := ⟨_, rfl⟩
  have bgy : 0 ≤ gy ∧ gy < 320 := by rw [hgy]; exact ⟨Int.emod_nonneg _ (by omega), Int.emod_lt_of_pos _ (by omega)⟩
  have Hgy : Hid (y % 320 = gy) := Lib.hid hgy.symm
  clear hgy
  obtain ⟨gk, hgk⟩ : ∃ r, r = k % 25 := ⟨_, rfl⟩
  have bgk : 0 ≤ gk ∧ gk < 25 := by rw [hgk]; exact ⟨Int.emod_nonneg _ (by omega), Int.emod_lt_of_pos _ (by omega)⟩
  have Hgk : Hid (k % 25 = gk) := Lib.hid hgk.symm
  clear hgk
  obtain ⟨e, he⟩ : ∃ e, e = Pl.edge N := ⟨_, rfl⟩
  rw [← he] at CE
  clear he
  obtain ⟨l1, l2, l3⟩ := Pl.line_cut e (gy - 32) gk (by omega)
  have K1 := Lib.hid (fun Z => line_rd e (gy - 32) 24 Z)
  have K2 := Lib.hid (fun Z => line_rd e (gy - 32) gk Z)
  have K3 := Lib.hid (fun Z => line_rd e (gy - 32) 65 Z)
  have K4 := Lib.hid (fun Z => line_rd e (gy - 32) (-1) Z)
  rw [show Pl.line e (gy - 32) 65 = [] by unfold Pl.line; rw [if_neg (fun h => by omega)]] at K3
  rw [show Pl.line e (gy - 32) (-1) = [] by unfold Pl.line; rw [if_neg (fun h => by omega)]] at K4
  obtain ⟨A, hA⟩ : ∃ A, A = Pl.line e (gy - 32) 24 := ⟨_, rfl⟩
  obtain ⟨B, hB⟩ : ∃ B, B = Pl.line e (gy - 32) gk := ⟨_, rfl⟩
  rw [← hA] at K1 l1 l2 l3
  rw [← hB] at K2 l1 l3
  clear hA hB
  obtain ⟨m, hm⟩ : ∃ m, m = A.length := ⟨_, rfl⟩
  have HMA := Lib.hid hm
  have HMB : Hid (m = B.length) := Lib.hid (by rw [hm, l1])
  have HL3 := Lib.hid l3
  have hm2 : m ≤ 2 := by omega
  clear l1 l2 l3 hm
  obtain ⟨x00, y00, b0, cx0, cy0, x10, y10⟩ := e
  simp only [edv] at CE K1 K2 K3 K4
  go_enter Try.func7, Try.ntmps7
  go_wp2_with fail
  refine (KN.out _).mono ?_
  rintro en w1 ⟨rfl, f1⟩
  have F1 := Lib.hid f1
  clear f1 KN
  go_wp2_with fail
  refine (CE.out _ _ (LN.new HN.out F1.out 29)).mono ?_
  rintro en w2 ⟨rfl, n2, _⟩
  have F2 := Lib.hid n2.fr
  clear n2 CE
  go_wp2_with fail
  refine (CP320.out _ _).mono ?_
  rintro en w3 ⟨rfl, rfl⟩
  rw [Hgy.out]
  go_wp2_with fail
  refine (CP25.out _ _).mono ?_
  rintro en w3 ⟨rfl, rfl⟩
  rw [Hgk.out]
  go_wp2_with fail
  have B0 := Lib.hid (Blk.new (W := w) (Z := w2) #[.int .i64 x00, .int .i64 y00, .bool b0, .int .i64 cx0, .int .i64 cy0, .int .i64 x10, .int .i64 y10] 25 F2.out.2.2.1)
  have F3 := Lib.hid (F2.out.trans (Fr.alloc (fun _ => False) w2 (.cells #[.int .i64 x00, .int .i64 y00, .bool b0, .int .i64 cx0, .int .i64 cy0, .int .i64 x10, .int .i64 y10] 25)))
  obtain ⟨p, hp⟩ : ∃ p, p = w2.heap.size := ⟨_, rfl⟩
  rw [← hp] at B0 ⊢
  clear hp F2 F1 CP320 CP25 HN Hgy Hgk
  generalize hZ : w2.alloc (.cells #[.int .i64 x00, .int .i64 y00, .bool b0, .int .i64 cx0, .int .i64 cy0, .int .i64 x10, .int .i64 y10] 25) = Z at *
  have HS : Hid (One w p x00 y00 b0 cx0 cy0 x10 y10 Z) := Lib.hid (by
    obtain ⟨a0, a1, a2, a3, a4, a5, a6⟩ := B0.out.at0
    exact ⟨a0, a1, a2, a3, a4, a5, a6, F3.out⟩)
  clear hZ B0 F3
  have L1 := Lib.hid (fun Z (h : One w p x00 y00 b0 cx0 cy0 x10 y10 Z) => (K1.out Z).mono fun en w' hh => (by
    obtain ⟨v, h1, h2, h3⟩ := hh
    obtain ⟨ao, cap, h4, _⟩ := id h2
    rw [← HMA.out] at h4
    rw [h4] at h1 h2
    exact ⟨ao, cap, h1, h2, h3, h.fr h3⟩ : ∃ ao cap, en = .returned (.slice ao m cap) ∧ RdX (.slice ao m cap) A w' ∧ Fr (fun _ => False) Z w' ∧ One w p x00 y00 b0 cx0 cy0 x10 y10 w'))
  have L2 := Lib.hid (fun Z (h : One w p x00 y00 b0 cx0 cy0 x10 y10 Z) => (K2.out Z).mono fun en w' hh => (by
    obtain ⟨v, h1, h2, h3⟩ := hh
    obtain ⟨ao, cap, h4, _⟩ := id h2
    rw [← HMB.out] at h4
    rw [h4] at h1 h2
    exact ⟨ao, cap, h1, h2, h3, h.fr h3⟩ : ∃ ao cap, en = .returned (.slice ao m cap) ∧ RdX (.slice ao m cap) B w' ∧ Fr (fun _ => False) Z w' ∧ One w p x00 y00 b0 cx0 cy0 x10 y10 w'))
  clear K1 K2
  go_region_held3 (fun Z => Z.cell? ⟨p, 0, none⟩ = some (.int .i64 x00) ∧ Z.cell? ⟨p, 1, none⟩ = some (.int .i64 y00) ∧ Z.cell? ⟨p, 2, none⟩ = some (.bool b0) ∧ Z.cell? ⟨p, 3, none⟩ = some (.int .i64 cx0) ∧ Z.cell? ⟨p, 4, none⟩ = some (.int .i64 cy0) ∧ Z.cell? ⟨p, 5, none⟩ = some (.int .i64 x10) ∧ Z.cell? ⟨p, 6, none⟩ = some (.int .i64 y10) ∧ Fr (fun _ => False) w Z)
    (first | assumption | exact HS.out.fr ((Fr.refl (fun _ => False) _).drew))
    (first
      | (go_at_call 16; first | (with_reducible refine Calls.mono (L1.out _ ?_) ?_; (assumption); rintro e w' ⟨ao1, cap1, rfl, hr, hf, hS⟩) | (with_reducible refine Calls.mono (L2.out _ ?_) ?_; (assumption); rintro e w' ⟨ao2, cap2, rfl, hr, hf, hS⟩)))
  rename_i w4 hr4 hf4 hs4 hheld
  have RA := Lib.hid (hr4.fr0 hf)
  have RB := Lib.hid hr
  have HS5 := Lib.hid hS
  clear hr4 hr hf hf4 hs4 hS hheld L1 L2 HS
  go_wp2_with fail
  go_loopw [12] (fun i wr => ∃ j : Nat, i = .int .i64 (j : Int) ∧ j ≤ m ∧ Hid (Fr (fun _ => False) w' wr)) (fun i _ => ((m : Int) - intOf i).toNat)
  case atStart => exact ⟨0, rfl, by omega, Lib.hid (Fr.refl _ _)⟩
  case round =>
    obtain ⟨j, rfl, hj, HF⟩ := hrel
    by_cases hjm : j = m
    · subst hjm
      have hb : decide ((j : Int) < (j : Int)) = false := decide_eq_false (by omega)
      obtain ⟨a0, a1, a2, a3, a4, a5, a6, _⟩ := HS5.out.fr HF.out
      have HFW := Lib.hid (HS5.out.fr HF.out).2.2.2.2.2.2.2
      go_wp2_with fail
      refine (K3.out _).mono ?_
      rintro en w6 ⟨v6, rfl, r6, f6⟩
      obtain ⟨ao6, c6, rfl, _⟩ := r6
      have hl6 : ((([] : List (Int × Int)).length : Nat) : Int) = 0 := rfl
      obtain ⟨d0, d1, d2, d3, d4, d5, d6, _⟩ := (HS5.out.fr HF.out).fr f6
      have F6 := Lib.hid (HFW.out.trans f6)
      clear f6 a0 a1 a2 a3 a4 a5 a6
      go_wp2_with fail
      refine (K4.out _).mono ?_
      rintro en w7 ⟨v7, rfl, r7, f7⟩
      obtain ⟨ao7, c7, rfl, _⟩ := r7
      have F7 := Lib.hid (F6.out.trans f7)
      clear f7 d0 d1 d2 d3 d4 d5 d6
      go_wp2_with fail
      go_ret
      exact ⟨rfl, Kept.of_fr F7.out⟩
    · have hjI : (j : Int) < (m : Int) := by omega
      have HJ := Lib.hid (show j < m by omega)
      obtain ⟨c, hc⟩ : ∃ c, A[j]? = some c := ⟨_, List.getElem?_eq_getElem (by have := HMA.out; omega)⟩
      obtain ⟨d, hd, e1, e2, e3, e4, e5⟩ := HL3.out j c hc
      obtain ⟨aa, ca, hva, ra⟩ := RA.out.fr0 HF.out
      obtain ⟨ab, cb, hvb, rb⟩ := RB.out.fr0 HF.out
      obtain ⟨ga, rfl, _, ra⟩ := ra.resolve_left (fun q => by rw [q] at hc; simp at hc)
      obtain ⟨gb, rfl, _, rb⟩ := rb.resolve_left (fun q => by rw [q] at hd; simp at hd)
      injection hva with q1 ql1 qc1
      injection hvb with q2 ql2 qc2
      clear ql1 ql2
      subst qc1
      subst qc2
      subst q1
      subst q2
      obtain ⟨ra0, ra1⟩ := ra j c hc
      obtain ⟨rb0, rb1⟩ := rb j d hd
      obtain ⟨ct, ck⟩ := c
      obtain ⟨dt, dk⟩ := d
      simp only at e1 e2 e3 e4 e5 ra0 ra1 rb0 rb1
      subst e1
      clear ra rb hc hd hjm
      by_cases hk : gk < ck
      · obtain rfl : dk = gk := by omega
        clear e2
        rcases e3 with rfl | rfl
        all_goals
          go_wp2_with fail
          go_quiet (fail)
          go_wp2_with fail
          refine ⟨?_, by simp [intOf]; omega⟩
          repeat (apply Exists.intro (α := Value))
          first
            | exact ⟨j + 1, by simp, by have := HJ.out; omega, Lib.hid HF.out.drew⟩
            | (refine ⟨⟨j + 1, by first | rfl | simp, by have := HJ.out; omega, Lib.hid HF.out.drew⟩, ?_⟩
               repeat (first | exact rfl | refine ⟨rfl, ?_⟩))
      · obtain rfl : dk = ck := by omega
        have hle : dk ≤ gk := by omega
        have hlt : (gk < dk) = False := eq_false hk
        have hite : (if gk < dk then gk else dk) = dk := if_neg hk
        clear e2
        rcases e3 with rfl | rfl
        all_goals
          go_wp2_with fail
          go_quiet (fail)
          go_wp2_with fail
          refine ⟨?_, by simp [intOf]; omega⟩
          repeat (apply Exists.intro (α := Value))
          first
            | exact ⟨j + 1, by simp, by have := HJ.out; omega, Lib.hid HF.out.drew⟩
            | (refine ⟨⟨j + 1, by first | rfl | simp, by have := HJ.out; omega, Lib.hid HF.out.drew⟩, ?_⟩
               repeat (first | exact rfl | refine ⟨rfl, ?_⟩))
theorem law_BowCuts (v0 : Value) (N : List Int) (y k : Int) (w : World) (h0 : RdI v0 N w ∧ N.length ≤ maxLen) (_ : (Lit.int .i64 y).wf = true) (_ : (Lit.int .i64 k).wf = true) :
    Calls Try.prog 7 #[v0, .int .i64 y, .int .i64 k] w fun en w' => en = .returned (.bool true) ∧ Kept w w' := walk_BowCuts v0 N y k w h0.1
end Go.Proofs.Ytnienpalbfgflaa
