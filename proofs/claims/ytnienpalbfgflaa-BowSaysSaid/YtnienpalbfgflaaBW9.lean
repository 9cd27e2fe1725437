/- The walk of bow.Turns. -/
import Derived.Test.YtnienpalbfgflaaBW8
namespace Go.Proofs.Ytnienpalbfgflaa
set_option linter.unusedVariables false
open Go.RowKit

theorem Pl.cnt_bd (s : Pl.Sp) (hs : s.ok) (x : Int) : -1 ≤ Pl.cnt s x ∧ Pl.cnt s x ≤ 1 := by
  unfold Pl.cnt
  split
  · rcases hs with h | ⟨h | h, _⟩ <;> omega
  · omega
set_option maxHeartbeats 2000000 in
set_option maxRecDepth 100000 in
theorem turns_in (e : Pl.Ed) (x y : Int) (he : e.may) (hx : Pl.crd x) (hy : Pl.crd y) (W : World) :
    Calls Try.prog 19 #[edv e, .int .i64 x, .int .i64 y] W fun en w' => en = .returned (.int .i64 (Pl.tot (Pl.spots e y) x)) ∧ Grown W w' := by
  have CM := Lib.hid (fun Z => may_any e Z)
  rw [decide_eq_true he] at CM
  have CN := Lib.hid (fun v Z hz => near_any v [x, y] (by show 2 < 1000000; omega) Z hz)
  rw [decide_eq_true (show ∀ v ∈ [x, y], Pl.crd v by intro v hv; simp at hv; rcases hv with rfl | rfl; exact hx; exact hy)] at CN
  have CS := Lib.hid (fun Z => spots_any e y he hy Z)
  obtain ⟨ok1, ok2⟩ := Pl.spots_ok e he y hy
  unfold Pl.tot
  obtain ⟨S, hS⟩ : ∃ S, S = (Pl.spots e y).1 := ⟨_, rfl⟩
  obtain ⟨T, hT⟩ : ∃ T, T = (Pl.spots e y).2 := ⟨_, rfl⟩
  rw [← hS] at CS ok1 ⊢
  rw [← hT] at CS ok2 ⊢
  clear hS hT he hy
  have HO1 := Lib.hid ok1
  have HO2 := Lib.hid ok2
  have b1 := Pl.cnt_bd S ok1 x
  have b2 := Pl.cnt_bd T ok2 x
  obtain ⟨A, hA⟩ : ∃ A, A = Pl.cnt S x := ⟨_, rfl⟩
  obtain ⟨B, hB⟩ : ∃ B, B = A + Pl.cnt T x := ⟨_, rfl⟩
  rw [← hA] at b1 ⊢
  rw [← hB]
  have HA := Lib.hid hA
  have HB := Lib.hid hB
  unfold Pl.crd at hx
  obtain ⟨x1, x2⟩ := hx
  obtain ⟨t, p, q, d, m⟩ := S
  obtain ⟨t', p', q', d', m'⟩ := T
  obtain ⟨x0, y0, bb, cx, cy, xe, ye⟩ := e
  simp only [edv, spp] at CM CN CS ⊢
  clear ok1 ok2 b1 b2 hA hB
  have i0 : ∀ W, (Instr.index 58 (.agg #[.int .i64 t, .int .i64 p, .int .i64 q, .int .i64 d, .int .i64 m, .int .i64 t', .int .i64 p', .int .i64 q', .int .i64 d', .int .i64 m']) (.int .i64 ((0 : Nat) : Int))).run Try.prog W = .ok (.agg #[.int .i64 t, .int .i64 p, .int .i64 q, .int .i64 d, .int .i64 m]) W := fun W => rfl
  have i1 : ∀ W, (Instr.index 58 (.agg #[.int .i64 t, .int .i64 p, .int .i64 q, .int .i64 d, .int .i64 m, .int .i64 t', .int .i64 p', .int .i64 q', .int .i64 d', .int .i64 m']) (.int .i64 ((1 : Nat) : Int))).run Try.prog W = .ok (.agg #[.int .i64 t', .int .i64 p', .int .i64 q', .int .i64 d', .int .i64 m']) W := fun W => rfl
  have HI := Lib.hid (And.intro i0 i1)
  clear i0 i1
  go_enter Try.func19, Try.ntmps19
  go_wp2_with fail
  refine (CM.out _).mono ?_
  rintro en w1 ⟨rfl, g1⟩
  have G1 := Lib.hid (grown_trans ((Grown.refl W).alloc _ _) g1)
  have BK := Lib.hid ((Blk.new (W := W) (Z := W) #[.int .i64 x0, .int .i64 y0, .bool bb, .int .i64 cx, .int .i64 cy, .int .i64 xe, .int .i64 ye] 25 (Nat.le_refl _)).grow g1)
  clear g1 CM
  go_wp2_with fail
  with_reducible refine (CN.out _ _ ?hread).mono ?_
  case hread => exact rdI_lit _ _ _ _ _ _ rfl rfl (by simp)
  rintro en w2 ⟨rfl, rfl⟩
  have G2 := Lib.hid (G1.out.alloc #[.int .i64 x, .int .i64 y] 3)
  obtain ⟨c0, c1, c2, c3, c4, c5, c6⟩ := (BK.out.alloc #[.int .i64 x, .int .i64 y] 3).at0
  clear CN G1
  go_wp2_with fail
  refine (CS.out _).mono ?_
  rintro en w3 ⟨rfl, g3⟩
  have G3 := Lib.hid (grown_trans G2.out g3)
  clear CS G2 g3 c0 c1 c2 c3 c4 c5 c6
  go_wp2_with fail
  go_loopw [7, 23] (fun s7 s wr => ∃ (j : Nat) (n : Int), s = .int .i64 (j : Int) ∧ s7 = .int .i64 n ∧ ((j = 0 ∧ n = 0) ∨ (j = 1 ∧ n = A) ∨ (j = 2 ∧ n = B)) ∧ Hid (Grown W wr)) (fun _ s _ => (2 - intOf s).toNat)
  case atStart => exact ⟨0, 0, rfl, rfl, .inl ⟨rfl, rfl⟩, G3⟩
  case round =>
    obtain ⟨j, n, rfl, rfl, hj, HG⟩ := hrel
    by_cases hj2 : j = 2
    · obtain rfl : n = B := by omega
      subst hj2
      clear hj
      go_wp2_with fail
      go_ret
      exact ⟨rfl, HG.out⟩
    obtain ⟨t0, p0, q0, d0, m0, hix, HO, HN, hn⟩ : ∃ t0 p0 q0 d0 m0, (∀ W, (Instr.index 58 (.agg #[.int .i64 t, .int .i64 p, .int .i64 q, .int .i64 d, .int .i64 m, .int .i64 t', .int .i64 p', .int .i64 q', .int .i64 d', .int .i64 m']) (.int .i64 (j : Int))).run Try.prog W = .ok (.agg #[.int .i64 t0, .int .i64 p0, .int .i64 q0, .int .i64 d0, .int .i64 m0]) W)
        ∧ Hid (Pl.Sp.ok ⟨t0, p0, q0, d0, m0⟩) ∧ Hid ((j = 0 ∧ A = n + Pl.cnt ⟨t0, p0, q0, d0, m0⟩ x) ∨ (j = 1 ∧ B = n + Pl.cnt ⟨t0, p0, q0, d0, m0⟩ x)) ∧ (-1 ≤ n ∧ n ≤ 1) := by
      rcases hj with ⟨rfl, rfl⟩ | ⟨rfl, rfl⟩ | ⟨rfl, rfl⟩
      · exact ⟨_, _, _, _, _, HI.out.1, HO1, Lib.hid (.inl ⟨rfl, by rw [HA.out]; omega⟩), by omega⟩
      · have hAb := Pl.cnt_bd _ HO1.out x
        rw [← HA.out] at hAb
        exact ⟨_, _, _, _, _, HI.out.2, HO2, Lib.hid (.inr ⟨rfl, HB.out⟩), hAb⟩
      · exact absurd rfl hj2
    obtain ⟨n1, n2⟩ := hn
    have hjI : (j : Int) < 2 := by omega
    have HJ := Lib.hid (show j < 2 by omega)
    clear hj hj2
    have NEXT : Hid (∀ Z v, Grown W Z → v = n + Pl.cnt ⟨t0, p0, q0, d0, m0⟩ x → ∃ (j' : Nat) (n' : Int), Value.int .i64 ((j : Int) + 1) = .int .i64 (j' : Int) ∧ Value.int .i64 v = .int .i64 n' ∧ ((j' = 0 ∧ n' = 0) ∨ (j' = 1 ∧ n' = A) ∨ (j' = 2 ∧ n' = B)) ∧ Hid (Grown W Z)) := Lib.hid (fun Z v hg hv => by
      refine ⟨j + 1, v, by simp, rfl, ?_, Lib.hid hg⟩
      rcases HN.out with ⟨h1, h2⟩ | ⟨h1, h2⟩
      · exact .inr (.inl ⟨by omega, by omega⟩)
      · exact .inr (.inr ⟨by omega, by omega⟩))
    by_cases ht : t0 = 0
    · have hb : (t0 != 0) = false := by rw [ht]; rfl
      have HC := Lib.hid (show n = n + Pl.cnt ⟨t0, p0, q0, d0, m0⟩ x by unfold Pl.cnt; rw [if_neg (fun h => h.1 ht)]; omega)
      clear ht
      go_wp2_with fail
      exact ⟨NEXT.out _ _ (HG.out.alloc _ _) HC.out, by simp only [intOf]; omega⟩
    · have hb : (t0 != 0) = true := bne_iff_ne.2 ht
      obtain ⟨k1, k2, k3, k4, k5, k6⟩ := HO.out.resolve_left ht
      simp only at k1 k2 k3 k4 k5 k6
      obtain ⟨X, hX⟩ : ∃ X, x * m0 = X := ⟨_, rfl⟩
      obtain ⟨R, hR⟩ : ∃ R, p0 - X = R := ⟨_, rfl⟩
      have kX := Pl.bd_mul 8191 1073741824 ⟨x1, x2⟩ (show -1073741824 ≤ m0 ∧ m0 ≤ 1073741824 by omega)
      rw [hX] at kX
      obtain ⟨kX1, kX2⟩ := kX
      have CG := Lib.hid (fun Z => bsign_ok R q0 d0 (by omega) k6 Z)
      have hr := Pl.rsign_bd R q0 d0
      obtain ⟨r, hrr⟩ : ∃ r, r = Pl.rsign R q0 d0 := ⟨_, rfl⟩
      rw [← hrr] at CG hr
      have HC := Lib.hid (show Pl.cnt ⟨t0, p0, q0, d0, m0⟩ x = if 0 < r then t0 else 0 by
        unfold Pl.cnt
        simp only
        rw [hX, hR, ← hrr]
        by_cases h : 0 < r
        · rw [if_pos ⟨ht, h⟩, if_pos h]
        · rw [if_neg (fun k => h k.2), if_neg h])
      have hpR : Hid (p0 - X = R) := Lib.hid hR
      clear ht k6 hrr
      have kt : -1 ≤ t0 ∧ t0 ≤ 1 := by omega
      obtain ⟨kt1, kt2⟩ := kt
      clear k1
      obtain ⟨hr1, hr2⟩ := hr
      go_wp2_with fail
      refine (CG.out _).mono ?_
      rintro en w4 ⟨rfl, g4⟩
      have e0 : w4.cell? ⟨wr.heap.size, 0, none⟩ = some (.int .i64 t0) := grown_cell g4 (by simp [go_sem])
      have G4 := Lib.hid (grown_trans (HG.out.alloc _ _) g4)
      clear g4 CG
      by_cases h : 0 < r
      · have HV := Lib.hid (show n + t0 = n + Pl.cnt ⟨t0, p0, q0, d0, m0⟩ x by rw [HC.out, if_pos h])
        go_wp2_with fail
        exact ⟨NEXT.out _ _ G4.out HV.out, by simp only [intOf]; omega⟩
      · have HV := Lib.hid (show n = n + Pl.cnt ⟨t0, p0, q0, d0, m0⟩ x by rw [HC.out, if_neg h]; omega)
        go_wp2_with fail
        exact ⟨NEXT.out _ _ G4.out HV.out, by simp only [intOf]; omega⟩
set_option maxRecDepth 100000 in
theorem turns_out (e : Pl.Ed) (x y : Int) (h : ¬ (e.may ∧ Pl.crd x ∧ Pl.crd y)) (W : World) :
    Calls Try.prog 19 #[edv e, .int .i64 x, .int .i64 y] W fun en w' => en = .returned (.int .i64 0) ∧ Grown W w' := by
  have CM := Lib.hid (fun Z => may_any e Z)
  have CN := Lib.hid (fun v Z hz => near_any v [x, y] (by show 2 < 1000000; omega) Z hz)
  by_cases he : e.may
  · have hxy : ¬ ∀ v ∈ [x, y], Pl.crd v := fun k => h ⟨he, k x (by simp), k y (by simp)⟩
    rw [decide_eq_true he] at CM
    rw [decide_eq_false hxy] at CN
    clear h he hxy
    obtain ⟨x0, y0, bb, cx, cy, xe, ye⟩ := e
    simp only [edv] at CM ⊢
    go_enter Try.func19, Try.ntmps19
    go_wp2_with fail
    refine (CM.out _).mono ?_
    rintro en w1 ⟨rfl, g1⟩
    have G1 := Lib.hid (grown_trans ((Grown.refl W).alloc _ _) g1)
    clear g1 CM
    go_wp2_with fail
    with_reducible refine (CN.out _ _ ?hread).mono ?_
    case hread => exact rdI_lit _ _ _ _ _ _ rfl rfl (by simp)
    rintro en w2 ⟨rfl, rfl⟩
    go_wp2_with fail
    go_ret
    exact ⟨rfl, G1.out.alloc _ _⟩
  · rw [decide_eq_false he] at CM
    clear h he CN
    obtain ⟨x0, y0, bb, cx, cy, xe, ye⟩ := e
    simp only [edv] at CM ⊢
    go_enter Try.func19, Try.ntmps19
    go_wp2_with fail
    refine (CM.out _).mono ?_
    rintro en w1 ⟨rfl, g1⟩
    have G1 := Lib.hid (grown_trans ((Grown.refl W).alloc _ _) g1)
    clear g1 CM
    go_wp2_with fail
    go_ret
    exact ⟨rfl, G1.out⟩
theorem turns_any (e : Pl.Ed) (x y : Int) (W : World) :
    Calls Try.prog 19 #[edv e, .int .i64 x, .int .i64 y] W fun en w' => en = .returned (.int .i64 (Pl.turns e x y)) ∧ Grown W w' := by
  unfold Pl.turns
  by_cases h : e.may ∧ Pl.crd x ∧ Pl.crd y
  · rw [if_pos h]; exact turns_in e x y h.1 h.2.1 h.2.2 W
  · rw [if_neg h]; exact turns_out e x y h W
end Go.Proofs.Ytnienpalbfgflaa
