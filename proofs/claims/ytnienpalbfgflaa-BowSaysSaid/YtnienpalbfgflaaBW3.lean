/- The walks of package bow: straight, even. -/
import Derived.Test.YtnienpalbfgflaaBW2
namespace Go.Proofs.Ytnienpalbfgflaa
set_option linter.unusedVariables false
open Go.RowKit

set_option maxHeartbeats 1000000 in
set_option maxRecDepth 100000 in
theorem straight_core (x0 y0 : Int) (b : Bool) (cx cy x1 y1 y m k j P Q : Int) (h1 : -8191 ≤ x0 ∧ x0 ≤ 8191) (h2 : -8191 ≤ y0 ∧ y0 ≤ 8191) (h3 : -8191 ≤ x1 ∧ x1 ≤ 8191) (h4 : -8191 ≤ y1 ∧ y1 ≤ 8191) (h5 : -8191 ≤ y ∧ y ≤ 8191)
    (hm : y1 - y0 = m) (hk : x1 - x0 = k) (hj : y - y0 = j) (hP : x0 * m = P) (hQ : k * j = Q) (W : World) :
    Calls Try.prog 42 #[.agg #[.int .i64 x0, .int .i64 y0, .bool b, .int .i64 cx, .int .i64 cy, .int .i64 x1, .int .i64 y1], .int .i64 y] W fun en w' =>
      en = .returned (if y0 ≤ y ∧ y < y1 then .agg #[.int .i64 1, .int .i64 (P + Q), .int .i64 0, .int .i64 0, .int .i64 m] else if y1 ≤ y ∧ y < y0 then .agg #[.int .i64 (-1), .int .i64 (-(P + Q)), .int .i64 0, .int .i64 0, .int .i64 (-m)] else .agg #[.int .i64 0, .int .i64 0, .int .i64 0, .int .i64 0, .int .i64 0]) ∧ Grown W w' := by
  have b1 := Pl.bd_mul 8191 16382 h1 (show -16382 ≤ m ∧ m ≤ 16382 by omega)
  have b2 := Pl.bd_mul 16382 16382 (show -16382 ≤ k ∧ k ≤ 16382 by omega) (show -16382 ≤ j ∧ j ≤ 16382 by omega)
  rw [hP] at b1
  rw [hQ] at b2
  obtain ⟨b3, b4⟩ := b1
  obtain ⟨b5, b6⟩ := b2
  obtain ⟨c1, c2⟩ := h2
  obtain ⟨c3, c4⟩ := h4
  have hmb : -16382 ≤ m ∧ m ≤ 16382 := by omega
  obtain ⟨m1, m2⟩ := hmb
  by_cases k1 : y0 ≤ y ∧ y < y1
  · rw [if_pos k1]
    obtain ⟨k2, k3⟩ := k1
    have hm0 : 0 < m := by omega
    go_enter Try.func42, Try.ntmps42
    go_wp2_with fail
    all_goals
      exact bodyPost_ret (by simp [results, Try.results42, go_sem]) rfl ⟨rfl, by repeat (first | exact Grown.refl _ | apply Grown.drew | apply Grown.alloc)⟩
  · rw [if_neg k1]
    by_cases k2 : y1 ≤ y ∧ y < y0
    · rw [if_pos k2]
      obtain ⟨k3, k4⟩ := k2
      have hm0 : m < 0 := by omega
      clear k1
      go_enter Try.func42, Try.ntmps42
      go_wp2_with fail
      all_goals
        exact bodyPost_ret (by simp [results, Try.results42, go_sem]) rfl ⟨rfl, by repeat (first | exact Grown.refl _ | apply Grown.drew | apply Grown.alloc)⟩
    · rw [if_neg k2]
      have k3 : (y < y0 ∧ y < y1) ∨ (y0 ≤ y ∧ y1 ≤ y) := by omega
      clear k1 k2 hm hj
      rcases k3 with ⟨k4, k5⟩ | ⟨k4, k5⟩
      all_goals
        go_enter Try.func42, Try.ntmps42
        go_wp2_with fail
      all_goals
        exact bodyPost_ret (by simp [results, Try.results42, go_sem]) rfl ⟨rfl, by repeat (first | exact Grown.refl _ | apply Grown.drew | apply Grown.alloc)⟩
theorem straight_any (e : Pl.Ed) (y : Int) (he : e.may) (hy : Pl.crd y) (W : World) :
    Calls Try.prog 42 #[edv e, .int .i64 y] W fun en w' => en = .returned (spv (Pl.straightS e.x0 e.y0 e.x1 e.y1 y)) ∧ Grown W w' := by
  obtain ⟨h1, h2, _, _, h3, h4, _⟩ := he
  have h := straight_core e.x0 e.y0 e.b e.cx e.cy e.x1 e.y1 y _ _ _ _ _ h1 h2 h3 h4 hy rfl rfl rfl rfl rfl W
  refine h.mono fun en w' hh => ⟨?_, hh.2⟩
  rw [hh.1]
  unfold Pl.straightS
  split
  · rfl
  · split <;> rfl
set_option maxHeartbeats 1000000 in
set_option maxRecDepth 100000 in
theorem even_core (b c ax bx x0 U V R S T Z : Int) (h1 : -16382 ≤ b ∧ b ≤ 16382) (h2 : -16382 ≤ c ∧ c ≤ 16382) (h3 : -32764 ≤ ax ∧ ax ≤ 32764) (h4 : -16382 ≤ bx ∧ bx ≤ 16382) (h5 : -8191 ≤ x0 ∧ x0 ≤ 8191)
    (hU : 4 * b * b = U) (hV : U * x0 = V) (hR : 4 * b * c = R) (hS : R * bx = S) (hT : ax * c = T) (hZ : T * c = Z) (W : World) :
    Calls Try.prog 52 #[.int .i64 b, .int .i64 c, .int .i64 ax, .int .i64 bx, .int .i64 x0] W fun en w' =>
      en = .returned (if 0 < b ∧ c ≤ 0 ∧ -c < 2 * b then .agg #[.int .i64 1, .int .i64 (V - S + Z), .int .i64 0, .int .i64 0, .int .i64 U] else if b < 0 ∧ 0 < c ∧ c ≤ -2 * b then .agg #[.int .i64 (-1), .int .i64 (V - S + Z), .int .i64 0, .int .i64 0, .int .i64 U] else .agg #[.int .i64 0, .int .i64 0, .int .i64 0, .int .i64 0, .int .i64 0]) ∧ Grown W w' := by
  have b1 := Pl.bd_mul 65528 16382 (show -65528 ≤ 4 * b ∧ 4 * b ≤ 65528 by omega) h1
  rw [hU] at b1
  have b2 := Pl.bd_mul _ _ b1 h5
  rw [hV] at b2
  have b3 := Pl.bd_mul 65528 16382 (show -65528 ≤ 4 * b ∧ 4 * b ≤ 65528 by omega) h2
  rw [hR] at b3
  have b4 := Pl.bd_mul _ _ b3 h4
  rw [hS] at b4
  have b5 := Pl.bd_mul _ _ h3 h2
  rw [hT] at b5
  have b6 := Pl.bd_mul _ _ b5 h2
  rw [hZ] at b6
  obtain ⟨u1, u2⟩ := b1
  obtain ⟨v1, v2⟩ := b2
  obtain ⟨r1, r2⟩ := b3
  obtain ⟨s1, s2⟩ := b4
  obtain ⟨t1, t2⟩ := b5
  obtain ⟨z1, z2⟩ := b6
  obtain ⟨i1, i2⟩ := h1
  obtain ⟨i3, i4⟩ := h2
  have w1 : (-c < 2 * b) ∨ ¬ (-c < 2 * b) := Classical.em _
  have w2 : (c ≤ -2 * b) ∨ ¬ (c ≤ -2 * b) := Classical.em _
  by_cases k1 : 0 < b
  · by_cases k2 : c ≤ 0
    · by_cases k3 : -c < 2 * b
      · rw [if_pos ⟨k1, k2, k3⟩]
        clear w1 w2
        go_enter Try.func52, Try.ntmps52
        go_wp2_with fail
        all_goals exact bodyPost_ret (by simp [results, Try.results52, go_sem]) rfl ⟨rfl, by repeat (first | exact Grown.refl _ | apply Grown.drew | apply Grown.alloc)⟩
      · rw [if_neg (fun h => k3 h.2.2), if_neg (by omega)]
        clear w1 w2
        go_enter Try.func52, Try.ntmps52
        go_wp2_with fail
        all_goals exact bodyPost_ret (by simp [results, Try.results52, go_sem]) rfl ⟨rfl, by repeat (first | exact Grown.refl _ | apply Grown.drew | apply Grown.alloc)⟩
    · rw [if_neg (fun h => k2 h.2.1), if_neg (by omega)]
      clear w1 w2
      go_enter Try.func52, Try.ntmps52
      go_wp2_with fail
      all_goals exact bodyPost_ret (by simp [results, Try.results52, go_sem]) rfl ⟨rfl, by repeat (first | exact Grown.refl _ | apply Grown.drew | apply Grown.alloc)⟩
  · rw [if_neg (fun h => k1 h.1)]
    by_cases k2 : b < 0
    · by_cases k3 : 0 < c
      · by_cases k4 : c ≤ -2 * b
        · rw [if_pos ⟨k2, k3, k4⟩]
          clear w1 w2
          go_enter Try.func52, Try.ntmps52
          go_wp2_with fail
          all_goals exact bodyPost_ret (by simp [results, Try.results52, go_sem]) rfl ⟨rfl, by repeat (first | exact Grown.refl _ | apply Grown.drew | apply Grown.alloc)⟩
        · rw [if_neg (fun h => k4 h.2.2)]
          clear w1 w2
          go_enter Try.func52, Try.ntmps52
          go_wp2_with fail
          all_goals exact bodyPost_ret (by simp [results, Try.results52, go_sem]) rfl ⟨rfl, by repeat (first | exact Grown.refl _ | apply Grown.drew | apply Grown.alloc)⟩
      · rw [if_neg (fun h => k3 h.2.1)]
        clear w1 w2
        go_enter Try.func52, Try.ntmps52
        go_wp2_with fail
        all_goals exact bodyPost_ret (by simp [results, Try.results52, go_sem]) rfl ⟨rfl, by repeat (first | exact Grown.refl _ | apply Grown.drew | apply Grown.alloc)⟩
    · rw [if_neg (fun h => k2 h.1)]
      clear w1 w2
      go_enter Try.func52, Try.ntmps52
      go_wp2_with fail
      all_goals exact bodyPost_ret (by simp [results, Try.results52, go_sem]) rfl ⟨rfl, by repeat (first | exact Grown.refl _ | apply Grown.drew | apply Grown.alloc)⟩
theorem even_any (b c ax bx x0 : Int) (h1 : -16382 ≤ b ∧ b ≤ 16382) (h2 : -16382 ≤ c ∧ c ≤ 16382) (h3 : -32764 ≤ ax ∧ ax ≤ 32764) (h4 : -16382 ≤ bx ∧ bx ≤ 16382) (h5 : -8191 ≤ x0 ∧ x0 ≤ 8191) (W : World) :
    Calls Try.prog 52 #[.int .i64 b, .int .i64 c, .int .i64 ax, .int .i64 bx, .int .i64 x0] W fun en w' => en = .returned (spv (Pl.evenS b c ax bx x0)) ∧ Grown W w' := by
  refine (even_core b c ax bx x0 _ _ _ _ _ _ h1 h2 h3 h4 h5 rfl rfl rfl rfl rfl rfl W).mono fun en w' hh => ⟨?_, hh.2⟩
  rw [hh.1]
  unfold Pl.evenS
  split
  · rfl
  · split <;> rfl
end Go.Proofs.Ytnienpalbfgflaa
