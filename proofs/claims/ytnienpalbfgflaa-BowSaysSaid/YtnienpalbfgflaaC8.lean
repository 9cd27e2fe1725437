/- The reference's even (layer 26). -/
import Derived.Test.YtnienpalbfgflaaC7
namespace Go.Proofs.Ytnienpalbfgflaa
set_option linter.unusedVariables false
open Go.RowKit

set_option maxHeartbeats 4000000 in
theorem even26_no (x0 y0 : Int) (bb : Bool) (cx cy x1 y1 b c : Int) (h1 : -8191 ≤ x0 ∧ x0 ≤ 8191) (h3 : -8191 ≤ cx ∧ cx ≤ 8191) (h5 : -8191 ≤ x1 ∧ x1 ≤ 8191) (hb : -16382 ≤ b ∧ b ≤ 16382) (hcb : -16382 ≤ c ∧ c ≤ 16382) (hb0 : b ≠ 0)
    (hc : (0 < b ∧ 0 < c) ∨ (0 < b ∧ c ≤ 0 ∧ 2 * b < -c) ∨ (0 < b ∧ c ≤ 0 ∧ -c = 2 * b) ∨ (b < 0 ∧ c < 0) ∨ (b < 0 ∧ 0 < c ∧ -2 * b < c) ∨ (b < 0 ∧ c = 0)) (W : World) :
    Calls Try.prog 46 #[.agg #[.int .i64 x0, .int .i64 y0, .bool bb, .int .i64 cx, .int .i64 cy, .int .i64 x1, .int .i64 y1], .int .i64 b, .int .i64 c] W fun en w' => en = .returned (.slice none 0 0) ∧ Grown W w' := by
  have G := Lib.hid (Grown.refl W)
  clear hb0
  rcases hc with ⟨p1, p2⟩ | ⟨p1, p2, p3⟩ | ⟨p1, p2, p3⟩ | ⟨p1, p2⟩ | ⟨p1, p2, p3⟩ | ⟨p1, rfl⟩
  · go_enter Try.func46, Try.ntmps46
    go_wp2_with fail
    go_ret
    exact ⟨rfl, G.out.alloc _ _⟩
  · go_enter Try.func46, Try.ntmps46
    go_wp2_with fail
    go_ret
    exact ⟨rfl, G.out.alloc _ _⟩
  · have hq : (-c == 2 * b) = true := beq_iff_eq.2 p3
    have p4 : -c ≤ 2 * b := by omega
    clear p3
    go_enter Try.func46, Try.ntmps46
    go_wp2_with fail
    go_ret
    exact ⟨rfl, G.out.alloc _ _⟩
  · go_enter Try.func46, Try.ntmps46
    go_wp2_with fail
    go_ret
    exact ⟨rfl, G.out.alloc _ _⟩
  · go_enter Try.func46, Try.ntmps46
    go_wp2_with fail
    go_ret
    exact ⟨rfl, G.out.alloc _ _⟩
  · go_enter Try.func46, Try.ntmps46
    go_wp2_with fail
    go_ret
    exact ⟨rfl, G.out.alloc _ _⟩
set_option maxHeartbeats 4000000 in
theorem even26_up (x0 y0 : Int) (bb : Bool) (cx cy x1 y1 b c u1 u2 v1 v2 w1 w2 M : Int) (h1 : -8191 ≤ x0 ∧ x0 ≤ 8191) (h3 : -8191 ≤ cx ∧ cx ≤ 8191) (h5 : -8191 ≤ x1 ∧ x1 ≤ 8191) (hb : -16382 ≤ b ∧ b ≤ 16382) (hcb : -16382 ≤ c ∧ c ≤ 16382)
    (hc : 0 < b ∧ c ≤ 0 ∧ -c < 2 * b) (hu1 : x0 * (2 * b) = u1) (hu2 : u1 * (2 * b) = u2) (hv1 : 2 * (cx - x0) * -c = v1) (hv2 : v1 * (2 * b) = v2) (hw1 : (x0 - 2 * cx + x1) * -c = w1) (hw2 : w1 * -c = w2) (hM : 2 * b * (2 * b) = M) (W : World) :
    Calls Try.prog 46 #[.agg #[.int .i64 x0, .int .i64 y0, .bool bb, .int .i64 cx, .int .i64 cy, .int .i64 x1, .int .i64 y1], .int .i64 b, .int .i64 c] W fun en w' => ∃ v, en = .returned v ∧ RowH w' v [⟨1, u2 + v2 + w2, 0, 0, M⟩] ∧ Grown W w' := by
  have G := Lib.hid (Grown.refl W)
  obtain ⟨p1, p2, p3⟩ := hc
  have q1 := Pl.bd_mul 8191 32764 h1 (show -32764 ≤ 2 * b ∧ 2 * b ≤ 32764 by omega)
  rw [hu1] at q1
  have q2 := Pl.bd_mul _ 32764 q1 (show -32764 ≤ 2 * b ∧ 2 * b ≤ 32764 by omega)
  rw [hu2] at q2
  have q3 := Pl.bd_mul 32764 16382 (show -32764 ≤ 2 * (cx - x0) ∧ 2 * (cx - x0) ≤ 32764 by omega) (show -16382 ≤ -c ∧ -c ≤ 16382 by omega)
  rw [hv1] at q3
  have q4 := Pl.bd_mul _ 32764 q3 (show -32764 ≤ 2 * b ∧ 2 * b ≤ 32764 by omega)
  rw [hv2] at q4
  have q5 := Pl.bd_mul 32764 16382 (show -32764 ≤ x0 - 2 * cx + x1 ∧ x0 - 2 * cx + x1 ≤ 32764 by omega) (show -16382 ≤ -c ∧ -c ≤ 16382 by omega)
  rw [hw1] at q5
  have q6 := Pl.bd_mul _ 16382 q5 (show -16382 ≤ -c ∧ -c ≤ 16382 by omega)
  rw [hw2] at q6
  have q7 := Pl.bd_mul 32764 32764 (show -32764 ≤ 2 * b ∧ 2 * b ≤ 32764 by omega) (show -32764 ≤ 2 * b ∧ 2 * b ≤ 32764 by omega)
  rw [hM] at q7
  have hq : (-c == 2 * b) = false := beq_eq_false_iff_ne.2 (by omega)
  go_enter Try.func46, Try.ntmps46
  go_wp2_with fail
  go_quiet (fail)
  go_wp2_with fail
  refine bodyPost_ret (v := _) (by simp [results, Try.results46, go_sem]; rfl) rfl ⟨_, rfl, ?_, ?_⟩
  · exact rowH_one _ _ _ _ _ _ _ _ (by simp)
  · exact (grown_drewN (G.out.alloc _ _) _).alloc _ _
set_option maxHeartbeats 4000000 in
theorem even26_dn (x0 y0 : Int) (bb : Bool) (cx cy x1 y1 b c u1 u2 v1 v2 w1 w2 M : Int) (h1 : -8191 ≤ x0 ∧ x0 ≤ 8191) (h3 : -8191 ≤ cx ∧ cx ≤ 8191) (h5 : -8191 ≤ x1 ∧ x1 ≤ 8191) (hb : -16382 ≤ b ∧ b ≤ 16382) (hcb : -16382 ≤ c ∧ c ≤ 16382)
    (hc : b < 0 ∧ 0 < c ∧ c ≤ -2 * b) (hu1 : x0 * (-2 * b) = u1) (hu2 : u1 * (-2 * b) = u2) (hv1 : 2 * (cx - x0) * c = v1) (hv2 : v1 * (-2 * b) = v2) (hw1 : (x0 - 2 * cx + x1) * c = w1) (hw2 : w1 * c = w2) (hM : -2 * b * (-2 * b) = M) (W : World) :
    Calls Try.prog 46 #[.agg #[.int .i64 x0, .int .i64 y0, .bool bb, .int .i64 cx, .int .i64 cy, .int .i64 x1, .int .i64 y1], .int .i64 b, .int .i64 c] W fun en w' => ∃ v, en = .returned v ∧ RowH w' v [⟨-1, u2 + v2 + w2, 0, 0, M⟩] ∧ Grown W w' := by
  have G := Lib.hid (Grown.refl W)
  obtain ⟨p1, p2, p3⟩ := hc
  have q1 := Pl.bd_mul 8191 32764 h1 (show -32764 ≤ -2 * b ∧ -2 * b ≤ 32764 by omega)
  rw [hu1] at q1
  have q2 := Pl.bd_mul _ 32764 q1 (show -32764 ≤ -2 * b ∧ -2 * b ≤ 32764 by omega)
  rw [hu2] at q2
  have q3 := Pl.bd_mul 32764 16382 (show -32764 ≤ 2 * (cx - x0) ∧ 2 * (cx - x0) ≤ 32764 by omega) (show -16382 ≤ c ∧ c ≤ 16382 by omega)
  rw [hv1] at q3
  have q4 := Pl.bd_mul _ 32764 q3 (show -32764 ≤ -2 * b ∧ -2 * b ≤ 32764 by omega)
  rw [hv2] at q4
  have q5 := Pl.bd_mul 32764 16382 (show -32764 ≤ x0 - 2 * cx + x1 ∧ x0 - 2 * cx + x1 ≤ 32764 by omega) (show -16382 ≤ c ∧ c ≤ 16382 by omega)
  rw [hw1] at q5
  have q6 := Pl.bd_mul _ 16382 q5 (show -16382 ≤ c ∧ c ≤ 16382 by omega)
  rw [hw2] at q6
  have q7 := Pl.bd_mul 32764 32764 (show -32764 ≤ -2 * b ∧ -2 * b ≤ 32764 by omega) (show -32764 ≤ -2 * b ∧ -2 * b ≤ 32764 by omega)
  rw [hM] at q7
  have hq : (c == 0) = false := beq_eq_false_iff_ne.2 (by omega)
  go_enter Try.func46, Try.ntmps46
  go_wp2_with fail
  go_quiet (fail)
  go_wp2_with fail
  refine bodyPost_ret (v := _) (by simp [results, Try.results46, go_sem]; rfl) rfl ⟨_, rfl, ?_, ?_⟩
  · exact rowH_one _ _ _ _ _ _ _ _ (by simp)
  · exact (grown_drewN (G.out.alloc _ _) _).alloc _ _
theorem even26_any (e : Pl.Ed) (b c : Int) (he : Pl.crd e.x0 ∧ Pl.crd e.y0 ∧ Pl.crd e.cx ∧ Pl.crd e.cy ∧ Pl.crd e.x1 ∧ Pl.crd e.y1) (hb : -16382 ≤ b ∧ b ≤ 16382) (hcb : -16382 ≤ c ∧ c ≤ 16382) (hb0 : b ≠ 0) (W : World) :
    Calls Try.prog 46 #[edv e, .int .i64 b, .int .i64 c] W fun en w' => ∃ v, en = .returned v ∧ RowH w' v (Pl.nz (Pl.evenS b c (e.x0 - 2 * e.cx + e.x1) (e.cx - e.x0) e.x0, Pl.Sp.z)) ∧ Grown W w' := by
  obtain ⟨x0, y0, bb, cx, cy, x1, y1⟩ := e
  obtain ⟨h1, h2, h3, h4, h5, h6⟩ := he
  simp only at *
  unfold Pl.evenS Pl.nz
  by_cases c1 : 0 < b ∧ c ≤ 0 ∧ -c < 2 * b
  · rw [if_pos c1]
    refine (even26_up x0 y0 bb cx cy x1 y1 b c _ _ _ _ _ _ _ h1 h3 h5 hb hcb c1 rfl rfl rfl rfl rfl rfl rfl W).mono ?_
    rintro en w' ⟨v, hv, r, g⟩
    refine ⟨v, hv, ?_, g⟩
    have e1 : x0 * (2 * b) * (2 * b) + 2 * (cx - x0) * -c * (2 * b) + (x0 - 2 * cx + x1) * -c * -c = 4 * b * b * x0 - 4 * b * c * (cx - x0) + (x0 - 2 * cx + x1) * c * c := by grind
    have e2 : 2 * b * (2 * b) = 4 * b * b := by grind
    rw [e1, e2] at r
    simpa [Pl.Sp.z] using r
  · rw [if_neg c1]
    by_cases c2 : b < 0 ∧ 0 < c ∧ c ≤ -2 * b
    · rw [if_pos c2]
      refine (even26_dn x0 y0 bb cx cy x1 y1 b c _ _ _ _ _ _ _ h1 h3 h5 hb hcb c2 rfl rfl rfl rfl rfl rfl rfl W).mono ?_
      rintro en w' ⟨v, hv, r, g⟩
      refine ⟨v, hv, ?_, g⟩
      have e1 : x0 * (-2 * b) * (-2 * b) + 2 * (cx - x0) * c * (-2 * b) + (x0 - 2 * cx + x1) * c * c = 4 * b * b * x0 - 4 * b * c * (cx - x0) + (x0 - 2 * cx + x1) * c * c := by grind
      have e2 : -2 * b * (-2 * b) = 4 * b * b := by grind
      rw [e1, e2] at r
      simpa [Pl.Sp.z] using r
    · rw [if_neg c2]
      refine (even26_no x0 y0 bb cx cy x1 y1 b c h1 h3 h5 hb hcb hb0 (by omega) W).mono ?_
      rintro en w' ⟨rfl, g⟩
      exact ⟨_, rfl, .inl ⟨by simp [Pl.Sp.z], rfl⟩, g⟩
end Go.Proofs.Ytnienpalbfgflaa
