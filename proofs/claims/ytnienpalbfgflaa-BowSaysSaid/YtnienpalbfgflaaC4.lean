/- The reference's IsEdge, Flip, Far (layer 25). -/
import Derived.Test.YtnienpalbfgflaaC3
namespace Go.Proofs.Ytnienpalbfgflaa
set_option linter.unusedVariables false
open Go.RowKit

set_option maxHeartbeats 4000000 in
theorem isedge_core (x0 y0 cx cy x1 y1 : Int) (b p q r z1 z2 : Bool) (hp : Hid (decide (Pl.crd x0 ∧ Pl.crd y0) = p)) (hq : Hid (decide (Pl.crd cx ∧ Pl.crd cy) = q)) (hr : Hid (decide (Pl.crd x1 ∧ Pl.crd y1) = r)) (h1 : (cx == 0) = z1) (h2 : (cy == 0) = z2) (W : World) :
    Calls Try.prog 29 #[.agg #[.int .i64 x0, .int .i64 y0, .bool b, .int .i64 cx, .int .i64 cy, .int .i64 x1, .int .i64 y1]] W fun en w' => en = .returned (.bool (if b then (p && (q && r)) else (p && (r && (z1 && z2))))) ∧ Grown W w' := by
  have C1 := Lib.hid (fun Z => coords25_any x0 y0 Z)
  have C2 := Lib.hid (fun Z => coords25_any cx cy Z)
  have C3 := Lib.hid (fun Z => coords25_any x1 y1 Z)
  rw [hp.out] at C1
  rw [hq.out] at C2
  rw [hr.out] at C3
  clear hp hq hr
  have G := Lib.hid (fun Z => Grown.refl Z)
  cases b
  · cases p
    · go_enter Try.func29, Try.ntmps29
      go_wp2_with fail
      refine (C1.out _).mono ?_
      rintro en w1 ⟨rfl, rfl⟩
      go_wp2_with fail
      go_ret
      exact ⟨rfl, (G.out _).alloc _ _⟩
    · cases r
      · go_enter Try.func29, Try.ntmps29
        go_wp2_with fail
        refine (C1.out _).mono ?_
        rintro en w1 ⟨rfl, rfl⟩
        go_wp2_with fail
        refine (C3.out _).mono ?_
        rintro en w1 ⟨rfl, rfl⟩
        go_wp2_with fail
        go_ret
        exact ⟨rfl, (G.out _).alloc _ _⟩
      · cases z1 <;> cases z2
        all_goals
          go_enter Try.func29, Try.ntmps29
          go_wp2_with fail
          refine (C1.out _).mono ?_
          rintro en w1 ⟨rfl, rfl⟩
          go_wp2_with fail
          refine (C3.out _).mono ?_
          rintro en w1 ⟨rfl, rfl⟩
          go_wp2_with fail
          go_ret
          exact ⟨rfl, (G.out _).alloc _ _⟩
  · cases p
    · go_enter Try.func29, Try.ntmps29
      go_wp2_with fail
      refine (C1.out _).mono ?_
      rintro en w1 ⟨rfl, rfl⟩
      go_wp2_with fail
      go_ret
      exact ⟨rfl, (G.out _).alloc _ _⟩
    · cases q
      · go_enter Try.func29, Try.ntmps29
        go_wp2_with fail
        refine (C1.out _).mono ?_
        rintro en w1 ⟨rfl, rfl⟩
        go_wp2_with fail
        refine (C2.out _).mono ?_
        rintro en w1 ⟨rfl, rfl⟩
        go_wp2_with fail
        go_ret
        exact ⟨rfl, (G.out _).alloc _ _⟩
      · go_enter Try.func29, Try.ntmps29
        go_wp2_with fail
        refine (C1.out _).mono ?_
        rintro en w1 ⟨rfl, rfl⟩
        go_wp2_with fail
        refine (C2.out _).mono ?_
        rintro en w1 ⟨rfl, rfl⟩
        go_wp2_with fail
        refine (C3.out _).mono ?_
        rintro en w1 ⟨rfl, rfl⟩
        go_wp2_with fail
        go_ret
        exact ⟨by cases r <;> rfl, (G.out _).alloc _ _⟩
theorem isedge25_any (e : Pl.Ed) (W : World) : Calls Try.prog 29 #[edv e] W fun en w' => en = .returned (.bool (decide e.may)) ∧ Grown W w' := by
  obtain ⟨x0, y0, b, cx, cy, x1, y1⟩ := e
  refine (isedge_core x0 y0 cx cy x1 y1 b _ _ _ _ _ (Lib.hid rfl) (Lib.hid rfl) (Lib.hid rfl) rfl rfl W).mono ?_
  rintro en w' ⟨rfl, g⟩
  refine ⟨?_, g⟩
  congr 2
  rw [Bool.eq_iff_iff]
  have z : Pl.crd 0 := by unfold Pl.crd; omega
  cases b
  · simp only [Bool.false_eq_true, if_false, Bool.and_eq_true, decide_eq_true_eq, beq_iff_eq, Pl.Ed.may]
    constructor
    · rintro ⟨⟨h1, h2⟩, ⟨h3, h4⟩, rfl, rfl⟩; exact ⟨h1, h2, z, z, h3, h4, .inr ⟨rfl, rfl⟩⟩
    · rintro ⟨h1, h2, _, _, h3, h4, h | ⟨rfl, rfl⟩⟩
      · cases h
      · exact ⟨⟨h1, h2⟩, ⟨h3, h4⟩, rfl, rfl⟩
  · simp only [if_true, Bool.and_eq_true, decide_eq_true_eq, Pl.Ed.may]
    constructor
    · rintro ⟨⟨h1, h2⟩, ⟨h3, h4⟩, h5, h6⟩; exact ⟨h1, h2, h3, h4, h5, h6, .inl (by first | trivial | rfl)⟩
    · rintro ⟨h1, h2, h3, h4, h5, h6, _⟩; exact ⟨⟨h1, h2⟩, ⟨h3, h4⟩, h5, h6⟩
theorem flip25_any (e : Pl.Ed) (W : World) : Calls Try.prog 31 #[edv e] W fun en w' => en = .returned (edv e.flip) ∧ Grown W w' := by
  obtain ⟨x0, y0, b, cx, cy, x1, y1⟩ := e
  have G := Lib.hid (fun A t => (Grown.refl W).alloc A t)
  unfold edv
  go_enter Try.func31, Try.ntmps31
  go_wp2_with fail
  refine bodyPost_ret (v := edv (Pl.Ed.flip ⟨x0, y0, b, cx, cy, x1, y1⟩)) (by simp [results, Try.results31, go_sem, edv, Pl.Ed.flip]) rfl ⟨rfl, ?_⟩
  first | exact (G.out _ _).alloc _ _ | exact G.out _ _ | exact Grown.refl W
theorem far25_any (v : Int) (r : Bool) (hr : (v < -16382 ∨ 16382 < v) ↔ r = true) (W : World) : Calls Try.prog 39 #[.int .i64 v] W fun en w' => en = .returned (.bool r) ∧ W = w' := by
  rcases Int.lt_or_le v (-16382) with h | h
  · obtain rfl : r = true := hr.1 (.inl h)
    clear hr
    go_enter Try.func39, Try.ntmps39
    go_wp2_with fail
    go_ret
    exact ⟨rfl, rfl⟩
  · rcases Int.lt_or_le 16382 v with h2 | h2
    · obtain rfl : r = true := hr.1 (.inr h2)
      clear hr
      go_enter Try.func39, Try.ntmps39
      go_wp2_with fail
      go_ret
      exact ⟨rfl, rfl⟩
    · obtain rfl : r = false := by
        cases r
        · rfl
        · have := hr.2 rfl; omega
      clear hr
      go_enter Try.func39, Try.ntmps39
      go_wp2_with fail
      go_ret
      exact ⟨by simp [decide_eq_false (show ¬ v < -16382 by omega), decide_eq_false (show ¬ 16382 < v by omega)], rfl⟩
end Go.Proofs.Ytnienpalbfgflaa
