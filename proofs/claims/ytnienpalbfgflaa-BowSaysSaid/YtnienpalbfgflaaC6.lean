/- The reference's hit, Above (layer 26). -/
import Derived.Test.YtnienpalbfgflaaC5
import Derived.Deep.QuietTactic
namespace Go.Proofs.Ytnienpalbfgflaa
set_option linter.unusedVariables false
open Go.RowKit

/-- a spot as the reference's hit -/
def hv (s : Pl.Sp) : Value := .agg #[.int .i64 s.t, .int .i64 s.p, .int .i64 s.q, .int .i64 s.d, .int .i64 s.m]
set_option maxHeartbeats 8000000 in
set_option maxRecDepth 100000 in
theorem hit26_core (x0 y0 : Int) (bb : Bool) (cx cy x1 y1 a b s d ax bx B u1 u2 u3 u4 u5 v1 v2 v A : Int) (h1 : -8191 ≤ x0 ∧ x0 ≤ 8191) (h2 : -8191 ≤ y0 ∧ y0 ≤ 8191) (h3 : -8191 ≤ cx ∧ cx ≤ 8191) (h4 : -8191 ≤ cy ∧ cy ≤ 8191) (h5 : -8191 ≤ x1 ∧ x1 ≤ 8191) (h6 : -8191 ≤ y1 ∧ y1 ≤ 8191)
    (bA : -32764 ≤ a ∧ a ≤ 32764) (bB : -16382 ≤ b ∧ b ≤ 16382) (bd : 0 ≤ d ∧ d ≤ 2147483648) (hs : s = 1 ∨ s = -1)
    (hax : x0 - 2 * cx + x1 = ax) (hbx : cx - x0 = bx) (hB : b * b = B)
    (hu1 : x0 * a = u1) (hu2 : u1 * a = u2) (hu3 : 2 * a * b = u3) (hu4 : u3 * bx = u4) (hu5 : ax * (B + d) = u5) (hv1 : 2 * a * bx = v1) (hv2 : 2 * ax * b = v2) (hvv : v1 - v2 = v) (hA : a * a = A) (W : World) :
    Calls Try.prog 49 #[.agg #[.int .i64 x0, .int .i64 y0, .bool bb, .int .i64 cx, .int .i64 cy, .int .i64 x1, .int .i64 y1], .int .i64 a, .int .i64 b, .int .i64 s, .int .i64 d] W fun en w' => en = .returned (hv ⟨s, u2 - u4 + u5, s * v, d, A⟩) ∧ Grown W w' := by
  have bX : -32764 ≤ ax ∧ ax ≤ 32764 := by omega
  have bY : -16382 ≤ bx ∧ bx ≤ 16382 := by omega
  have k1 := Pl.bd_mul _ _ bB bB
  rw [hB] at k1
  have q1 := Pl.bd_mul _ _ h1 bA
  rw [hu1] at q1
  have q2 := Pl.bd_mul _ _ q1 bA
  rw [hu2] at q2
  have q3 := Pl.bd_mul 65528 16382 (show -65528 ≤ 2 * a ∧ 2 * a ≤ 65528 by omega) bB
  rw [hu3] at q3
  have q4 := Pl.bd_mul _ _ q3 bY
  rw [hu4] at q4
  have q5 := Pl.bd_mul 32764 2415919104 bX (show -2415919104 ≤ B + d ∧ B + d ≤ 2415919104 by omega)
  rw [hu5] at q5
  have q6 := Pl.bd_mul 65528 16382 (show -65528 ≤ 2 * a ∧ 2 * a ≤ 65528 by omega) bY
  rw [hv1] at q6
  have q7 := Pl.bd_mul 65528 16382 (show -65528 ≤ 2 * ax ∧ 2 * ax ≤ 65528 by omega) bB
  rw [hv2] at q7
  have q8 := Pl.bd_mul _ _ bA bA
  rw [hA] at q8
  have G := Lib.hid (Grown.refl W)
  rcases hs with rfl | rfl
  all_goals
    go_enter Try.func49, Try.ntmps49
    go_wp2_with fail
    go_quiet (fail)
    go_wp2_with fail
    refine bodyPost_ret (v := _) (by simp [results, Try.results49, go_sem]; rfl) rfl ⟨?_, ?_⟩
    · first
      | rfl
      | (unfold hv; congr 2; simp)
      | (show Ending.returned _ = Ending.returned _; unfold hv; simp)
    · first
      | exact grown_lo (grown_drewN ((G.out.alloc _ _).alloc _ _) _) (by omega)
theorem hit26_any (e : Pl.Ed) (a b s d : Int) (he : Pl.crd e.x0 ∧ Pl.crd e.y0 ∧ Pl.crd e.cx ∧ Pl.crd e.cy ∧ Pl.crd e.x1 ∧ Pl.crd e.y1) (bA : -32764 ≤ a ∧ a ≤ 32764) (bB : -16382 ≤ b ∧ b ≤ 16382) (bd : 0 ≤ d ∧ d ≤ 2147483648) (hs : s = 1 ∨ s = -1) (W : World) :
    Calls Try.prog 49 #[edv e, .int .i64 a, .int .i64 b, .int .i64 s, .int .i64 d] W fun en w' => en = .returned (hv (Pl.rootS e.x0 a b (e.x0 - 2 * e.cx + e.x1) (e.cx - e.x0) d s)) ∧ Grown W w' := by
  obtain ⟨x0, y0, bb, cx, cy, x1, y1⟩ := e
  obtain ⟨h1, h2, h3, h4, h5, h6⟩ := he
  have h := hit26_core x0 y0 bb cx cy x1 y1 a b s d _ _ _ _ _ _ _ _ _ _ _ _ h1 h2 h3 h4 h5 h6 bA bB bd hs rfl rfl rfl rfl rfl rfl rfl rfl rfl rfl rfl rfl W
  have e2 : 2 * (x0 - 2 * cx + x1) * b = 2 * b * (x0 - 2 * cx + x1) := by grind
  rw [e2] at h
  exact h
theorem above26_ok (t p q d m x : Int) (bx : -8191 ≤ x ∧ x ≤ 8191) (bm : -1073741824 ≤ m ∧ m ≤ 1073741824) (bp : -2305843009213693952 ≤ p ∧ p ≤ 2305843009213693952) (h : Pl.okq q d) (r : Bool) (hr : decide (0 < Pl.rsign (p - x * m) q d) = r) (W : World) :
    Calls Try.prog 37 #[.agg #[.int .i64 t, .int .i64 p, .int .i64 q, .int .i64 d, .int .i64 m], .int .i64 x] W fun en w' => en = .returned (.bool r) ∧ Grown W w' := by
  obtain ⟨xm, hxm⟩ : ∃ v, x * m = v := ⟨_, rfl⟩
  have k := Pl.bd_mul _ _ bx bm
  rw [hxm] at k hr
  have S := Lib.hid (fun Z => sign24_ok (p - xm) q d (by omega) h Z)
  generalize Pl.rsign (p - xm) q d = v at S hr
  clear h
  go_enter Try.func37, Try.ntmps37
  go_wp2_with fail
  refine (S.out _).mono ?_
  rintro en w1 ⟨rfl, g1⟩
  have G1 := Lib.hid (grown_trans ((Grown.refl W).alloc _ _) g1)
  clear g1
  go_wp2_with fail
  go_ret
  exact ⟨by rw [← hr]; first | rfl | simp, G1.out⟩
end Go.Proofs.Ytnienpalbfgflaa
