/- The reference's straight (layer 26): a row of hits. -/
import Derived.Test.YtnienpalbfgflaaC6
namespace Go.Proofs.Ytnienpalbfgflaa
set_option linter.unusedVariables false
open Go.RowKit

def Pl.sc (s : Pl.Sp) : List Value := [.int .i64 s.t, .int .i64 s.p, .int .i64 s.q, .int .i64 s.d, .int .i64 s.m]
/-- a row of hits -/
def RowH (W : World) (v : Value) (L : List Pl.Sp) : Prop :=
  (L = [] ∧ v = .slice none 0 0) ∨ ∃ g cap, v = .slice (some ⟨g, 0, none⟩) L.length cap ∧ L.length ≤ cap ∧ g < W.heap.size ∧ ∀ (j : Nat) (s : Pl.Sp), L[j]? = some s → W.cell? ⟨g, j * 5, none⟩ = some (.int .i64 s.t) ∧ W.cell? ⟨g, j * 5 + 1, none⟩ = some (.int .i64 s.p) ∧ W.cell? ⟨g, j * 5 + 2, none⟩ = some (.int .i64 s.q) ∧ W.cell? ⟨g, j * 5 + 3, none⟩ = some (.int .i64 s.d) ∧ W.cell? ⟨g, j * 5 + 4, none⟩ = some (.int .i64 s.m)
theorem rowH_one (Z : World) (t p q d m : Int) (ty : TypeId) (g : Nat) (hg : g = Z.heap.size) : RowH (Z.alloc (.cells #[.int .i64 t, .int .i64 p, .int .i64 q, .int .i64 d, .int .i64 m] ty)) (.slice (some ⟨g, 0, none⟩) 1 1) [⟨t, p, q, d, m⟩] := by
  subst hg
  refine .inr ⟨_, _, rfl, by simp, by simp, fun j s hj => ?_⟩
  have hl := (List.getElem?_eq_some_iff.1 hj).1
  simp at hl
  subst hl
  simp at hj
  subst hj
  refine ⟨?_, ?_, ?_, ?_, ?_⟩ <;> (rw [World.cell?_alloc_mark]; rfl)
def Pl.nz (P : Pl.Sp × Pl.Sp) : List Pl.Sp := (if P.1.t = 0 then [] else [P.1]) ++ (if P.2.t = 0 then [] else [P.2])

set_option maxHeartbeats 4000000 in
theorem straight26_no (x0 y0 : Int) (bb : Bool) (cx cy x1 y1 y : Int) (h1 : -8191 ≤ x0 ∧ x0 ≤ 8191) (h2 : -8191 ≤ y0 ∧ y0 ≤ 8191) (h5 : -8191 ≤ x1 ∧ x1 ≤ 8191) (h6 : -8191 ≤ y1 ∧ y1 ≤ 8191) (hy : -8191 ≤ y ∧ y ≤ 8191)
    (hc : y0 = y1 ∨ (y0 < y1 ∧ y < y0) ∨ (y0 < y1 ∧ y1 ≤ y) ∨ (y1 < y0 ∧ y < y1) ∨ (y1 < y0 ∧ y0 ≤ y)) (W : World) :
    Calls Try.prog 45 #[.agg #[.int .i64 x0, .int .i64 y0, .bool bb, .int .i64 cx, .int .i64 cy, .int .i64 x1, .int .i64 y1], .int .i64 y] W fun en w' => en = .returned (.slice none 0 0) ∧ Grown W w' := by
  have G := Lib.hid (Grown.refl W)
  rcases hc with rfl | ⟨h, h'⟩ | ⟨h, h'⟩ | ⟨h, h'⟩ | ⟨h, h'⟩
  · go_enter Try.func45, Try.ntmps45
    go_wp2_with fail
    go_ret
    exact ⟨rfl, G.out.alloc _ _⟩
  all_goals
    have hne : (y1 - y0 == 0) = false := beq_eq_false_iff_ne.2 (by omega)
    go_enter Try.func45, Try.ntmps45
    go_wp2_with fail
    go_ret
    exact ⟨rfl, G.out.alloc _ _⟩
set_option maxHeartbeats 4000000 in
theorem straight26_up (x0 y0 : Int) (bb : Bool) (cx cy x1 y1 y u1 u2 : Int) (h1 : -8191 ≤ x0 ∧ x0 ≤ 8191) (h2 : -8191 ≤ y0 ∧ y0 ≤ 8191) (h5 : -8191 ≤ x1 ∧ x1 ≤ 8191) (h6 : -8191 ≤ y1 ∧ y1 ≤ 8191) (hy : -8191 ≤ y ∧ y ≤ 8191)
    (hc : y0 ≤ y ∧ y < y1) (hu1 : x0 * (y1 - y0) = u1) (hu2 : (x1 - x0) * (y - y0) = u2) (W : World) :
    Calls Try.prog 45 #[.agg #[.int .i64 x0, .int .i64 y0, .bool bb, .int .i64 cx, .int .i64 cy, .int .i64 x1, .int .i64 y1], .int .i64 y] W fun en w' => ∃ v, en = .returned v ∧ RowH w' v [⟨1, u1 + u2, 0, 0, y1 - y0⟩] ∧ Grown W w' := by
  have G := Lib.hid (Grown.refl W)
  have q1 := Pl.bd_mul 8191 16382 h1 (show -16382 ≤ y1 - y0 ∧ y1 - y0 ≤ 16382 by omega)
  rw [hu1] at q1
  have q2 := Pl.bd_mul 16382 16382 (show -16382 ≤ x1 - x0 ∧ x1 - x0 ≤ 16382 by omega) (show -16382 ≤ y - y0 ∧ y - y0 ≤ 16382 by omega)
  rw [hu2] at q2
  have hne : (y1 - y0 == 0) = false := beq_eq_false_iff_ne.2 (by omega)
  go_enter Try.func45, Try.ntmps45
  go_wp2_with fail
  refine bodyPost_ret (v := _) (by simp [results, Try.results45, go_sem]; rfl) rfl ⟨_, rfl, ?_, ?_⟩
  · exact rowH_one _ _ _ _ _ _ _ _ (by simp)
  · exact (G.out.alloc _ _).alloc _ _
set_option maxHeartbeats 4000000 in
theorem straight26_dn (x0 y0 : Int) (bb : Bool) (cx cy x1 y1 y u1 u2 : Int) (h1 : -8191 ≤ x0 ∧ x0 ≤ 8191) (h2 : -8191 ≤ y0 ∧ y0 ≤ 8191) (h5 : -8191 ≤ x1 ∧ x1 ≤ 8191) (h6 : -8191 ≤ y1 ∧ y1 ≤ 8191) (hy : -8191 ≤ y ∧ y ≤ 8191)
    (hc : y1 ≤ y ∧ y < y0) (hu1 : x0 * (y1 - y0) = u1) (hu2 : (x1 - x0) * (y - y0) = u2) (W : World) :
    Calls Try.prog 45 #[.agg #[.int .i64 x0, .int .i64 y0, .bool bb, .int .i64 cx, .int .i64 cy, .int .i64 x1, .int .i64 y1], .int .i64 y] W fun en w' => ∃ v, en = .returned v ∧ RowH w' v [⟨-1, -(u1 + u2), 0, 0, -(y1 - y0)⟩] ∧ Grown W w' := by
  have G := Lib.hid (Grown.refl W)
  have q1 := Pl.bd_mul 8191 16382 h1 (show -16382 ≤ y1 - y0 ∧ y1 - y0 ≤ 16382 by omega)
  rw [hu1] at q1
  have q2 := Pl.bd_mul 16382 16382 (show -16382 ≤ x1 - x0 ∧ x1 - x0 ≤ 16382 by omega) (show -16382 ≤ y - y0 ∧ y - y0 ≤ 16382 by omega)
  rw [hu2] at q2
  have hne : (y1 - y0 == 0) = false := beq_eq_false_iff_ne.2 (by omega)
  go_enter Try.func45, Try.ntmps45
  go_wp2_with fail
  refine bodyPost_ret (v := _) (by simp [results, Try.results45, go_sem]; rfl) rfl ⟨_, rfl, ?_, ?_⟩
  · exact rowH_one _ _ _ _ _ _ _ _ (by simp)
  · exact (G.out.alloc _ _).alloc _ _
theorem straight26_any (e : Pl.Ed) (y : Int) (he : Pl.crd e.x0 ∧ Pl.crd e.y0 ∧ Pl.crd e.cx ∧ Pl.crd e.cy ∧ Pl.crd e.x1 ∧ Pl.crd e.y1) (hy : Pl.crd y) (W : World) :
    Calls Try.prog 45 #[edv e, .int .i64 y] W fun en w' => ∃ v, en = .returned v ∧ RowH w' v (Pl.nz (Pl.straightS e.x0 e.y0 e.x1 e.y1 y, Pl.Sp.z)) ∧ Grown W w' := by
  obtain ⟨x0, y0, bb, cx, cy, x1, y1⟩ := e
  obtain ⟨h1, h2, h3, h4, h5, h6⟩ := he
  simp only at *
  unfold Pl.straightS Pl.nz
  by_cases c1 : y0 ≤ y ∧ y < y1
  · rw [if_pos c1]
    simpa [Pl.Sp.z] using straight26_up x0 y0 bb cx cy x1 y1 y _ _ h1 h2 h5 h6 hy c1 rfl rfl W
  · rw [if_neg c1]
    by_cases c2 : y1 ≤ y ∧ y < y0
    · rw [if_pos c2]
      simpa [Pl.Sp.z] using straight26_dn x0 y0 bb cx cy x1 y1 y _ _ h1 h2 h5 h6 hy c2 rfl rfl W
    · rw [if_neg c2]
      refine (straight26_no x0 y0 bb cx cy x1 y1 y h1 h2 h5 h6 hy (by omega) W).mono ?_
      rintro en w' ⟨rfl, g⟩
      exact ⟨_, rfl, .inl ⟨by simp [Pl.Sp.z], rfl⟩, g⟩
end Go.Proofs.Ytnienpalbfgflaa
