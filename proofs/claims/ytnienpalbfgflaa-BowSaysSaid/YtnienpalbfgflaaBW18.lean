/- bow.Halve of a straight edge whose halves are whole: the walk. -/
import Derived.Test.YtnienpalbfgflaaBW17
namespace Go.Proofs.Ytnienpalbfgflaa
set_option linter.unusedVariables false
open Go.RowKit

/-- an edge in its block and two in the next ones -/
def B3 (W : World) (A B C : List Value) (Z : World) : Prop := Blk W W.heap.size A Z ∧ Blk W (W.heap.size + 1) B Z ∧ Blk W (W.heap.size + 2) C Z ∧ Grown W Z
theorem B3.start (W : World) (A B C : Array Value) (s t u : TypeId) : B3 W A.toList B.toList C.toList (((W.alloc (.cells A s)).alloc (.cells B t)).alloc (.cells C u)) := by
  refine ⟨((Blk.new A s (Nat.le_refl _)).alloc B t).alloc C u, ?_, ?_, (((Grown.refl W).alloc A s).alloc B t).alloc C u⟩
  · have := (Blk.new (W := W) (Z := W.alloc (.cells A s)) B t (by simp)).alloc C u
    simpa using this
  · have := Blk.new (W := W) (Z := (W.alloc (.cells A s)).alloc (.cells B t)) C u (by simp; omega)
    simpa using this
theorem B3.grow {W Z Z' : World} {A B C : List Value} (h : B3 W A B C Z) (g : Grown Z Z') : B3 W A B C Z' := ⟨h.1.grow g, h.2.1.grow g, h.2.2.1.grow g, grown_trans h.2.2.2 g⟩
theorem mkS {W Z : World} {p q : Nat} {a b c d e i j a' b' c' d' e' i' j' : Value} (h : Blk W p [a, b, c, d, e, i, j] Z) (k : Blk W q [a', b', c', d', e', i', j'] Z) : Z.cell? ⟨p, 0, none⟩ = some (a) ∧ Z.cell? ⟨p, 1, none⟩ = some (b) ∧ Z.cell? ⟨p, 2, none⟩ = some (c) ∧ Z.cell? ⟨p, 3, none⟩ = some (d) ∧ Z.cell? ⟨p, 4, none⟩ = some (e) ∧ Z.cell? ⟨p, 5, none⟩ = some (i) ∧ Z.cell? ⟨p, 6, none⟩ = some (j) ∧ Z.cell? ⟨q, 0, none⟩ = some (a') ∧ Z.cell? ⟨q, 1, none⟩ = some (b') ∧ Z.cell? ⟨q, 2, none⟩ = some (c') ∧ Z.cell? ⟨q, 3, none⟩ = some (d') ∧ Z.cell? ⟨q, 4, none⟩ = some (e') ∧ Z.cell? ⟨q, 5, none⟩ = some (i') ∧ Z.cell? ⟨q, 6, none⟩ = some (j') := by
  obtain ⟨h0, h1, h2, h3, h4, h5, h6⟩ := h.at0
  obtain ⟨k0, k1, k2, k3, k4, k5, k6⟩ := k.at0
  exact ⟨h0, h1, h2, h3, h4, h5, h6, k0, k1, k2, k3, k4, k5, k6⟩
theorem setCell_self {Z : World} {a : Addr} {v : Value} (h : Z.cell? a = some v) : Z.setCell a v = Z := by
  unfold World.cell? at h
  have hh : (Z.setCell a v).heap = Z.heap := by
    unfold World.setCell
    apply Array.ext
    · simp
    · intro i h1 h2
      simp only [Array.getElem_modify]
      split
      · rename_i e
        subst e
        rw [Array.getElem?_eq_getElem h2] at h
        split
        · rename_i c elem frozen e2
          rw [e2] at h
          simp only at h
          rw [e2]
          congr 1
          split
          · rfl
          · rename_i hs
            rw [if_neg hs] at h
            apply Array.ext
            · simp
            · intro j k1 k2
              rw [Array.getElem_setIfInBounds]
              split
              · rename_i e3
                subst e3
                rw [Array.getElem?_eq_getElem k2] at h
                exact (Option.some.inj h).symm
              · rfl
        · rfl
      · rfl
  exact (show Z.setCell a v = { Z with heap := (Z.setCell a v).heap } from rfl).trans (by rw [hh])
set_option maxHeartbeats 4000000 in
set_option maxRecDepth 100000 in
theorem halve_straight (x0 y0 cx cy x1 y1 X Y : Int) (he : Pl.Ed.may ⟨x0, y0, false, cx, cy, x1, y1⟩) (hX : x0 + x1 = 2 * X) (hY : y0 + y1 = 2 * Y) (W : World) :
    Calls Try.prog 25 #[.agg #[.int .i64 x0, .int .i64 y0, .bool false, .int .i64 cx, .int .i64 cy, .int .i64 x1, .int .i64 y1]] W fun en w' => en = .returned (.tuple #[.agg #[.int .i64 x0, .int .i64 y0, .bool false, .int .i64 cx, .int .i64 cy, .int .i64 X, .int .i64 Y], .agg #[.int .i64 X, .int .i64 Y, .bool false, .int .i64 cx, .int .i64 cy, .int .i64 x1, .int .i64 y1], .bool true]) ∧ Fr (fun _ => False) W w' := by
  have K1 := Lib.hid (fun Z => may_any ⟨x0, y0, false, cx, cy, x1, y1⟩ Z)
  rw [decide_eq_true he] at K1
  simp only [edv] at K1
  obtain ⟨a1, a2, a3, a4, a5, a6, _⟩ := he
  unfold Pl.crd at a1 a2 a3 a4 a5 a6
  simp only at a1 a2 a3 a4 a5 a6
  have t1 : bits .and .i64 (2 * X) 1 = 0 := by rw [Pl.and_1_i64]; omega
  have t2 : bits .and .i64 (2 * Y) 1 = 0 := by rw [Pl.and_1_i64]; omega
  have t3 : (2 * X).tdiv 2 = X := Int.mul_tdiv_cancel_left X (by omega)
  have t4 : (2 * Y).tdiv 2 = Y := Int.mul_tdiv_cancel_left Y (by omega)
  have bX : -8191 ≤ X ∧ X ≤ 8191 := by omega
  have bY : -8191 ≤ Y ∧ Y ≤ 8191 := by omega
  go_enter Try.func25, Try.ntmps25
  go_wp2_with fail
  have A0 := Lib.hid (B3.start W #[.int .i64 x0, .int .i64 y0, .bool false, .int .i64 cx, .int .i64 cy, .int .i64 x1, .int .i64 y1] #[.int .i64 0, .int .i64 0, .bool false, .int .i64 0, .int .i64 0, .int .i64 0, .int .i64 0] #[.int .i64 0, .int .i64 0, .bool false, .int .i64 0, .int .i64 0, .int .i64 0, .int .i64 0] 25 25 25)
  refine (K1.out _).mono ?_
  rintro en w1 ⟨rfl, g1⟩
  have A1 := Lib.hid (A0.out.grow g1)
  obtain ⟨p, hp⟩ : ∃ p, p = W.heap.size + 1 := ⟨_, rfl⟩
  obtain ⟨q, hq⟩ : ∃ q, q = W.heap.size + 1 + 1 := ⟨_, rfl⟩
  obtain ⟨r, hr⟩ : ∃ r, r = W.heap.size := ⟨_, rfl⟩
  have BA : Hid (Blk W r [.int .i64 x0, .int .i64 y0, .bool false, .int .i64 cx, .int .i64 cy, .int .i64 x1, .int .i64 y1] w1) := Lib.hid (by rw [hr]; exact A1.out.1)
  have BP : Hid (Blk W p [.int .i64 0, .int .i64 0, .bool false, .int .i64 0, .int .i64 0, .int .i64 0, .int .i64 0] w1) := Lib.hid (by rw [hp]; exact A1.out.2.1)
  have BQ : Hid (Blk W q [.int .i64 0, .int .i64 0, .bool false, .int .i64 0, .int .i64 0, .int .i64 0, .int .i64 0] w1) := Lib.hid (by rw [hq]; exact A1.out.2.2.1)
  have GH := Lib.hid (Fr.of_grown (fun _ => False) A1.out.2.2.2)
  have n1 : r ≠ p := by omega
  have n2 : r ≠ q := by omega
  have n3 : p ≠ q := by omega
  have n4 : p ≠ r := by omega
  have n5 : q ≠ r := by omega
  have n6 : q ≠ p := by omega
  rw [← hq, ← hp, ← hr]
  clear hp hq hr g1 A0 A1 K1
  obtain ⟨c0, c1, c2, c3, c4, c5, c6⟩ := BA.out.at0
  obtain ⟨d0, d1, d2, d3, d4, d5, d6⟩ := BP.out.at0
  obtain ⟨e0, e1, e2, e3, e4, e5, e6⟩ := BQ.out.at0
  have fp := BP.out.2.2.2
  have fq := BQ.out.2.2.2
  go_wp2_with fail
  go_quiet (fail)
  go_wp2_with fail
  generalize hZ1 : World.drewN _ _ = Z1
  have BA1 : Hid (Blk W r [.int .i64 x0, .int .i64 y0, .bool false, .int .i64 cx, .int .i64 cy, .int .i64 x1, .int .i64 y1] Z1) := Lib.hid (by rw [← hZ1]; exact BA.out.drewN _)
  have BP1 : Hid (Blk W p [.int .i64 0, .int .i64 0, .bool false, .int .i64 0, .int .i64 0, .int .i64 0, .int .i64 0] Z1) := Lib.hid (by rw [← hZ1]; exact BP.out.drewN _)
  have BQ1 : Hid (Blk W q [.int .i64 0, .int .i64 0, .bool false, .int .i64 0, .int .i64 0, .int .i64 0, .int .i64 0] Z1) := Lib.hid (by rw [← hZ1]; exact BQ.out.drewN _)
  have G1 : Hid (Fr (fun _ => False) W Z1) := Lib.hid (by rw [← hZ1]; exact GH.out)
  clear hZ1 BA BP BQ GH c0 c1 c2 c3 c4 c5 c6 d0 d1 d2 d3 d4 d5 d6 e0 e1 e2 e3 e4 e5 e6 fp fq
  obtain ⟨c0, c1, c2, c3, c4, c5, c6⟩ := BA1.out.at0
  obtain ⟨d0, d1, d2, d3, d4, d5, d6⟩ := BP1.out.at0
  obtain ⟨e0, e1, e2, e3, e4, e5, e6⟩ := BQ1.out.at0
  have fp := BP1.out.2.2.2
  have fq := BQ1.out.2.2.2
  go_region
  generalize hZ2 : World.setCell _ _ _ = Z2
  have BP2 : Hid (Blk W p [.int .i64 x0, .int .i64 y0, .bool false, .int .i64 cx, .int .i64 cy, .int .i64 x1, .int .i64 y1] Z2) := Lib.hid (by rw [← hZ2]; exact (BP1.out.seven).other_seven n3)
  have BQ2 : Hid (Blk W q [.int .i64 x0, .int .i64 y0, .bool false, .int .i64 cx, .int .i64 cy, .int .i64 x1, .int .i64 y1] Z2) := Lib.hid (by rw [← hZ2]; exact (BQ1.out.other_seven n6).seven)
  have G2 : Hid (Fr (fun _ => False) W Z2) := Lib.hid (by rw [← hZ2]; exact (G1.out.seven BP1.out.1).seven BQ1.out.1)
  clear hZ2 BA1 BP1 BQ1 G1 c0 c1 c2 c3 c4 c5 c6 d0 d1 d2 d3 d4 d5 d6 e0 e1 e2 e3 e4 e5 e6 fp fq
  obtain ⟨d0, d1, d2, d3, d4, d5, d6⟩ := BP2.out.at0
  obtain ⟨e0, e1, e2, e3, e4, e5, e6⟩ := BQ2.out.at0
  have fp := BP2.out.2.2.2
  have fq := BQ2.out.2.2.2
  go_wp2_with fail
  generalize hZ3 : World.drew _ = Z3
  have BP3 : Hid (Blk W p [.int .i64 x0, .int .i64 y0, .bool false, .int .i64 cx, .int .i64 cy, .int .i64 X, .int .i64 Y] Z3) := Lib.hid (by rw [← hZ3]; exact ((((BP2.out.set 5 (by simp) _).set 6 (by simp) _).other n3 _).other n3 _).drew)
  have BQ3 : Hid (Blk W q [.int .i64 X, .int .i64 Y, .bool false, .int .i64 cx, .int .i64 cy, .int .i64 x1, .int .i64 y1] Z3) := Lib.hid (by rw [← hZ3]; exact ((((BQ2.out.other n6 _).other n6 _).set 0 (by simp) _).set 1 (by simp) _).drew)
  have G3 : Hid (Fr (fun _ => False) W Z3) := Lib.hid (by rw [← hZ3]; exact ((((G2.out.setNew BP2.out.1 _).setNew BP2.out.1 _).setNew BQ2.out.1 _).setNew BQ2.out.1 _).drew)
  clear hZ3 BP2 BQ2 G2 d0 d1 d2 d3 d4 d5 d6 e0 e1 e2 e3 e4 e5 e6 fp fq
  obtain ⟨d0, d1, d2, d3, d4, d5, d6⟩ := BP3.out.at0
  obtain ⟨e0, e1, e2, e3, e4, e5, e6⟩ := BQ3.out.at0
  have fp := BP3.out.2.2.2
  have fq := BQ3.out.2.2.2
  have hself : ∀ (Z : World) (a : Addr) (v : Value), Z.cell? a = some v → Z.setCell a v = Z := fun _ _ _ h => setCell_self h
  go_region
  all_goals
    clear hself
    go_wp2_with fail
    exact post_halve (p := p) (q := q) rfl rfl rfl BP3.out.drew BQ3.out.drew rfl ⟨rfl, G3.out.drew⟩
end Go.Proofs.Ytnienpalbfgflaa
