/- The walk of bow.Shift, where nothing wraps. -/
import Derived.Test.YtnienpalbfgflaaBW14
namespace Go.Proofs.Ytnienpalbfgflaa
set_option linter.unusedVariables false
open Go.RowKit

theorem post_shift {R : Ending → World → Prop} {a : Act} {W Z : World} {p : Nat} {x0 y0 cx cy x1 y1 : Int} {b ok : Bool} (hp : a.tmps.getD 6 undef = .pointer (some ⟨p, 0, none⟩)) (h7 : a.tmps.getD 7 undef = .bool ok)
    (hB : Blk W p [.int .i64 x0, .int .i64 y0, .bool b, .int .i64 cx, .int .i64 cy, .int .i64 x1, .int .i64 y1] Z) (hd : a.defers = [])
    (hR : R (.returned (.tuple #[.agg #[.int .i64 x0, .int .i64 y0, .bool b, .int .i64 cx, .int .i64 cy, .int .i64 x1, .int .i64 y1], .bool ok])) Z) : bodyPost Try.prog Try.f24 R .ret a Z := by
  obtain ⟨c0, c1, c2, c3, c4, c5, c6⟩ := hB.at0
  have hp2 : a.tmps[6]?.getD undef = .pointer (some ⟨p, 0, none⟩) := by rw [← hp]; simp
  have h72 : a.tmps[7]?.getD undef = .bool ok := by rw [← h7]; simp
  exact bodyPost_ret (by simp [results, Try.results24, go_sem, hp2, h72, c0, c1, c2, c3, c4, c5, c6]) hd hR
/-- an edge in its block, another in the next -/
def Bt7 (W : World) (E L : List Value) (Z : World) : Prop := Blk W W.heap.size E Z ∧ Blk W (W.heap.size + 1) L Z ∧ Grown W Z
theorem Bt7.start (W : World) (A C : Array Value) (s t : TypeId) : Bt7 W A.toList C.toList ((W.alloc (.cells A s)).alloc (.cells C t)) := by
  refine ⟨(Blk.new A s (Nat.le_refl _)).alloc C t, ?_, ((Grown.refl W).alloc A s).alloc C t⟩
  have := Blk.new (W := W) (Z := W.alloc (.cells A s)) C t (by simp)
  simpa using this
theorem Bt7.grow {W Z Z' : World} {E L : List Value} (h : Bt7 W E L Z) (g : Grown Z Z') : Bt7 W E L Z' := ⟨h.1.grow g, h.2.1.grow g, grown_trans h.2.2 g⟩
theorem Bt7.moveS {W Z : World} {L : List Value} {a b c d e i j a' b' i' j' : Value} (h : Bt7 W [a, b, c, d, e, i, j] L Z) : Bt7 W [a', b', c, d, e, i', j'] L ((((Z.setCell ⟨W.heap.size, 0, none⟩ a').setCell ⟨W.heap.size, 1, none⟩ b').setCell ⟨W.heap.size, 5, none⟩ i').setCell ⟨W.heap.size, 6, none⟩ j') := ⟨((((h.1.set 0 (by simp) a').set 1 (by simp) b').set 5 (by simp) i').set 6 (by simp) j'), (Blk.other (Blk.other (Blk.other (Blk.other h.2.1 (by omega) a') (by omega) b') (by omega) i') (by omega) j'), (Grown.setCell (Grown.setCell (Grown.setCell (Grown.setCell h.2.2 (Nat.le_refl _) _) (Nat.le_refl _) _) (Nat.le_refl _) _) (Nat.le_refl _) _)⟩
theorem Bt7.moveB {W Z : World} {L : List Value} {a b c d e i j a' b' i' j' d' e' : Value} (h : Bt7 W [a, b, c, d, e, i, j] L Z) : Bt7 W [a', b', c, d', e', i', j'] L ((((((Z.setCell ⟨W.heap.size, 0, none⟩ a').setCell ⟨W.heap.size, 1, none⟩ b').setCell ⟨W.heap.size, 5, none⟩ i').setCell ⟨W.heap.size, 6, none⟩ j').setCell ⟨W.heap.size, 3, none⟩ d').setCell ⟨W.heap.size, 4, none⟩ e') := ⟨((((((h.1.set 0 (by simp) a').set 1 (by simp) b').set 5 (by simp) i').set 6 (by simp) j').set 3 (by simp) d').set 4 (by simp) e'), (Blk.other (Blk.other (Blk.other (Blk.other (Blk.other (Blk.other h.2.1 (by omega) a') (by omega) b') (by omega) i') (by omega) j') (by omega) d') (by omega) e'), (Grown.setCell (Grown.setCell (Grown.setCell (Grown.setCell (Grown.setCell (Grown.setCell h.2.2 (Nat.le_refl _) _) (Nat.le_refl _) _) (Nat.le_refl _) _) (Nat.le_refl _) _) (Nat.le_refl _) _) (Nat.le_refl _) _)⟩
theorem Bt7.sevenG {W Z : World} {E L : List Value} {a' b' c' d' e' i' j' : Value} (h : Bt7 W E L Z) : Grown W (((((((Z.setCell ⟨W.heap.size + 1, 0, none⟩ a').setCell ⟨W.heap.size + 1, 1, none⟩ b').setCell ⟨W.heap.size + 1, 2, none⟩ c').setCell ⟨W.heap.size + 1, 3, none⟩ d').setCell ⟨W.heap.size + 1, 4, none⟩ e').setCell ⟨W.heap.size + 1, 5, none⟩ i').setCell ⟨W.heap.size + 1, 6, none⟩ j') := (Grown.setCell (Grown.setCell (Grown.setCell (Grown.setCell (Grown.setCell (Grown.setCell (Grown.setCell h.2.2 (by simp) _) (by simp) _) (by simp) _) (by simp) _) (by simp) _) (by simp) _) (by simp) _)
def Pl.Ed.zero : Pl.Ed := ⟨0, 0, false, 0, 0, 0, 0⟩
set_option maxHeartbeats 4000000 in
set_option maxRecDepth 100000 in
theorem shift_in (e : Pl.Ed) (dx dy : Int) (he : e.may) (hx : -20000 ≤ dx ∧ dx ≤ 20000) (hy : -20000 ≤ dy ∧ dy ≤ 20000) (W : World) :
    Calls Try.prog 24 #[edv e, .int .i64 dx, .int .i64 dy] W fun en w' => en = .returned (.tuple #[edv (if (e.shift dx dy).may then e.shift dx dy else Pl.Ed.zero), .bool (decide (e.shift dx dy).may)]) ∧ Fr (fun _ => False) W w' := by
  have K1 := Lib.hid (fun Z => may_any e Z)
  rw [decide_eq_true he] at K1
  have K2 := Lib.hid (fun Z => may_any (e.shift dx dy) Z)
  obtain ⟨r, hr⟩ : ∃ r, r = edv (if (e.shift dx dy).may then e.shift dx dy else Pl.Ed.zero) := ⟨_, rfl⟩
  have HR : Hid ((decide (e.shift dx dy).may = true → r = edv (e.shift dx dy)) ∧ (decide (e.shift dx dy).may = false → r = edv Pl.Ed.zero)) := Lib.hid ⟨fun h => by rw [hr, if_pos (of_decide_eq_true h)], fun h => by rw [hr, if_neg (of_decide_eq_false h)]⟩
  rw [← hr]
  clear hr
  obtain ⟨m, hm⟩ : ∃ m, m = decide (e.shift dx dy).may := ⟨_, rfl⟩
  rw [← hm] at K2 HR ⊢
  clear hm
  obtain ⟨a1, a2, a3, a4, a5, a6, _⟩ := he
  unfold Pl.crd at a1 a2 a3 a4 a5 a6
  obtain ⟨x0, y0, b, cx, cy, x1, y1⟩ := e
  unfold Pl.Ed.shift at K2 HR
  simp only at a1 a2 a3 a4 a5 a6
  rcases b with _ | _
  · simp only [edv, Bool.false_eq_true, if_false] at K1 K2 HR ⊢
    go_enter Try.func24, Try.ntmps24
    go_wp2_with fail
    have A0 := Lib.hid (Bt7.start W #[.int .i64 x0, .int .i64 y0, .bool false, .int .i64 cx, .int .i64 cy, .int .i64 x1, .int .i64 y1] #[.int .i64 0, .int .i64 0, .bool false, .int .i64 0, .int .i64 0, .int .i64 0, .int .i64 0] 25 25)
    refine (K1.out _).mono ?_
    rintro en w1 ⟨rfl, g1⟩
    have B1 := Lib.hid (A0.out.grow g1)
    obtain ⟨c0, c1, c2, c3, c4, c5, c6⟩ := B1.out.1.at0
    have fz := B1.out.1.2.2.2
    clear g1 A0 K1
    go_wp2_with fail
    have B2 := Lib.hid (B1.out.moveS (a' := .int .i64 (x0 + dx)) (b' := .int .i64 (y0 + dy)) (i' := .int .i64 (x1 + dx)) (j' := .int .i64 (y1 + dy)))
    refine (K2.out _).mono ?_
    rintro en w2 ⟨rfl, g2⟩
    have B3 := Lib.hid (B2.out.grow g2)
    clear c0 c1 c2 c3 c4 c5 c6 fz g2 B1 B2
    obtain ⟨c0, c1, c2, c3, c4, c5, c6⟩ := B3.out.1.at0
    obtain ⟨d0, d1, d2, d3, d4, d5, d6⟩ := B3.out.2.1.at0
    have fz := B3.out.2.1.2.2.2
    rcases m with _ | _
    · go_wp2_with fail
      exact post_shift rfl rfl B3.out.2.1.seven rfl ⟨by rw [HR.out.2 trivial]; rfl, Fr.of_grown _ (Bt7.sevenG B3.out)⟩
    · go_wp2_with fail
      exact post_shift rfl rfl B3.out.2.1.seven rfl ⟨by rw [HR.out.1 trivial], Fr.of_grown _ (Bt7.sevenG B3.out)⟩
  · simp only [edv, if_true] at K1 K2 HR ⊢
    go_enter Try.func24, Try.ntmps24
    go_wp2_with fail
    have A0 := Lib.hid (Bt7.start W #[.int .i64 x0, .int .i64 y0, .bool true, .int .i64 cx, .int .i64 cy, .int .i64 x1, .int .i64 y1] #[.int .i64 0, .int .i64 0, .bool false, .int .i64 0, .int .i64 0, .int .i64 0, .int .i64 0] 25 25)
    refine (K1.out _).mono ?_
    rintro en w1 ⟨rfl, g1⟩
    have B1 := Lib.hid (A0.out.grow g1)
    obtain ⟨c0, c1, c2, c3, c4, c5, c6⟩ := B1.out.1.at0
    have fz := B1.out.1.2.2.2
    clear g1 A0 K1
    go_wp2_with fail
    have B2 := Lib.hid (B1.out.moveB (a' := .int .i64 (x0 + dx)) (b' := .int .i64 (y0 + dy)) (i' := .int .i64 (x1 + dx)) (j' := .int .i64 (y1 + dy)) (d' := .int .i64 (cx + dx)) (e' := .int .i64 (cy + dy)))
    refine (K2.out _).mono ?_
    rintro en w2 ⟨rfl, g2⟩
    have B3 := Lib.hid (B2.out.grow g2)
    clear c0 c1 c2 c3 c4 c5 c6 fz g2 B1 B2
    obtain ⟨c0, c1, c2, c3, c4, c5, c6⟩ := B3.out.1.at0
    obtain ⟨d0, d1, d2, d3, d4, d5, d6⟩ := B3.out.2.1.at0
    have fz := B3.out.2.1.2.2.2
    rcases m with _ | _
    · go_wp2_with fail
      exact post_shift rfl rfl B3.out.2.1.seven rfl ⟨by rw [HR.out.2 trivial]; rfl, Fr.of_grown _ (Bt7.sevenG B3.out)⟩
    · go_wp2_with fail
      exact post_shift rfl rfl B3.out.2.1.seven rfl ⟨by rw [HR.out.1 trivial], Fr.of_grown _ (Bt7.sevenG B3.out)⟩
end Go.Proofs.Ytnienpalbfgflaa
