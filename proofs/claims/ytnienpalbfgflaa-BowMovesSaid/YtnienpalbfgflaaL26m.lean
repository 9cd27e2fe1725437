/- BowMoves: the walk. -/
import Derived.Test.YtnienpalbfgflaaBW15
import Derived.Test.YtnienpalbfgflaaBW16
import Derived.Test.YtnienpalbfgflaaL26c
namespace Go.Proofs.Ytnienpalbfgflaa
set_option linter.unusedVariables false
open Go.RowKit

theorem Pl.shift_back (e : Pl.Ed) (dx dy : Int) : (e.shift dx dy).shift (-dx) (-dy) = e := by
  obtain ⟨x0, y0, b, cx, cy, x1, y1⟩ := e
  unfold Pl.Ed.shift
  rcases b with _ | _
  · simp only [Bool.false_eq_true, if_false, Pl.Ed.mk.injEq]
    refine ⟨by omega, by omega, trivial, trivial, trivial, by omega, by omega⟩
  · simp only [if_true, Pl.Ed.mk.injEq]
    refine ⟨by omega, by omega, trivial, by omega, by omega, by omega, by omega⟩
theorem Pl.shift_may (N : List Int) (dx dy : Int) (hx : -4000 ≤ dx ∧ dx ≤ 4000) (hy : -4000 ≤ dy ∧ dy ≤ 4000) : ((Pl.edge N).shift dx dy).may := by
  obtain ⟨a, b, c, d, e, f, g⟩ := Pl.edge_bd N
  generalize Pl.edge N = E at *
  obtain ⟨x0, y0, bb, cx, cy, x1, y1⟩ := E
  simp only at a b c d e f g
  unfold Pl.Ed.shift
  rcases bb with _ | _
  · simp only [Bool.false_eq_true, if_false]
    unfold Pl.Ed.may Pl.crd
    refine ⟨by simp only; omega, by simp only; omega, by simp only; omega, by simp only; omega, by simp only; omega, by simp only; omega, .inr (g.resolve_left (by decide))⟩
  · simp only [if_true]
    unfold Pl.Ed.may Pl.crd
    refine ⟨by simp only; omega, by simp only; omega, by simp only; omega, by simp only; omega, by simp only; omega, by simp only; omega, .inl rfl⟩
theorem Pl.shift_far (N : List Int) (dy : Int) : ¬ ((Pl.edge N).shift 16382 dy).may := by
  obtain ⟨a, b, c, d, e, f, g⟩ := Pl.edge_bd N
  intro h
  have h1 := h.1
  unfold Pl.crd Pl.Ed.shift at h1
  split at h1 <;> (simp only at h1; omega)
theorem Pl.moves_turns (N : List Int) (u v dx dy : Int) (hu : -32 ≤ u ∧ u ≤ 287) (hv : -32 ≤ v ∧ v ≤ 287) (hx : -4000 ≤ dx ∧ dx ≤ 4000) (hy : -4000 ≤ dy ∧ dy ≤ 4000) :
    Pl.turns ((Pl.edge N).shift dx dy) (u + dx) (v + dy) = Pl.turns (Pl.edge N) u v := by
  rw [Pl.turns_of (Pl.shift_may N dx dy hx hy) (by unfold Pl.crd; omega) (by unfold Pl.crd; omega), Pl.turns_of (Pl.edge_may N) (by unfold Pl.crd; omega) (by unfold Pl.crd; omega), Pl.tot_shift]
set_option maxHeartbeats 8000000 in
set_option maxRecDepth 100000 in
theorem walk_BowMoves (nv : Value) (N : List Int) (x y dx dy : Int) (w : World) (hn : RdI nv N w) :
    Calls Try.prog 9 #[nv, .int .i64 x, .int .i64 y, .int .i64 dx, .int .i64 dy] w fun en w' => en = .returned (.bool true) ∧ Kept w w' := by
  have KN := Lib.hid (fun Z => known26 Z)
  have HN := Lib.hid hn
  obtain ⟨ao, cap, rfl, hcap, _⟩ := hn
  obtain ⟨M, hM⟩ : ∃ M, M = N.length := ⟨_, rfl⟩
  rw [← hM] at hcap HN ⊢
  clear hM
  have CE := Lib.hid (fun Z p h => edge_any w Z p N h)
  have CP320 := Lib.hid (fun v Z => place_any v 320 (by omega) (by omega) Z)
  have CP8000 := Lib.hid (fun v Z => place_any v 8000 (by omega) (by omega) Z)
  obtain ⟨gx, hgx⟩ : ∃ r, r = x % 320 := ⟨_, rfl⟩
  have bgx : 0 ≤ gx ∧ gx < 320 := by rw [hgx]; exact ⟨Int.emod_nonneg _ (by omega), Int.emod_lt_of_pos _ (by omega)⟩
  have Hgx : Hid (x % 320 = gx) := Lib.hid hgx.symm
  clear hgx
  obtain ⟨gy, hgy⟩ : ∃ r, r = y % 320 := ⟨_, rfl⟩
  have bgy : 0 ≤ gy ∧ gy < 320 := by rw [hgy]; exact ⟨Int.emod_nonneg _ (by omega), Int.emod_lt_of_pos _ (by omega)⟩
  have Hgy : Hid (y % 320 = gy) := Lib.hid hgy.symm
  clear hgy
  obtain ⟨hx, hhx⟩ : ∃ r, r = dx % 8000 := ⟨_, rfl⟩
  have bhx : 0 ≤ hx ∧ hx < 8000 := by rw [hhx]; exact ⟨Int.emod_nonneg _ (by omega), Int.emod_lt_of_pos _ (by omega)⟩
  have Hhx : Hid (dx % 8000 = hx) := Lib.hid hhx.symm
  clear hhx
  obtain ⟨hy, hhy⟩ : ∃ r, r = dy % 8000 := ⟨_, rfl⟩
  have bhy : 0 ≤ hy ∧ hy < 8000 := by rw [hhy]; exact ⟨Int.emod_nonneg _ (by omega), Int.emod_lt_of_pos _ (by omega)⟩
  have Hhy : Hid (dy % 8000 = hy) := Lib.hid hhy.symm
  clear hhy
  have s1 := Pl.shift_may N (hx - 4000) (hy - 4000) (by omega) (by omega)
  have s2 := Pl.shift_back (Pl.edge N) (hx - 4000) (hy - 4000)
  have s3 := Pl.shift_far N (hy - 4000)
  have s4 := Pl.moves_turns N (gx - 32) (gy - 32) (hx - 4000) (hy - 4000) (by omega) (by omega) (by omega) (by omega)
  have s5 := Pl.edge_may N
  obtain ⟨e, he⟩ : ∃ e, e = Pl.edge N := ⟨_, rfl⟩
  rw [← he] at CE s1 s2 s3 s4 s5
  clear he
  obtain ⟨f, hf⟩ : ∃ f, f = e.shift (hx - 4000) (hy - 4000) := ⟨_, rfl⟩
  have K1 := Lib.hid (fun Z => shift_in e (hx - 4000) (hy - 4000) s5 (by omega) (by omega) Z)
  rw [← hf] at K1 s1 s2 s4
  rw [if_pos s1, decide_eq_true s1] at K1
  have K2 := Lib.hid (fun Z => shift_in f (-(hx - 4000)) (-(hy - 4000)) s1 (by omega) (by omega) Z)
  rw [s2, if_pos s5, decide_eq_true s5] at K2
  have K3 := Lib.hid (fun Z => shift_in e 16382 (hy - 4000) s5 (by omega) (by omega) Z)
  rw [if_neg s3, decide_eq_false s3] at K3
  clear hf s1 s2 s3 s5
  have T1 := Lib.hid (fun Z => turns_fr f (gx - 32 + (hx - 4000)) (gy - 32 + (hy - 4000)) Z)
  have T2 := Lib.hid (fun Z => turns_fr e (gx - 32) (gy - 32) Z)
  rw [s4] at T1
  obtain ⟨t, ht⟩ : ∃ t, t = Pl.turns e (gx - 32) (gy - 32) := ⟨_, rfl⟩
  rw [← ht] at T1 T2
  clear s4 ht
  obtain ⟨x00, y00, b0, cx0, cy0, x10, y10⟩ := e
  obtain ⟨x01, y01, b1, cx1, cy1, x11, y11⟩ := f
  simp only [edv, Pl.Ed.zero] at CE K1 K2 K3 T1 T2
  have kk1 : hx - 4000 = hx - 4000 := rfl
  obtain ⟨dp, hdp⟩ : ∃ dp, dp = hx - 4000 := ⟨_, rfl⟩
  obtain ⟨dq, hdq⟩ : ∃ dq, dq = hy - 4000 := ⟨_, rfl⟩
  rw [← hdp, ← hdq] at K1 K2 T1
  rw [← hdq] at K3
  have hdp' : hx - 4000 = dp := hdp.symm
  have hdq' : hy - 4000 = dq := hdq.symm
  have bdp : -4000 ≤ dp ∧ dp ≤ 4000 := by omega
  have bdq : -4000 ≤ dq ∧ dq ≤ 4000 := by omega
  clear hdp hdq kk1
  go_enter Try.func9, Try.ntmps9
  go_wp2_with fail
  refine (KN.out _).mono ?_
  rintro en w1 ⟨rfl, f1⟩
  have F1 := Lib.hid f1
  clear f1 KN
  go_wp2_with fail
  refine (CE.out _ _ (LN.new HN.out F1.out 29)).mono ?_
  rintro en w2 ⟨rfl, n2, _⟩
  have F2 := Lib.hid n2.fr
  clear n2 CE
  go_wp2_with fail
  refine (CP320.out _ _).mono ?_
  rintro en w3 ⟨rfl, rfl⟩
  rw [Hgx.out]
  go_wp2_with fail
  refine (CP320.out _ _).mono ?_
  rintro en w3 ⟨rfl, rfl⟩
  rw [Hgy.out]
  go_wp2_with fail
  refine (CP8000.out _ _).mono ?_
  rintro en w3 ⟨rfl, rfl⟩
  rw [Hhx.out]
  go_wp2_with fail
  refine (CP8000.out _ _).mono ?_
  rintro en w3 ⟨rfl, rfl⟩
  rw [Hhy.out]
  go_wp2_with fail
  have B0 := Lib.hid (Blk.new (W := w) (Z := w2) #[.int .i64 x00, .int .i64 y00, .bool b0, .int .i64 cx0, .int .i64 cy0, .int .i64 x10, .int .i64 y10] 25 F2.out.2.2.1)
  refine (K1.out _).mono ?_
  rintro en w4 ⟨rfl, f4⟩
  have B0a := Lib.hid (B0.out.fr f4 (fun h => h))
  have F4 := Lib.hid ((F2.out.trans (Fr.alloc (fun _ => False) w2 (.cells #[.int .i64 x00, .int .i64 y00, .bool b0, .int .i64 cx0, .int .i64 cy0, .int .i64 x10, .int .i64 y10] 25))).trans f4)
  clear f4 B0
  obtain ⟨p, hp⟩ : ∃ p, p = w2.heap.size := ⟨_, rfl⟩
  rw [← hp] at B0a ⊢
  clear hp
  go_wp2_with fail
  have B1 := Lib.hid (Blk.new (W := w) (Z := w4) #[.int .i64 x01, .int .i64 y01, .bool b1, .int .i64 cx1, .int .i64 cy1, .int .i64 x11, .int .i64 y11] 25 F4.out.2.2.1)
  obtain ⟨q, hq⟩ : ∃ q, q = w4.heap.size := ⟨_, rfl⟩
  refine (K2.out _).mono ?_
  rintro en w5 ⟨rfl, f5⟩
  have B0b := Lib.hid ((B0a.out.alloc #[.int .i64 x01, .int .i64 y01, .bool b1, .int .i64 cx1, .int .i64 cy1, .int .i64 x11, .int .i64 y11] 25).fr f5 (fun h => h))
  have B1b := Lib.hid (B1.out.fr f5 (fun h => h))
  have F5 := Lib.hid ((F4.out.trans (Fr.alloc (fun _ => False) w4 (.cells #[.int .i64 x01, .int .i64 y01, .bool b1, .int .i64 cx1, .int .i64 cy1, .int .i64 x11, .int .i64 y11] 25))).trans f5)
  clear f5 B0a B1
  rw [← hq] at B1b ⊢
  clear hq
  obtain ⟨a0, a1, a2, a3, a4, a5, a6⟩ := (B0b.out.alloc #[.int .i64 x00, .int .i64 y00, .bool b0, .int .i64 cx0, .int .i64 cy0, .int .i64 x10, .int .i64 y10] 25).at0
  go_wp2_with fail
  have B2 := Lib.hid (Blk.new (W := w) (Z := w5) #[.int .i64 x00, .int .i64 y00, .bool b0, .int .i64 cx0, .int .i64 cy0, .int .i64 x10, .int .i64 y10] 25 F5.out.2.2.1)
  obtain ⟨r, hr⟩ : ∃ r, r = w5.heap.size := ⟨_, rfl⟩
  refine (K3.out _).mono ?_
  rintro en w6 ⟨rfl, f6⟩
  have B0c := Lib.hid ((B0b.out.alloc #[.int .i64 x00, .int .i64 y00, .bool b0, .int .i64 cx0, .int .i64 cy0, .int .i64 x10, .int .i64 y10] 25).fr f6 (fun h => h))
  have B1c := Lib.hid ((B1b.out.alloc #[.int .i64 x00, .int .i64 y00, .bool b0, .int .i64 cx0, .int .i64 cy0, .int .i64 x10, .int .i64 y10] 25).fr f6 (fun h => h))
  have B2c := Lib.hid (B2.out.fr f6 (fun h => h))
  have F6 := Lib.hid ((F5.out.trans (Fr.alloc (fun _ => False) w5 (.cells #[.int .i64 x00, .int .i64 y00, .bool b0, .int .i64 cx0, .int .i64 cy0, .int .i64 x10, .int .i64 y10] 25))).trans f6)
  clear f6 B0b B1b B2 a0 a1 a2 a3 a4 a5 a6
  rw [← hr] at B2c ⊢
  clear hr
  go_wp2_with fail
  have HS : Hid (Three w p q r x00 y00 b0 cx0 cy0 x10 y10 x01 y01 b1 cx1 cy1 x11 y11 x00 y00 b0 cx0 cy0 x10 y10 (w6.alloc (.cells #[.int .i64 0, .int .i64 0, .bool false, .int .i64 0, .int .i64 0, .int .i64 0, .int .i64 0] 25))) := Lib.hid (Three.mk (B0c.out.alloc _ _) (B1c.out.alloc _ _) (B2c.out.alloc _ _) (F6.out.trans (Fr.alloc _ _ _)))
  clear B0c B1c B2c F6 F5 F4 F2 F1 CP320 CP8000 HN K1 K2 K3 Hgx Hgy Hhx Hhy
  have wu : IntKind.i64.wrap (gx - 32 + dp) = gx - 32 + dp := by unfold IntKind.wrap IntKind.bits IntKind.signed; simp; omega
  have wv : IntKind.i64.wrap (gy - 32 + dq) = gy - 32 + dq := by unfold IntKind.wrap IntKind.bits IntKind.signed; simp; omega
  have L1 := Lib.hid (fun Z (h : Three w p q r x00 y00 b0 cx0 cy0 x10 y10 x01 y01 b1 cx1 cy1 x11 y11 x00 y00 b0 cx0 cy0 x10 y10 Z) => (T1.out Z).mono fun en w' hh => (⟨hh.1, h.fr hh.2⟩ : _ ∧ Three w p q r x00 y00 b0 cx0 cy0 x10 y10 x01 y01 b1 cx1 cy1 x11 y11 x00 y00 b0 cx0 cy0 x10 y10 w'))
  have L2 := Lib.hid (fun Z (h : Three w p q r x00 y00 b0 cx0 cy0 x10 y10 x01 y01 b1 cx1 cy1 x11 y11 x00 y00 b0 cx0 cy0 x10 y10 Z) => (T2.out Z).mono fun en w' hh => (⟨hh.1, h.fr hh.2⟩ : _ ∧ Three w p q r x00 y00 b0 cx0 cy0 x10 y10 x01 y01 b1 cx1 cy1 x11 y11 x00 y00 b0 cx0 cy0 x10 y10 w'))
  clear T1 T2
  go_region_held3 (fun Z => Z.cell? ⟨p, 0, none⟩ = some (.int .i64 x00) ∧ Z.cell? ⟨p, 1, none⟩ = some (.int .i64 y00) ∧ Z.cell? ⟨p, 2, none⟩ = some (.bool b0) ∧ Z.cell? ⟨p, 3, none⟩ = some (.int .i64 cx0) ∧ Z.cell? ⟨p, 4, none⟩ = some (.int .i64 cy0) ∧ Z.cell? ⟨p, 5, none⟩ = some (.int .i64 x10) ∧ Z.cell? ⟨p, 6, none⟩ = some (.int .i64 y10) ∧ Z.cell? ⟨q, 0, none⟩ = some (.int .i64 x01) ∧ Z.cell? ⟨q, 1, none⟩ = some (.int .i64 y01) ∧ Z.cell? ⟨q, 2, none⟩ = some (.bool b1) ∧ Z.cell? ⟨q, 3, none⟩ = some (.int .i64 cx1) ∧ Z.cell? ⟨q, 4, none⟩ = some (.int .i64 cy1) ∧ Z.cell? ⟨q, 5, none⟩ = some (.int .i64 x11) ∧ Z.cell? ⟨q, 6, none⟩ = some (.int .i64 y11) ∧ Z.cell? ⟨r, 0, none⟩ = some (.int .i64 x00) ∧ Z.cell? ⟨r, 1, none⟩ = some (.int .i64 y00) ∧ Z.cell? ⟨r, 2, none⟩ = some (.bool b0) ∧ Z.cell? ⟨r, 3, none⟩ = some (.int .i64 cx0) ∧ Z.cell? ⟨r, 4, none⟩ = some (.int .i64 cy0) ∧ Z.cell? ⟨r, 5, none⟩ = some (.int .i64 x10) ∧ Z.cell? ⟨r, 6, none⟩ = some (.int .i64 y10) ∧ Fr (fun _ => False) w Z)
    (first | assumption | exact HS.out.fr ((Fr.refl (fun _ => False) _).drew))
    (first
      | (go_at_call 19; first | (with_reducible refine Calls.mono (L1.out _ ?_) ?_; (assumption); rintro e w' ⟨rfl, hS⟩) | (with_reducible refine Calls.mono (L2.out _ ?_) ?_; (assumption); rintro e w' ⟨rfl, hS⟩)))
  all_goals
    go_wp2_with fail
    go_ret
    exact ⟨rfl, Kept.of_fr (Three.last (‹Three w p q r x00 y00 b0 cx0 cy0 x10 y10 x01 y01 b1 cx1 cy1 x11 y11 x00 y00 b0 cx0 cy0 x10 y10 _›))⟩
theorem law_BowMoves (v0 : Value) (N : List Int) (x y dx dy : Int) (w : World) (h0 : RdI v0 N w ∧ N.length ≤ maxLen) (_ : (Lit.int .i64 x).wf = true) (_ : (Lit.int .i64 y).wf = true) (_ : (Lit.int .i64 dx).wf = true) (_ : (Lit.int .i64 dy).wf = true) :
    Calls Try.prog 9 #[v0, .int .i64 x, .int .i64 y, .int .i64 dx, .int .i64 dy] w fun en w' => en = .returned (.bool true) ∧ Kept w w' := walk_BowMoves v0 N x y dx dy w h0.1
end Go.Proofs.Ytnienpalbfgflaa
