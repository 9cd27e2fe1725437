/- BowFlips: the walk. -/
import Derived.Test.YtnienpalbfgflaaBW14
import Derived.Deep.RegionHeld3
namespace Go.Proofs.Ytnienpalbfgflaa
set_option linter.unusedVariables false
open Go.RowKit

theorem Pl.flip_flip (e : Pl.Ed) : e.flip.flip = e := rfl
set_option maxHeartbeats 8000000 in
set_option maxRecDepth 100000 in
theorem walk_BowFlips (e : Pl.Ed) (nv : Value) (N : List Int) (x y : Int) (w : World) (hn : RdI nv N w) :
    Calls Try.prog 8 #[edv e, nv, .int .i64 x, .int .i64 y] w fun en w' => en = .returned (.bool true) ∧ Kept w w' := by
  have KN := Lib.hid (fun Z => known26 Z)
  have HN := Lib.hid hn
  obtain ⟨ao, cap, rfl, hcap, _⟩ := hn
  obtain ⟨M, hM⟩ : ∃ M, M = N.length := ⟨_, rfl⟩
  rw [← hM] at hcap HN ⊢
  clear hM
  have CE := Lib.hid (fun Z p h => edge_any w Z p N h)
  have CP := Lib.hid (fun v Z => place_any v 320 (by omega) (by omega) Z)
  have pb : ∀ v : Int, 0 ≤ v % 320 ∧ v % 320 < 320 := fun v => ⟨Int.emod_nonneg v (by omega), Int.emod_lt_of_pos v (by omega)⟩
  obtain ⟨px1, px2⟩ := pb x
  obtain ⟨py1, py2⟩ := pb y
  clear pb
  obtain ⟨f, hf⟩ : ∃ f, f = Pl.edge N := ⟨_, rfl⟩
  rw [← hf] at CE
  clear hf
  generalize hgx : x % 320 = gx at *
  generalize hgy : y % 320 = gy at *
  have HGX : Hid (x % 320 = gx) := Lib.hid hgx
  have HGY : Hid (y % 320 = gy) := Lib.hid hgy
  clear hgx hgy
  -- what the callees answer
  obtain ⟨T, hT⟩ : ∃ T, T = Pl.turns e x y := ⟨_, rfl⟩
  obtain ⟨U, hU⟩ : ∃ U, U = Pl.turns f (gx - 32) (gy - 32) := ⟨_, rfl⟩
  obtain ⟨m, hm⟩ : ∃ m, m = decide e.may := ⟨_, rfl⟩
  have bT := Pl.cnt_bd2 e x y
  have bU := Pl.cnt_bd2 f (gx - 32) (gy - 32)
  have K1 := Lib.hid (fun Z => flip_fr e Z)
  have K2 := Lib.hid (fun Z => flip_fr e.flip Z)
  have K3 := Lib.hid (fun Z => flip_fr f Z)
  have K4 := Lib.hid (fun Z => turns_fr e x y Z)
  have K5 := Lib.hid (fun Z => turns_fr e.flip x y Z)
  have K6 := Lib.hid (fun Z => turns_fr f (gx - 32) (gy - 32) Z)
  have K7 := Lib.hid (fun Z => turns_fr f.flip (gx - 32) (gy - 32) Z)
  have K8 := Lib.hid (fun Z => may_fr e Z)
  have K9 := Lib.hid (fun Z => may_fr e.flip Z)
  rw [Pl.flip_flip] at K2
  rw [Pl.turns_flip, ← hT] at K5
  rw [Pl.turns_flip, ← hU] at K7
  rw [← hT] at K4 bT
  rw [← hU] at K6 bU
  rw [show decide e.flip.may = decide e.may from decide_eq_decide.2 (Pl.may_flip e), ← hm] at K9
  rw [← hm] at K8
  obtain ⟨x00, y00, b0, cx0, cy0, x10, y10⟩ := e
  obtain ⟨x01, y01, b1, cx1, cy1, x11, y11⟩ := f
  simp only [edv, Pl.Ed.flip] at CE K1 K2 K3 K4 K5 K6 K7 K8 K9 ⊢
  clear hT hU hm
  obtain ⟨bT1, bT2⟩ := bT
  obtain ⟨bU1, bU2⟩ := bU
  have wT : IntKind.i64.wrap (-T) = -T := by unfold IntKind.wrap IntKind.bits IntKind.signed; simp; omega
  have wU : IntKind.i64.wrap (-U) = -U := by unfold IntKind.wrap IntKind.bits IntKind.signed; simp; omega
  go_enter Try.func8, Try.ntmps8
  go_wp2_with fail
  refine (KN.out _).mono ?_
  rintro en w1 ⟨rfl, f1⟩
  have A1 := Lib.hid ((Blk.new (W := w) (Z := w) #[.int .i64 x00, .int .i64 y00, .bool b0, .int .i64 cx0, .int .i64 cy0, .int .i64 x10, .int .i64 y10] 25 (Nat.le_refl _)).fr f1 (fun h => h))
  have F1 := Lib.hid ((Fr.alloc (fun _ => False) w (.cells #[.int .i64 x00, .int .i64 y00, .bool b0, .int .i64 cx0, .int .i64 cy0, .int .i64 x10, .int .i64 y10] 25)).trans f1)
  clear f1 KN
  go_wp2_with fail
  refine (CE.out _ _ (LN.new HN.out F1.out 29)).mono ?_
  rintro en w2 ⟨rfl, n2, f2⟩
  have A2 := Lib.hid ((A1.out.alloc #[.slice ao M cap] 29).fr f2 (fun h => by have := A1.out.2.1; omega))
  have F2 := Lib.hid n2.fr
  clear n2 f2 CE A1
  go_wp2_with fail
  refine (CP.out _ _).mono ?_
  rintro en w3 ⟨rfl, rfl⟩
  rw [HGX.out]
  go_wp2_with fail
  refine (CP.out _ _).mono ?_
  rintro en w3 ⟨rfl, rfl⟩
  rw [HGY.out]
  go_wp2_with fail
  obtain ⟨p, hp⟩ : ∃ p, p = w.heap.size := ⟨_, rfl⟩
  obtain ⟨q, hq⟩ : ∃ q, q = w2.heap.size := ⟨_, rfl⟩
  have HS : Hid (Two w p q x00 y00 b0 cx0 cy0 x10 y10 x01 y01 b1 cx1 cy1 x11 y11 (w2.alloc (.cells #[.int .i64 x01, .int .i64 y01, .bool b1, .int .i64 cx1, .int .i64 cy1, .int .i64 x11, .int .i64 y11] 25))) := Lib.hid (by
    obtain ⟨a0, a1, a2, a3, a4, a5, a6⟩ := (A2.out.alloc #[.int .i64 x01, .int .i64 y01, .bool b1, .int .i64 cx1, .int .i64 cy1, .int .i64 x11, .int .i64 y11] 25).at0
    obtain ⟨d0, d1, d2, d3, d4, d5, d6⟩ := (Blk.new (W := w) (Z := w2) #[.int .i64 x01, .int .i64 y01, .bool b1, .int .i64 cx1, .int .i64 cy1, .int .i64 x11, .int .i64 y11] 25 F2.out.2.2.1).at0
    rw [hp, hq]
    exact ⟨a0, a1, a2, a3, a4, a5, a6, d0, d1, d2, d3, d4, d5, d6, F2.out.trans (Fr.alloc _ _ _)⟩)
  rw [← hp, ← hq]
  clear hp hq A2 F2 CP HGX HGY HN F1
  have L1 := Lib.hid (fun Z (h : Two w p q x00 y00 b0 cx0 cy0 x10 y10 x01 y01 b1 cx1 cy1 x11 y11 Z) => (K1.out Z).mono fun en w' hh => (⟨hh.1, h.fr hh.2⟩ : _ ∧ Two w p q x00 y00 b0 cx0 cy0 x10 y10 x01 y01 b1 cx1 cy1 x11 y11 w'))
  have L2 := Lib.hid (fun Z (h : Two w p q x00 y00 b0 cx0 cy0 x10 y10 x01 y01 b1 cx1 cy1 x11 y11 Z) => (K2.out Z).mono fun en w' hh => (⟨hh.1, h.fr hh.2⟩ : _ ∧ Two w p q x00 y00 b0 cx0 cy0 x10 y10 x01 y01 b1 cx1 cy1 x11 y11 w'))
  have L3 := Lib.hid (fun Z (h : Two w p q x00 y00 b0 cx0 cy0 x10 y10 x01 y01 b1 cx1 cy1 x11 y11 Z) => (K3.out Z).mono fun en w' hh => (⟨hh.1, h.fr hh.2⟩ : _ ∧ Two w p q x00 y00 b0 cx0 cy0 x10 y10 x01 y01 b1 cx1 cy1 x11 y11 w'))
  have L4 := Lib.hid (fun Z (h : Two w p q x00 y00 b0 cx0 cy0 x10 y10 x01 y01 b1 cx1 cy1 x11 y11 Z) => (K4.out Z).mono fun en w' hh => (⟨hh.1, h.fr hh.2⟩ : _ ∧ Two w p q x00 y00 b0 cx0 cy0 x10 y10 x01 y01 b1 cx1 cy1 x11 y11 w'))
  have L5 := Lib.hid (fun Z (h : Two w p q x00 y00 b0 cx0 cy0 x10 y10 x01 y01 b1 cx1 cy1 x11 y11 Z) => (K5.out Z).mono fun en w' hh => (⟨hh.1, h.fr hh.2⟩ : _ ∧ Two w p q x00 y00 b0 cx0 cy0 x10 y10 x01 y01 b1 cx1 cy1 x11 y11 w'))
  have L6 := Lib.hid (fun Z (h : Two w p q x00 y00 b0 cx0 cy0 x10 y10 x01 y01 b1 cx1 cy1 x11 y11 Z) => (K6.out Z).mono fun en w' hh => (⟨hh.1, h.fr hh.2⟩ : _ ∧ Two w p q x00 y00 b0 cx0 cy0 x10 y10 x01 y01 b1 cx1 cy1 x11 y11 w'))
  have L7 := Lib.hid (fun Z (h : Two w p q x00 y00 b0 cx0 cy0 x10 y10 x01 y01 b1 cx1 cy1 x11 y11 Z) => (K7.out Z).mono fun en w' hh => (⟨hh.1, h.fr hh.2⟩ : _ ∧ Two w p q x00 y00 b0 cx0 cy0 x10 y10 x01 y01 b1 cx1 cy1 x11 y11 w'))
  have L8 := Lib.hid (fun Z (h : Two w p q x00 y00 b0 cx0 cy0 x10 y10 x01 y01 b1 cx1 cy1 x11 y11 Z) => (K8.out Z).mono fun en w' hh => (⟨hh.1, h.fr hh.2⟩ : _ ∧ Two w p q x00 y00 b0 cx0 cy0 x10 y10 x01 y01 b1 cx1 cy1 x11 y11 w'))
  have L9 := Lib.hid (fun Z (h : Two w p q x00 y00 b0 cx0 cy0 x10 y10 x01 y01 b1 cx1 cy1 x11 y11 Z) => (K9.out Z).mono fun en w' hh => (⟨hh.1, h.fr hh.2⟩ : _ ∧ Two w p q x00 y00 b0 cx0 cy0 x10 y10 x01 y01 b1 cx1 cy1 x11 y11 w'))
  clear K1 K2 K3 K4 K5 K6 K7 K8 K9
  go_region_held3 (fun Z => Z.cell? ⟨p, 0, none⟩ = some (.int .i64 x00) ∧ Z.cell? ⟨p, 1, none⟩ = some (.int .i64 y00) ∧ Z.cell? ⟨p, 2, none⟩ = some (.bool b0) ∧ Z.cell? ⟨p, 3, none⟩ = some (.int .i64 cx0) ∧ Z.cell? ⟨p, 4, none⟩ = some (.int .i64 cy0) ∧ Z.cell? ⟨p, 5, none⟩ = some (.int .i64 x10) ∧ Z.cell? ⟨p, 6, none⟩ = some (.int .i64 y10) ∧ Z.cell? ⟨q, 0, none⟩ = some (.int .i64 x01) ∧ Z.cell? ⟨q, 1, none⟩ = some (.int .i64 y01) ∧ Z.cell? ⟨q, 2, none⟩ = some (.bool b1) ∧ Z.cell? ⟨q, 3, none⟩ = some (.int .i64 cx1) ∧ Z.cell? ⟨q, 4, none⟩ = some (.int .i64 cy1) ∧ Z.cell? ⟨q, 5, none⟩ = some (.int .i64 x11) ∧ Z.cell? ⟨q, 6, none⟩ = some (.int .i64 y11) ∧ Fr (fun _ => False) w Z)
    (first | assumption | exact HS.out.fr ((Fr.refl (fun _ => False) _).drew))
    (first
      | (go_at_call 22; first | (with_reducible refine Calls.mono (L1.out _ ?_) ?_; (assumption); rintro e w' ⟨rfl, hS⟩) | (with_reducible refine Calls.mono (L2.out _ ?_) ?_; (assumption); rintro e w' ⟨rfl, hS⟩) | (with_reducible refine Calls.mono (L3.out _ ?_) ?_; (assumption); rintro e w' ⟨rfl, hS⟩))
      | (go_at_call 19; first | (with_reducible refine Calls.mono (L4.out _ ?_) ?_; (assumption); rintro e w' ⟨rfl, hS⟩) | (with_reducible refine Calls.mono (L5.out _ ?_) ?_; (assumption); rintro e w' ⟨rfl, hS⟩) | (with_reducible refine Calls.mono (L6.out _ ?_) ?_; (assumption); rintro e w' ⟨rfl, hS⟩) | (with_reducible refine Calls.mono (L7.out _ ?_) ?_; (assumption); rintro e w' ⟨rfl, hS⟩))
      | (go_at_call 23; first | (with_reducible refine Calls.mono (L8.out _ ?_) ?_; (assumption); rintro e w' ⟨rfl, hS⟩) | (with_reducible refine Calls.mono (L9.out _ ?_) ?_; (assumption); rintro e w' ⟨rfl, hS⟩)))
  all_goals
    go_wp2_with fail
    go_ret
    exact ⟨rfl, Kept.of_fr (‹Two w p q x00 y00 b0 cx0 cy0 x10 y10 x01 y01 b1 cx1 cy1 x11 y11 _›).2.2.2.2.2.2.2.2.2.2.2.2.2.2⟩
theorem law_BowFlips (v0 : Value) (e : Pl.Ed) (v1 : Value) (N : List Int) (x y : Int) (w : World) (h0 : v0 = edv e ∧ Ed64 e) (h1 : RdI v1 N w ∧ N.length ≤ maxLen) (_ : (Lit.int .i64 x).wf = true) (_ : (Lit.int .i64 y).wf = true) :
    Calls Try.prog 8 #[v0, v1, .int .i64 x, .int .i64 y] w fun en w' => en = .returned (.bool true) ∧ Kept w w' := by
  rw [h0.1]
  exact walk_BowFlips e v1 N x y w h1.1
end Go.Proofs.Ytnienpalbfgflaa
