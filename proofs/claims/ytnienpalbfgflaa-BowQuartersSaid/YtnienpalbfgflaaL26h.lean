/- BowHalves: the walk. -/
import Derived.Test.YtnienpalbfgflaaBW20
import Derived.Test.YtnienpalbfgflaaBW16
import Derived.Test.YtnienpalbfgflaaL26c
namespace Go.Proofs.Ytnienpalbfgflaa
set_option linter.unusedVariables false
open Go.RowKit

/-- what the two halves of an edge have of it -/
theorem Pl.halves_are (e : Pl.Ed) : ∃ ca da cb db X Y, e.ha = ⟨e.x0, e.y0, e.b, ca, da, X, Y⟩ ∧ e.hb = ⟨X, Y, e.b, cb, db, e.x1, e.y1⟩ := by
  obtain ⟨x0, y0, b, cx, cy, x1, y1⟩ := e
  cases b with
  | false => exact ⟨_, _, _, _, _, _, rfl, rfl⟩
  | true => exact ⟨_, _, _, _, _, _, rfl, rfl⟩
theorem Pl.times_may (N : List Int) (k : Int) (hk : 1 ≤ k ∧ k ≤ 20) : ((Pl.edge N).times k).may := by
  obtain ⟨a, b, c, d, e, f, g⟩ := Pl.edge_bd N
  generalize Pl.edge N = E at *
  have hb : ∀ v : Int, -32 ≤ v ∧ v ≤ 287 → Pl.crd (k * v) := fun v hv => by
    have := Pl.bd_mul (u := k) (v := v) 20 287 (by omega) (by omega)
    unfold Pl.crd
    omega
  refine ⟨hb _ a, hb _ b, hb _ c, hb _ d, hb _ e, hb _ f, ?_⟩
  rcases g with g | g
  · exact .inl g
  · exact .inr ⟨by show k * E.cx = 0; rw [g.1]; omega, by show k * E.cy = 0; rw [g.2]; omega⟩
set_option maxHeartbeats 8000000 in
set_option maxRecDepth 100000 in
theorem walk_BowHalves (nv : Value) (N : List Int) (x y : Int) (w : World) (hn : RdI nv N w) :
    Calls Try.prog 10 #[nv, .int .i64 x, .int .i64 y] w fun en w' => en = .returned (.bool true) ∧ Kept w w' := by
  have KN := Lib.hid (fun Z => known26 Z)
  have HN := Lib.hid hn
  obtain ⟨ao, cap, rfl, hcap, _⟩ := hn
  obtain ⟨M, hM⟩ : ∃ M, M = N.length := ⟨_, rfl⟩
  rw [← hM] at hcap HN ⊢
  clear hM
  have CE := Lib.hid (fun Z p h => edge_any w Z p N h)
  have CP1280 := Lib.hid (fun v Z => place_any v 1280 (by omega) (by omega) Z)
  obtain ⟨gx, hgx⟩ : ∃ r, r = x % 1280 := ⟨_, rfl⟩
  have bgx : 0 ≤ gx ∧ gx < 1280 := by rw [hgx]; exact ⟨Int.emod_nonneg _ (by omega), Int.emod_lt_of_pos _ (by omega)⟩
  have Hgx : Hid (x % 1280 = gx) := Lib.hid hgx.symm
  clear hgx
  obtain ⟨gy, hgy⟩ : ∃ r, r = y % 1280 := ⟨_, rfl⟩
  have bgy : 0 ≤ gy ∧ gy < 1280 := by rw [hgy]; exact ⟨Int.emod_nonneg _ (by omega), Int.emod_lt_of_pos _ (by omega)⟩
  have Hgy : Hid (y % 1280 = gy) := Lib.hid hgy.symm
  clear hgy
  have s1 := Pl.times_may N 4 (by omega)
  have s2 := Pl.hcan_4 (Pl.edge N)
  have hbd := Pl.edge_bd N
  obtain ⟨e, he⟩ : ∃ e, e = Pl.edge N := ⟨_, rfl⟩
  rw [← he] at CE s1 s2 hbd
  clear he
  have K1 := Lib.hid (fun Z => halve_any (e.times 4) Z)
  have HT := Lib.hid (fun x y => Pl.turns_halves (e.times 4) s1 s2 x y)
  rw [Pl.hout_yes s1 s2] at K1
  clear s1 s2
  obtain ⟨ca, da, cb, db, X, Y, ha, hb⟩ := Pl.halves_are (e.times 4)
  rw [ha, hb] at K1 HT
  clear ha hb
  obtain ⟨bx0, by0, bcx, bcy, bx1, by1, _⟩ := hbd
  obtain ⟨u, hu⟩ : ∃ u, u = gx - 128 := ⟨_, rfl⟩
  obtain ⟨v, hv⟩ : ∃ v, v = gy - 128 := ⟨_, rfl⟩
  have hu' : gx - 128 = u := hu.symm
  have hv' : gy - 128 = v := hv.symm
  have bu : -128 ≤ u ∧ u ≤ 1151 := by omega
  have bv : -128 ≤ v ∧ v ≤ 1151 := by omega
  clear hu hv
  have Ta0 := Lib.hid (fun Z => turns_fr (⟨(e.times 4).x0, (e.times 4).y0, (e.times 4).b, ca, da, X, Y⟩ : Pl.Ed) u v Z)
  have Tb0 := Lib.hid (fun Z => turns_fr (⟨X, Y, (e.times 4).b, cb, db, (e.times 4).x1, (e.times 4).y1⟩ : Pl.Ed) u v Z)
  have Te0 := Lib.hid (fun Z => turns_fr (e.times 4) u v Z)
  rw [← HT.out u v] at Te0
  have ba0 := Pl.cnt_bd2 (⟨(e.times 4).x0, (e.times 4).y0, (e.times 4).b, ca, da, X, Y⟩ : Pl.Ed) u v
  have bb0 := Pl.cnt_bd2 (⟨X, Y, (e.times 4).b, cb, db, (e.times 4).x1, (e.times 4).y1⟩ : Pl.Ed) u v
  obtain ⟨ta0, hta⟩ : ∃ t, t = Pl.turns (⟨(e.times 4).x0, (e.times 4).y0, (e.times 4).b, ca, da, X, Y⟩ : Pl.Ed) u v := ⟨_, rfl⟩
  obtain ⟨tb0, htb⟩ : ∃ t, t = Pl.turns (⟨X, Y, (e.times 4).b, cb, db, (e.times 4).x1, (e.times 4).y1⟩ : Pl.Ed) u v := ⟨_, rfl⟩
  rw [← hta] at Ta0 Te0 ba0
  rw [← htb] at Tb0 Te0 bb0
  clear hta htb
  have Ta1 := Lib.hid (fun Z => turns_fr (⟨(e.times 4).x0, (e.times 4).y0, (e.times 4).b, ca, da, X, Y⟩ : Pl.Ed) u Y Z)
  have Tb1 := Lib.hid (fun Z => turns_fr (⟨X, Y, (e.times 4).b, cb, db, (e.times 4).x1, (e.times 4).y1⟩ : Pl.Ed) u Y Z)
  have Te1 := Lib.hid (fun Z => turns_fr (e.times 4) u Y Z)
  rw [← HT.out u Y] at Te1
  have ba1 := Pl.cnt_bd2 (⟨(e.times 4).x0, (e.times 4).y0, (e.times 4).b, ca, da, X, Y⟩ : Pl.Ed) u Y
  have bb1 := Pl.cnt_bd2 (⟨X, Y, (e.times 4).b, cb, db, (e.times 4).x1, (e.times 4).y1⟩ : Pl.Ed) u Y
  obtain ⟨ta1, hta⟩ : ∃ t, t = Pl.turns (⟨(e.times 4).x0, (e.times 4).y0, (e.times 4).b, ca, da, X, Y⟩ : Pl.Ed) u Y := ⟨_, rfl⟩
  obtain ⟨tb1, htb⟩ : ∃ t, t = Pl.turns (⟨X, Y, (e.times 4).b, cb, db, (e.times 4).x1, (e.times 4).y1⟩ : Pl.Ed) u Y := ⟨_, rfl⟩
  rw [← hta] at Ta1 Te1 ba1
  rw [← htb] at Tb1 Te1 bb1
  clear hta htb
  have Ta2 := Lib.hid (fun Z => turns_fr (⟨(e.times 4).x0, (e.times 4).y0, (e.times 4).b, ca, da, X, Y⟩ : Pl.Ed) X v Z)
  have Tb2 := Lib.hid (fun Z => turns_fr (⟨X, Y, (e.times 4).b, cb, db, (e.times 4).x1, (e.times 4).y1⟩ : Pl.Ed) X v Z)
  have Te2 := Lib.hid (fun Z => turns_fr (e.times 4) X v Z)
  rw [← HT.out X v] at Te2
  have ba2 := Pl.cnt_bd2 (⟨(e.times 4).x0, (e.times 4).y0, (e.times 4).b, ca, da, X, Y⟩ : Pl.Ed) X v
  have bb2 := Pl.cnt_bd2 (⟨X, Y, (e.times 4).b, cb, db, (e.times 4).x1, (e.times 4).y1⟩ : Pl.Ed) X v
  obtain ⟨ta2, hta⟩ : ∃ t, t = Pl.turns (⟨(e.times 4).x0, (e.times 4).y0, (e.times 4).b, ca, da, X, Y⟩ : Pl.Ed) X v := ⟨_, rfl⟩
  obtain ⟨tb2, htb⟩ : ∃ t, t = Pl.turns (⟨X, Y, (e.times 4).b, cb, db, (e.times 4).x1, (e.times 4).y1⟩ : Pl.Ed) X v := ⟨_, rfl⟩
  rw [← hta] at Ta2 Te2 ba2
  rw [← htb] at Tb2 Te2 bb2
  clear hta htb
  clear HT
  obtain ⟨x00, y00, b0, cx0, cy0, x10, y10⟩ := e
  simp only at bx0 by0 bcx bcy bx1 by1
  simp only [edv, Pl.Ed.times] at CE K1 Ta0 Ta1 Ta2 Tb0 Tb1 Tb2 Te0 Te1 Te2
  go_enter Try.func10, Try.ntmps10
  go_wp2_with fail
  refine (KN.out _).mono ?_
  rintro en w1 ⟨rfl, f1⟩
  have F1 := Lib.hid f1
  clear f1 KN
  go_wp2_with fail
  refine (CE.out _ _ (LN.new HN.out F1.out 29)).mono ?_
  rintro en w2 ⟨rfl, n2, _⟩
  have F2 := Lib.hid n2.fr
  clear n2 CE
  go_wp2_with fail
  refine (K1.out _).mono ?_
  rintro en w4 ⟨rfl, f4⟩
  have B0 := Lib.hid ((Blk.new (W := w) (Z := w2) #[.int .i64 (4 * x00), .int .i64 (4 * y00), .bool b0, .int .i64 (4 * cx0), .int .i64 (4 * cy0), .int .i64 (4 * x10), .int .i64 (4 * y10)] 25 F2.out.2.2.1).fr f4 (fun h => h))
  have F4 := Lib.hid ((F2.out.trans (Fr.alloc (fun _ => False) w2 (.cells #[.int .i64 (4 * x00), .int .i64 (4 * y00), .bool b0, .int .i64 (4 * cx0), .int .i64 (4 * cy0), .int .i64 (4 * x10), .int .i64 (4 * y10)] 25))).trans f4)
  clear f4 K1
  obtain ⟨p, hp⟩ : ∃ p, p = w2.heap.size := ⟨_, rfl⟩
  rw [← hp] at B0 ⊢
  clear hp
  go_wp2_with fail
  refine (CP1280.out _ _).mono ?_
  rintro en w5 ⟨rfl, rfl⟩
  rw [Hgx.out]
  go_wp2_with fail
  refine (CP1280.out _ _).mono ?_
  rintro en w5 ⟨rfl, rfl⟩
  rw [Hgy.out]
  go_wp2_with fail
  have HS0 := Lib.hid (Three.mk ((B0.out.alloc #[.int .i64 (4 * x00), .int .i64 (4 * y00), .bool b0, .int .i64 ca, .int .i64 da, .int .i64 X, .int .i64 Y] 25).alloc #[.int .i64 X, .int .i64 Y, .bool b0, .int .i64 cb, .int .i64 db, .int .i64 (4 * x10), .int .i64 (4 * y10)] 25) ((Blk.new (W := w) (Z := w4) #[.int .i64 (4 * x00), .int .i64 (4 * y00), .bool b0, .int .i64 ca, .int .i64 da, .int .i64 X, .int .i64 Y] 25 F4.out.2.2.1).alloc #[.int .i64 X, .int .i64 Y, .bool b0, .int .i64 cb, .int .i64 db, .int .i64 (4 * x10), .int .i64 (4 * y10)] 25) (Blk.new (W := w) (Z := w4.alloc (.cells #[.int .i64 (4 * x00), .int .i64 (4 * y00), .bool b0, .int .i64 ca, .int .i64 da, .int .i64 X, .int .i64 Y] 25)) #[.int .i64 X, .int .i64 Y, .bool b0, .int .i64 cb, .int .i64 db, .int .i64 (4 * x10), .int .i64 (4 * y10)] 25 (Nat.le_trans F4.out.2.2.1 (by simp))) ((F4.out.trans (Fr.alloc _ _ _)).trans (Fr.alloc _ _ _)))
  rw [show (w4.alloc (Obj.cells #[.int .i64 (4 * x00), .int .i64 (4 * y00), .bool b0, .int .i64 ca, .int .i64 da, .int .i64 X, .int .i64 Y] 25)).heap.size = w4.heap.size + 1 by simp] at HS0
  obtain ⟨q, hq⟩ : ∃ q, q = w4.heap.size := ⟨_, rfl⟩
  obtain ⟨r, hr⟩ : ∃ r, r = w4.heap.size + 1 := ⟨_, rfl⟩
  have HS : Hid (Three w p q r (4 * x00) (4 * y00) b0 (4 * cx0) (4 * cy0) (4 * x10) (4 * y10) (4 * x00) (4 * y00) b0 ca da X Y X Y b0 cb db (4 * x10) (4 * y10) ((w4.alloc (.cells #[.int .i64 (4 * x00), .int .i64 (4 * y00), .bool b0, .int .i64 ca, .int .i64 da, .int .i64 X, .int .i64 Y] 25)).alloc (.cells #[.int .i64 X, .int .i64 Y, .bool b0, .int .i64 cb, .int .i64 db, .int .i64 (4 * x10), .int .i64 (4 * y10)] 25))) := Lib.hid (by rw [hq, hr]; exact HS0.out)
  rw [← hr, ← hq]
  clear hr hq HS0 B0 F4 F2 F1 CP1280 HN Hgx Hgy
  have La0 := Lib.hid (fun Z (h : Three w p q r (4 * x00) (4 * y00) b0 (4 * cx0) (4 * cy0) (4 * x10) (4 * y10) (4 * x00) (4 * y00) b0 ca da X Y X Y b0 cb db (4 * x10) (4 * y10) Z) => (Ta0.out Z).mono fun en w' hh => (⟨hh.1, h.fr hh.2⟩ : _ ∧ Three w p q r (4 * x00) (4 * y00) b0 (4 * cx0) (4 * cy0) (4 * x10) (4 * y10) (4 * x00) (4 * y00) b0 ca da X Y X Y b0 cb db (4 * x10) (4 * y10) w'))
  have Lb0 := Lib.hid (fun Z (h : Three w p q r (4 * x00) (4 * y00) b0 (4 * cx0) (4 * cy0) (4 * x10) (4 * y10) (4 * x00) (4 * y00) b0 ca da X Y X Y b0 cb db (4 * x10) (4 * y10) Z) => (Tb0.out Z).mono fun en w' hh => (⟨hh.1, h.fr hh.2⟩ : _ ∧ Three w p q r (4 * x00) (4 * y00) b0 (4 * cx0) (4 * cy0) (4 * x10) (4 * y10) (4 * x00) (4 * y00) b0 ca da X Y X Y b0 cb db (4 * x10) (4 * y10) w'))
  have Le0 := Lib.hid (fun Z (h : Three w p q r (4 * x00) (4 * y00) b0 (4 * cx0) (4 * cy0) (4 * x10) (4 * y10) (4 * x00) (4 * y00) b0 ca da X Y X Y b0 cb db (4 * x10) (4 * y10) Z) => (Te0.out Z).mono fun en w' hh => (⟨hh.1, h.fr hh.2⟩ : _ ∧ Three w p q r (4 * x00) (4 * y00) b0 (4 * cx0) (4 * cy0) (4 * x10) (4 * y10) (4 * x00) (4 * y00) b0 ca da X Y X Y b0 cb db (4 * x10) (4 * y10) w'))
  have La1 := Lib.hid (fun Z (h : Three w p q r (4 * x00) (4 * y00) b0 (4 * cx0) (4 * cy0) (4 * x10) (4 * y10) (4 * x00) (4 * y00) b0 ca da X Y X Y b0 cb db (4 * x10) (4 * y10) Z) => (Ta1.out Z).mono fun en w' hh => (⟨hh.1, h.fr hh.2⟩ : _ ∧ Three w p q r (4 * x00) (4 * y00) b0 (4 * cx0) (4 * cy0) (4 * x10) (4 * y10) (4 * x00) (4 * y00) b0 ca da X Y X Y b0 cb db (4 * x10) (4 * y10) w'))
  have Lb1 := Lib.hid (fun Z (h : Three w p q r (4 * x00) (4 * y00) b0 (4 * cx0) (4 * cy0) (4 * x10) (4 * y10) (4 * x00) (4 * y00) b0 ca da X Y X Y b0 cb db (4 * x10) (4 * y10) Z) => (Tb1.out Z).mono fun en w' hh => (⟨hh.1, h.fr hh.2⟩ : _ ∧ Three w p q r (4 * x00) (4 * y00) b0 (4 * cx0) (4 * cy0) (4 * x10) (4 * y10) (4 * x00) (4 * y00) b0 ca da X Y X Y b0 cb db (4 * x10) (4 * y10) w'))
  have Le1 := Lib.hid (fun Z (h : Three w p q r (4 * x00) (4 * y00) b0 (4 * cx0) (4 * cy0) (4 * x10) (4 * y10) (4 * x00) (4 * y00) b0 ca da X Y X Y b0 cb db (4 * x10) (4 * y10) Z) => (Te1.out Z).mono fun en w' hh => (⟨hh.1, h.fr hh.2⟩ : _ ∧ Three w p q r (4 * x00) (4 * y00) b0 (4 * cx0) (4 * cy0) (4 * x10) (4 * y10) (4 * x00) (4 * y00) b0 ca da X Y X Y b0 cb db (4 * x10) (4 * y10) w'))
  have La2 := Lib.hid (fun Z (h : Three w p q r (4 * x00) (4 * y00) b0 (4 * cx0) (4 * cy0) (4 * x10) (4 * y10) (4 * x00) (4 * y00) b0 ca da X Y X Y b0 cb db (4 * x10) (4 * y10) Z) => (Ta2.out Z).mono fun en w' hh => (⟨hh.1, h.fr hh.2⟩ : _ ∧ Three w p q r (4 * x00) (4 * y00) b0 (4 * cx0) (4 * cy0) (4 * x10) (4 * y10) (4 * x00) (4 * y00) b0 ca da X Y X Y b0 cb db (4 * x10) (4 * y10) w'))
  have Lb2 := Lib.hid (fun Z (h : Three w p q r (4 * x00) (4 * y00) b0 (4 * cx0) (4 * cy0) (4 * x10) (4 * y10) (4 * x00) (4 * y00) b0 ca da X Y X Y b0 cb db (4 * x10) (4 * y10) Z) => (Tb2.out Z).mono fun en w' hh => (⟨hh.1, h.fr hh.2⟩ : _ ∧ Three w p q r (4 * x00) (4 * y00) b0 (4 * cx0) (4 * cy0) (4 * x10) (4 * y10) (4 * x00) (4 * y00) b0 ca da X Y X Y b0 cb db (4 * x10) (4 * y10) w'))
  have Le2 := Lib.hid (fun Z (h : Three w p q r (4 * x00) (4 * y00) b0 (4 * cx0) (4 * cy0) (4 * x10) (4 * y10) (4 * x00) (4 * y00) b0 ca da X Y X Y b0 cb db (4 * x10) (4 * y10) Z) => (Te2.out Z).mono fun en w' hh => (⟨hh.1, h.fr hh.2⟩ : _ ∧ Three w p q r (4 * x00) (4 * y00) b0 (4 * cx0) (4 * cy0) (4 * x10) (4 * y10) (4 * x00) (4 * y00) b0 ca da X Y X Y b0 cb db (4 * x10) (4 * y10) w'))
  have wt0 : IntKind.i64.wrap (ta0 + tb0) = ta0 + tb0 := by unfold IntKind.wrap IntKind.bits IntKind.signed; simp; omega
  have wt1 : IntKind.i64.wrap (ta1 + tb1) = ta1 + tb1 := by unfold IntKind.wrap IntKind.bits IntKind.signed; simp; omega
  have wt2 : IntKind.i64.wrap (ta2 + tb2) = ta2 + tb2 := by unfold IntKind.wrap IntKind.bits IntKind.signed; simp; omega
  clear Ta0 Tb0 Te0 Ta1 Tb1 Te1 Ta2 Tb2 Te2
  simp only [List.append_eq, List.cons_append, List.nil_append]
  go_region_held3 (fun Z => Z.cell? ⟨p, 0, none⟩ = some (.int .i64 (4 * x00)) ∧ Z.cell? ⟨p, 1, none⟩ = some (.int .i64 (4 * y00)) ∧ Z.cell? ⟨p, 2, none⟩ = some (.bool b0) ∧ Z.cell? ⟨p, 3, none⟩ = some (.int .i64 (4 * cx0)) ∧ Z.cell? ⟨p, 4, none⟩ = some (.int .i64 (4 * cy0)) ∧ Z.cell? ⟨p, 5, none⟩ = some (.int .i64 (4 * x10)) ∧ Z.cell? ⟨p, 6, none⟩ = some (.int .i64 (4 * y10)) ∧ Z.cell? ⟨q, 0, none⟩ = some (.int .i64 (4 * x00)) ∧ Z.cell? ⟨q, 1, none⟩ = some (.int .i64 (4 * y00)) ∧ Z.cell? ⟨q, 2, none⟩ = some (.bool b0) ∧ Z.cell? ⟨q, 3, none⟩ = some (.int .i64 ca) ∧ Z.cell? ⟨q, 4, none⟩ = some (.int .i64 da) ∧ Z.cell? ⟨q, 5, none⟩ = some (.int .i64 X) ∧ Z.cell? ⟨q, 6, none⟩ = some (.int .i64 Y) ∧ Z.cell? ⟨r, 0, none⟩ = some (.int .i64 X) ∧ Z.cell? ⟨r, 1, none⟩ = some (.int .i64 Y) ∧ Z.cell? ⟨r, 2, none⟩ = some (.bool b0) ∧ Z.cell? ⟨r, 3, none⟩ = some (.int .i64 cb) ∧ Z.cell? ⟨r, 4, none⟩ = some (.int .i64 db) ∧ Z.cell? ⟨r, 5, none⟩ = some (.int .i64 (4 * x10)) ∧ Z.cell? ⟨r, 6, none⟩ = some (.int .i64 (4 * y10)) ∧ Fr (fun _ => False) w Z)
    (first | assumption | exact HS.out.fr ((Fr.refl (fun _ => False) _).drew))
    (first
      | (go_at_call 19; first | (with_reducible refine Calls.mono (La0.out _ ?_) ?_; (assumption); rintro e w' ⟨rfl, hS⟩) | (with_reducible refine Calls.mono (Lb0.out _ ?_) ?_; (assumption); rintro e w' ⟨rfl, hS⟩) | (with_reducible refine Calls.mono (Le0.out _ ?_) ?_; (assumption); rintro e w' ⟨rfl, hS⟩) | (with_reducible refine Calls.mono (La1.out _ ?_) ?_; (assumption); rintro e w' ⟨rfl, hS⟩) | (with_reducible refine Calls.mono (Lb1.out _ ?_) ?_; (assumption); rintro e w' ⟨rfl, hS⟩) | (with_reducible refine Calls.mono (Le1.out _ ?_) ?_; (assumption); rintro e w' ⟨rfl, hS⟩) | (with_reducible refine Calls.mono (La2.out _ ?_) ?_; (assumption); rintro e w' ⟨rfl, hS⟩) | (with_reducible refine Calls.mono (Lb2.out _ ?_) ?_; (assumption); rintro e w' ⟨rfl, hS⟩) | (with_reducible refine Calls.mono (Le2.out _ ?_) ?_; (assumption); rintro e w' ⟨rfl, hS⟩)))
  all_goals
    go_wp2_with fail
    go_ret
    exact ⟨rfl, Kept.of_fr (Three.last (‹Three w p q r (4 * x00) (4 * y00) b0 (4 * cx0) (4 * cy0) (4 * x10) (4 * y10) (4 * x00) (4 * y00) b0 ca da X Y X Y b0 cb db (4 * x10) (4 * y10) _›))⟩
theorem law_BowHalves (v0 : Value) (N : List Int) (x y : Int) (w : World) (h0 : RdI v0 N w ∧ N.length ≤ maxLen) (_ : (Lit.int .i64 x).wf = true) (_ : (Lit.int .i64 y).wf = true) :
    Calls Try.prog 10 #[v0, .int .i64 x, .int .i64 y] w fun en w' => en = .returned (.bool true) ∧ Kept w w' := walk_BowHalves v0 N x y w h0.1
end Go.Proofs.Ytnienpalbfgflaa
