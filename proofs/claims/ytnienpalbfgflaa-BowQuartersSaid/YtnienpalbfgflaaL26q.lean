/- BowQuarters: the walk. -/
import Derived.Test.YtnienpalbfgflaaBW20
import Derived.Test.YtnienpalbfgflaaBW21
import Derived.Test.YtnienpalbfgflaaL26h
namespace Go.Proofs.Ytnienpalbfgflaa
set_option linter.unusedVariables false
open Go.RowKit

/-- an edge in a block, two numbers of two others, a row of four edges -/
abbrev QS (W : World) (p c d s : Nat) (x0 y0 : Int) (b : Bool) (cx cy x1 y1 P Y : Int) (es : List Pl.Ed) (Z : World) : Prop := Z.cell? ⟨p, 0, none⟩ = some (.int .i64 x0) ∧ Z.cell? ⟨p, 1, none⟩ = some (.int .i64 y0) ∧ Z.cell? ⟨p, 2, none⟩ = some (.bool b) ∧ Z.cell? ⟨p, 3, none⟩ = some (.int .i64 cx) ∧ Z.cell? ⟨p, 4, none⟩ = some (.int .i64 cy) ∧ Z.cell? ⟨p, 5, none⟩ = some (.int .i64 x1) ∧ Z.cell? ⟨p, 6, none⟩ = some (.int .i64 y1) ∧ Z.cell? ⟨c, 5, none⟩ = some (.int .i64 P) ∧ Z.cell? ⟨d, 6, none⟩ = some (.int .i64 Y) ∧ RdE (.slice (some ⟨s, 0, none⟩) 4 4) es Z ∧ Fr (fun _ => False) W Z
theorem QS.fr {W Z Z' : World} {p c d s : Nat} {x0 y0 : Int} {b : Bool} {cx cy x1 y1 P Y : Int} {es : List Pl.Ed} (h : QS W p c d s x0 y0 b cx cy x1 y1 P Y es Z) (g : Fr (fun _ => False) Z Z') : QS W p c d s x0 y0 b cx cy x1 y1 P Y es Z' := by
  obtain ⟨a0, a1, a2, a3, a4, a5, a6, a7, a8, a9, a10⟩ := h
  have t : ∀ (q o : Nat) (v : Value), Z.cell? ⟨q, o, none⟩ = some v → Z'.cell? ⟨q, o, none⟩ = some v := fun q o v e => (g.cell (a := ⟨q, o, none⟩) (block_lt_of_cell e) (fun f => f)).trans e
  exact ⟨t _ _ _ a0, t _ _ _ a1, t _ _ _ a2, t _ _ _ a3, t _ _ _ a4, t _ _ _ a5, t _ _ _ a6, t _ _ _ a7, t _ _ _ a8, a9.fr0 g, a10.trans g⟩
theorem rdE_four {W Z : World} {g : Nat} {x0 y0 cx0 cy0 u0 v0 x1 y1 cx1 cy1 u1 v1 x2 y2 cx2 cy2 u2 v2 x3 y3 cx3 cy3 u3 v3 : Int} {b0 b1 b2 b3 : Bool} (h : Blk W g [.int .i64 x0, .int .i64 y0, .bool b0, .int .i64 cx0, .int .i64 cy0, .int .i64 u0, .int .i64 v0, .int .i64 x1, .int .i64 y1, .bool b1, .int .i64 cx1, .int .i64 cy1, .int .i64 u1, .int .i64 v1, .int .i64 x2, .int .i64 y2, .bool b2, .int .i64 cx2, .int .i64 cy2, .int .i64 u2, .int .i64 v2, .int .i64 x3, .int .i64 y3, .bool b3, .int .i64 cx3, .int .i64 cy3, .int .i64 u3, .int .i64 v3] Z) : RdE (.slice (some ⟨g, 0, none⟩) 4 4) [⟨x0, y0, b0, cx0, cy0, u0, v0⟩, ⟨x1, y1, b1, cx1, cy1, u1, v1⟩, ⟨x2, y2, b2, cx2, cy2, u2, v2⟩, ⟨x3, y3, b3, cx3, cy3, u3, v3⟩] Z := by
  refine ⟨g, 4, rfl, by simp, h.2.1, fun j e he => ?_⟩
  match j, he with
  | 0, he => cases he; exact ⟨h.at 0 _ rfl, h.at 1 _ rfl, h.at 2 _ rfl, h.at 3 _ rfl, h.at 4 _ rfl, h.at 5 _ rfl, h.at 6 _ rfl⟩
  | 1, he => cases he; exact ⟨h.at 7 _ rfl, h.at 8 _ rfl, h.at 9 _ rfl, h.at 10 _ rfl, h.at 11 _ rfl, h.at 12 _ rfl, h.at 13 _ rfl⟩
  | 2, he => cases he; exact ⟨h.at 14 _ rfl, h.at 15 _ rfl, h.at 16 _ rfl, h.at 17 _ rfl, h.at 18 _ rfl, h.at 19 _ rfl, h.at 20 _ rfl⟩
  | 3, he => cases he; exact ⟨h.at 21 _ rfl, h.at 22 _ rfl, h.at 23 _ rfl, h.at 24 _ rfl, h.at 25 _ rfl, h.at 26 _ rfl, h.at 27 _ rfl⟩
  | j + 4, he => simp at he
theorem Pl.quarters (e : Pl.Ed) (he : e.may) (h : e.hcan) (ha : e.ha.hcan) (hb : e.hb.hcan) (x y : Int) : Pl.sumT [e.ha.ha, e.ha.hb, e.hb.ha, e.hb.hb] x y = Pl.turns e x y := by
  have h1 := Pl.turns_halves e he h x y
  have h2 := Pl.turns_halves e.ha (Pl.may_ha e he) ha x y
  have h3 := Pl.turns_halves e.hb (Pl.may_hb e he) hb x y
  unfold Pl.sumT
  simp
  omega
set_option maxHeartbeats 8000000 in
set_option maxRecDepth 100000 in
theorem walk_BowQuarters (nv : Value) (N : List Int) (x y : Int) (w : World) (hn : RdI nv N w) :
    Calls Try.prog 11 #[nv, .int .i64 x, .int .i64 y] w fun en w' => en = .returned (.bool true) ∧ Kept w w' := by
  have KN := Lib.hid (fun Z => known26 Z)
  have HN := Lib.hid hn
  obtain ⟨ao, cap, rfl, hcap, _⟩ := hn
  obtain ⟨M, hM⟩ : ∃ M, M = N.length := ⟨_, rfl⟩
  rw [← hM] at hcap HN ⊢
  clear hM
  have CE := Lib.hid (fun Z p h => edge_any w Z p N h)
  have CP5000 := Lib.hid (fun v Z => place_any v 5000 (by omega) (by omega) Z)
  obtain ⟨gx, hgx⟩ : ∃ r, r = x % 5000 := ⟨_, rfl⟩
  have bgx : 0 ≤ gx ∧ gx < 5000 := by rw [hgx]; exact ⟨Int.emod_nonneg _ (by omega), Int.emod_lt_of_pos _ (by omega)⟩
  have Hgx : Hid (x % 5000 = gx) := Lib.hid hgx.symm
  clear hgx
  obtain ⟨gy, hgy⟩ : ∃ r, r = y % 5000 := ⟨_, rfl⟩
  have bgy : 0 ≤ gy ∧ gy < 5000 := by rw [hgy]; exact ⟨Int.emod_nonneg _ (by omega), Int.emod_lt_of_pos _ (by omega)⟩
  have Hgy : Hid (y % 5000 = gy) := Lib.hid hgy.symm
  clear hgy
  have s1 := Pl.times_may N 16 (by omega)
  obtain ⟨s2, s3, s4⟩ := Pl.hcan_16 (Pl.edge N)
  have hbd := Pl.edge_bd N
  obtain ⟨e, he⟩ : ∃ e, e = Pl.edge N := ⟨_, rfl⟩
  rw [← he] at CE s1 s2 s3 s4 hbd
  clear he
  have K1 := Lib.hid (fun Z => halve_any (e.times 16) Z)
  have K2 := Lib.hid (fun Z => halve_any (e.times 16).ha Z)
  have K3 := Lib.hid (fun Z => halve_any (e.times 16).hb Z)
  have HT := Lib.hid (fun x y => Pl.quarters (e.times 16) s1 s2 s3 s4 x y)
  rw [Pl.hout_yes s1 s2] at K1
  rw [Pl.hout_yes (Pl.may_ha _ s1) s3] at K2
  rw [Pl.hout_yes (Pl.may_hb _ s1) s4] at K3
  clear s1 s2 s3 s4
  obtain ⟨cc, dc, cd, dd, P, Q, ha2, hb2⟩ := Pl.halves_are (e.times 16).ha
  obtain ⟨cf, df, cg, dg, R, S, ha3, hb3⟩ := Pl.halves_are (e.times 16).hb
  obtain ⟨ca, da, cb, db, X, Y, ha, hb⟩ := Pl.halves_are (e.times 16)
  rw [ha2, hb2] at K2 HT
  rw [ha3, hb3] at K3 HT
  clear ha2 hb2 ha3 hb3
  rw [ha] at K1 K2 HT
  rw [hb] at K1 K3 HT
  clear ha hb
  obtain ⟨bx0, by0, bcx, bcy, bx1, by1, _⟩ := hbd
  obtain ⟨u, hu⟩ : ∃ u, u = gx - 500 := ⟨_, rfl⟩
  obtain ⟨v, hv⟩ : ∃ v, v = gy - 500 := ⟨_, rfl⟩
  have hu' : gx - 500 = u := hu.symm
  have hv' : gy - 500 = v := hv.symm
  have bu : -500 ≤ u ∧ u ≤ 4499 := by omega
  have bv : -500 ≤ v ∧ v ≤ 4499 := by omega
  clear hu hv
  obtain ⟨x00, y00, b0, cx0, cy0, x10, y10⟩ := e
  simp only at bx0 by0 bcx bcy bx1 by1
  simp only [edv, Pl.Ed.times] at CE K1 K2 K3 HT
  have TS0 := Lib.hid (fun (s : Nat) Z (h : RdE (.slice (some ⟨s, 0, none⟩) 4 4) [(⟨16 * x00, 16 * y00, b0, cc, dc, P, Q⟩ : Pl.Ed), (⟨P, Q, b0, cd, dd, X, Y⟩ : Pl.Ed), (⟨X, Y, b0, cf, df, R, S⟩ : Pl.Ed), (⟨R, S, b0, cg, dg, 16 * x10, 16 * y10⟩ : Pl.Ed)] Z) => sum_any (.slice (some ⟨s, 0, none⟩) 4 4) [(⟨16 * x00, 16 * y00, b0, cc, dc, P, Q⟩ : Pl.Ed), (⟨P, Q, b0, cd, dd, X, Y⟩ : Pl.Ed), (⟨X, Y, b0, cf, df, R, S⟩ : Pl.Ed), (⟨R, S, b0, cg, dg, 16 * x10, 16 * y10⟩ : Pl.Ed)] u v (by simp) Z h)
  have TE0 := Lib.hid (fun Z => turns_fr (⟨16 * x00, 16 * y00, b0, 16 * cx0, 16 * cy0, 16 * x10, 16 * y10⟩ : Pl.Ed) u v Z)
  rw [HT.out u v] at TS0
  obtain ⟨t0, ht⟩ : ∃ t, t = Pl.turns (⟨16 * x00, 16 * y00, b0, 16 * cx0, 16 * cy0, 16 * x10, 16 * y10⟩ : Pl.Ed) u v := ⟨_, rfl⟩
  rw [← ht] at TS0 TE0
  clear ht
  have TS1 := Lib.hid (fun (s : Nat) Z (h : RdE (.slice (some ⟨s, 0, none⟩) 4 4) [(⟨16 * x00, 16 * y00, b0, cc, dc, P, Q⟩ : Pl.Ed), (⟨P, Q, b0, cd, dd, X, Y⟩ : Pl.Ed), (⟨X, Y, b0, cf, df, R, S⟩ : Pl.Ed), (⟨R, S, b0, cg, dg, 16 * x10, 16 * y10⟩ : Pl.Ed)] Z) => sum_any (.slice (some ⟨s, 0, none⟩) 4 4) [(⟨16 * x00, 16 * y00, b0, cc, dc, P, Q⟩ : Pl.Ed), (⟨P, Q, b0, cd, dd, X, Y⟩ : Pl.Ed), (⟨X, Y, b0, cf, df, R, S⟩ : Pl.Ed), (⟨R, S, b0, cg, dg, 16 * x10, 16 * y10⟩ : Pl.Ed)] u Y (by simp) Z h)
  have TE1 := Lib.hid (fun Z => turns_fr (⟨16 * x00, 16 * y00, b0, 16 * cx0, 16 * cy0, 16 * x10, 16 * y10⟩ : Pl.Ed) u Y Z)
  rw [HT.out u Y] at TS1
  obtain ⟨t1, ht⟩ : ∃ t, t = Pl.turns (⟨16 * x00, 16 * y00, b0, 16 * cx0, 16 * cy0, 16 * x10, 16 * y10⟩ : Pl.Ed) u Y := ⟨_, rfl⟩
  rw [← ht] at TS1 TE1
  clear ht
  have TS2 := Lib.hid (fun (s : Nat) Z (h : RdE (.slice (some ⟨s, 0, none⟩) 4 4) [(⟨16 * x00, 16 * y00, b0, cc, dc, P, Q⟩ : Pl.Ed), (⟨P, Q, b0, cd, dd, X, Y⟩ : Pl.Ed), (⟨X, Y, b0, cf, df, R, S⟩ : Pl.Ed), (⟨R, S, b0, cg, dg, 16 * x10, 16 * y10⟩ : Pl.Ed)] Z) => sum_any (.slice (some ⟨s, 0, none⟩) 4 4) [(⟨16 * x00, 16 * y00, b0, cc, dc, P, Q⟩ : Pl.Ed), (⟨P, Q, b0, cd, dd, X, Y⟩ : Pl.Ed), (⟨X, Y, b0, cf, df, R, S⟩ : Pl.Ed), (⟨R, S, b0, cg, dg, 16 * x10, 16 * y10⟩ : Pl.Ed)] P v (by simp) Z h)
  have TE2 := Lib.hid (fun Z => turns_fr (⟨16 * x00, 16 * y00, b0, 16 * cx0, 16 * cy0, 16 * x10, 16 * y10⟩ : Pl.Ed) P v Z)
  rw [HT.out P v] at TS2
  obtain ⟨t2, ht⟩ : ∃ t, t = Pl.turns (⟨16 * x00, 16 * y00, b0, 16 * cx0, 16 * cy0, 16 * x10, 16 * y10⟩ : Pl.Ed) P v := ⟨_, rfl⟩
  rw [← ht] at TS2 TE2
  clear ht
  clear HT
  simp only [edv] at TE0 TE1 TE2
  go_enter Try.func11, Try.ntmps11
  go_wp2_with fail
  refine (KN.out _).mono ?_
  rintro en w1 ⟨rfl, f1⟩
  have F1 := Lib.hid f1
  clear f1 KN
  go_wp2_with fail
  refine (CE.out _ _ (LN.new HN.out F1.out 29)).mono ?_
  rintro en w2 ⟨rfl, n2, _⟩
  have F2 := Lib.hid n2.fr
  clear n2 CE
  go_wp2_with fail
  refine (K1.out _).mono ?_
  rintro en w4 ⟨rfl, f4⟩
  have B0 := Lib.hid ((Blk.new (W := w) (Z := w2) #[.int .i64 (16 * x00), .int .i64 (16 * y00), .bool b0, .int .i64 (16 * cx0), .int .i64 (16 * cy0), .int .i64 (16 * x10), .int .i64 (16 * y10)] 25 F2.out.2.2.1).fr f4 (fun h => h))
  have F4 := Lib.hid ((F2.out.trans (Fr.alloc (fun _ => False) w2 (.cells #[.int .i64 (16 * x00), .int .i64 (16 * y00), .bool b0, .int .i64 (16 * cx0), .int .i64 (16 * cy0), .int .i64 (16 * x10), .int .i64 (16 * y10)] 25))).trans f4)
  clear f4 K1 F2 F1
  obtain ⟨p, hp⟩ : ∃ p, p = w2.heap.size := ⟨_, rfl⟩
  rw [← hp] at B0 ⊢
  clear hp
  go_wp2_with fail
  refine (K2.out _).mono ?_
  rintro en w5 ⟨rfl, f5⟩
  have B1 := Lib.hid (((B0.out.alloc #[.int .i64 (16 * x00), .int .i64 (16 * y00), .bool b0, .int .i64 ca, .int .i64 da, .int .i64 X, .int .i64 Y] 25).alloc #[.int .i64 X, .int .i64 Y, .bool b0, .int .i64 cb, .int .i64 db, .int .i64 (16 * x10), .int .i64 (16 * y10)] 25).fr f5 (fun h => h))
  have BB := Lib.hid ((Blk.new (W := w) (Z := w4.alloc (.cells #[.int .i64 (16 * x00), .int .i64 (16 * y00), .bool b0, .int .i64 ca, .int .i64 da, .int .i64 X, .int .i64 Y] 25)) #[.int .i64 X, .int .i64 Y, .bool b0, .int .i64 cb, .int .i64 db, .int .i64 (16 * x10), .int .i64 (16 * y10)] 25 (Nat.le_trans F4.out.2.2.1 (by simp))).fr f5 (fun h => h))
  rw [show (w4.alloc (Obj.cells #[.int .i64 (16 * x00), .int .i64 (16 * y00), .bool b0, .int .i64 ca, .int .i64 da, .int .i64 X, .int .i64 Y] 25)).heap.size = w4.heap.size + 1 by simp] at BB
  have F5 := Lib.hid (((F4.out.trans (Fr.alloc _ _ (.cells #[.int .i64 (16 * x00), .int .i64 (16 * y00), .bool b0, .int .i64 ca, .int .i64 da, .int .i64 X, .int .i64 Y] 25))).trans (Fr.alloc _ _ (.cells #[.int .i64 X, .int .i64 Y, .bool b0, .int .i64 cb, .int .i64 db, .int .i64 (16 * x10), .int .i64 (16 * y10)] 25))).trans f5)
  clear f5 K2 F4 B0
  obtain ⟨q, hq⟩ : ∃ q, q = w4.heap.size + 1 := ⟨_, rfl⟩
  rw [← hq] at BB ⊢
  clear hq
  obtain ⟨a0, a1, a2, a3, a4, a5, a6⟩ := ((BB.out.alloc #[.int .i64 (16 * x00), .int .i64 (16 * y00), .bool b0, .int .i64 cc, .int .i64 dc, .int .i64 P, .int .i64 Q] 25).alloc #[.int .i64 P, .int .i64 Q, .bool b0, .int .i64 cd, .int .i64 dd, .int .i64 X, .int .i64 Y] 25).at0
  go_wp2_with fail
  refine (K3.out _).mono ?_
  rintro en w6 ⟨rfl, f6⟩
  have B2 := Lib.hid (((B1.out.alloc #[.int .i64 (16 * x00), .int .i64 (16 * y00), .bool b0, .int .i64 cc, .int .i64 dc, .int .i64 P, .int .i64 Q] 25).alloc #[.int .i64 P, .int .i64 Q, .bool b0, .int .i64 cd, .int .i64 dd, .int .i64 X, .int .i64 Y] 25).fr f6 (fun h => h))
  have BC := Lib.hid (((Blk.new (W := w) (Z := w5) #[.int .i64 (16 * x00), .int .i64 (16 * y00), .bool b0, .int .i64 cc, .int .i64 dc, .int .i64 P, .int .i64 Q] 25 F5.out.2.2.1).alloc #[.int .i64 P, .int .i64 Q, .bool b0, .int .i64 cd, .int .i64 dd, .int .i64 X, .int .i64 Y] 25).fr f6 (fun h => h))
  have BD := Lib.hid ((Blk.new (W := w) (Z := w5.alloc (.cells #[.int .i64 (16 * x00), .int .i64 (16 * y00), .bool b0, .int .i64 cc, .int .i64 dc, .int .i64 P, .int .i64 Q] 25)) #[.int .i64 P, .int .i64 Q, .bool b0, .int .i64 cd, .int .i64 dd, .int .i64 X, .int .i64 Y] 25 (Nat.le_trans F5.out.2.2.1 (by simp))).fr f6 (fun h => h))
  rw [show (w5.alloc (Obj.cells #[.int .i64 (16 * x00), .int .i64 (16 * y00), .bool b0, .int .i64 cc, .int .i64 dc, .int .i64 P, .int .i64 Q] 25)).heap.size = w5.heap.size + 1 by simp] at BD
  have F6 := Lib.hid (((F5.out.trans (Fr.alloc _ _ (.cells #[.int .i64 (16 * x00), .int .i64 (16 * y00), .bool b0, .int .i64 cc, .int .i64 dc, .int .i64 P, .int .i64 Q] 25))).trans (Fr.alloc _ _ (.cells #[.int .i64 P, .int .i64 Q, .bool b0, .int .i64 cd, .int .i64 dd, .int .i64 X, .int .i64 Y] 25))).trans f6)
  clear f6 K3 F5 B1 BB a0 a1 a2 a3 a4 a5 a6
  obtain ⟨c, hc⟩ : ∃ c, c = w5.heap.size := ⟨_, rfl⟩
  obtain ⟨d, hd⟩ : ∃ d, d = w5.heap.size + 1 := ⟨_, rfl⟩
  rw [← hc] at BC
  rw [← hd] at BD
  rw [← hd, ← hc]
  clear hc hd
  go_wp2_with fail
  refine (CP5000.out _ _).mono ?_
  rintro en w7 ⟨rfl, rfl⟩
  rw [Hgx.out]
  go_wp2_with fail
  refine (CP5000.out _ _).mono ?_
  rintro en w7 ⟨rfl, rfl⟩
  rw [Hgy.out]
  have B3 := Lib.hid (((B2.out.alloc #[.int .i64 X, .int .i64 Y, .bool b0, .int .i64 cf, .int .i64 df, .int .i64 R, .int .i64 S] 25).alloc #[.int .i64 R, .int .i64 S, .bool b0, .int .i64 cg, .int .i64 dg, .int .i64 (16 * x10), .int .i64 (16 * y10)] 25))
  have BC2 := Lib.hid (((BC.out.alloc #[.int .i64 X, .int .i64 Y, .bool b0, .int .i64 cf, .int .i64 df, .int .i64 R, .int .i64 S] 25).alloc #[.int .i64 R, .int .i64 S, .bool b0, .int .i64 cg, .int .i64 dg, .int .i64 (16 * x10), .int .i64 (16 * y10)] 25))
  have BD2 := Lib.hid (((BD.out.alloc #[.int .i64 X, .int .i64 Y, .bool b0, .int .i64 cf, .int .i64 df, .int .i64 R, .int .i64 S] 25).alloc #[.int .i64 R, .int .i64 S, .bool b0, .int .i64 cg, .int .i64 dg, .int .i64 (16 * x10), .int .i64 (16 * y10)] 25))
  obtain ⟨a0, a1, a2, a3, a4, a5, a6⟩ := BC2.out.at0
  obtain ⟨d0, d1, d2, d3, d4, d5, d6⟩ := BD2.out.at0
  go_wp2_with fail
  have HR0 := Lib.hid (rdE_four (Blk.new (W := w) (Z := (w6.alloc (.cells #[.int .i64 X, .int .i64 Y, .bool b0, .int .i64 cf, .int .i64 df, .int .i64 R, .int .i64 S] 25)).alloc (.cells #[.int .i64 R, .int .i64 S, .bool b0, .int .i64 cg, .int .i64 dg, .int .i64 (16 * x10), .int .i64 (16 * y10)] 25)) #[.int .i64 (16 * x00), .int .i64 (16 * y00), .bool b0, .int .i64 cc, .int .i64 dc, .int .i64 P, .int .i64 Q, .int .i64 P, .int .i64 Q, .bool b0, .int .i64 cd, .int .i64 dd, .int .i64 X, .int .i64 Y, .int .i64 X, .int .i64 Y, .bool b0, .int .i64 cf, .int .i64 df, .int .i64 R, .int .i64 S, .int .i64 R, .int .i64 S, .bool b0, .int .i64 cg, .int .i64 dg, .int .i64 (16 * x10), .int .i64 (16 * y10)] 25 (Nat.le_trans F6.out.2.2.1 (by simp; omega))))
  rw [show ((w6.alloc (.cells #[.int .i64 X, .int .i64 Y, .bool b0, .int .i64 cf, .int .i64 df, .int .i64 R, .int .i64 S] 25)).alloc (.cells #[.int .i64 R, .int .i64 S, .bool b0, .int .i64 cg, .int .i64 dg, .int .i64 (16 * x10), .int .i64 (16 * y10)] 25)).heap.size = w6.heap.size + 1 + 1 by simp] at HR0
  obtain ⟨s, hs⟩ : ∃ s, s = w6.heap.size + 1 + 1 := ⟨_, rfl⟩
  rw [← hs] at HR0 ⊢
  clear hs
  have HS : Hid (QS w p c d s (16 * x00) (16 * y00) b0 (16 * cx0) (16 * cy0) (16 * x10) (16 * y10) P Y [(⟨16 * x00, 16 * y00, b0, cc, dc, P, Q⟩ : Pl.Ed), (⟨P, Q, b0, cd, dd, X, Y⟩ : Pl.Ed), (⟨X, Y, b0, cf, df, R, S⟩ : Pl.Ed), (⟨R, S, b0, cg, dg, 16 * x10, 16 * y10⟩ : Pl.Ed)] (((w6.alloc (.cells #[.int .i64 X, .int .i64 Y, .bool b0, .int .i64 cf, .int .i64 df, .int .i64 R, .int .i64 S] 25)).alloc (.cells #[.int .i64 R, .int .i64 S, .bool b0, .int .i64 cg, .int .i64 dg, .int .i64 (16 * x10), .int .i64 (16 * y10)] 25)).alloc (.cells #[.int .i64 (16 * x00), .int .i64 (16 * y00), .bool b0, .int .i64 cc, .int .i64 dc, .int .i64 P, .int .i64 Q, .int .i64 P, .int .i64 Q, .bool b0, .int .i64 cd, .int .i64 dd, .int .i64 X, .int .i64 Y, .int .i64 X, .int .i64 Y, .bool b0, .int .i64 cf, .int .i64 df, .int .i64 R, .int .i64 S, .int .i64 R, .int .i64 S, .bool b0, .int .i64 cg, .int .i64 dg, .int .i64 (16 * x10), .int .i64 (16 * y10)] 25))) := Lib.hid (by
    obtain ⟨c0, c1, c2, c3, c4, c5, c6⟩ := (B3.out.alloc #[.int .i64 (16 * x00), .int .i64 (16 * y00), .bool b0, .int .i64 cc, .int .i64 dc, .int .i64 P, .int .i64 Q, .int .i64 P, .int .i64 Q, .bool b0, .int .i64 cd, .int .i64 dd, .int .i64 X, .int .i64 Y, .int .i64 X, .int .i64 Y, .bool b0, .int .i64 cf, .int .i64 df, .int .i64 R, .int .i64 S, .int .i64 R, .int .i64 S, .bool b0, .int .i64 cg, .int .i64 dg, .int .i64 (16 * x10), .int .i64 (16 * y10)] 25).at0
    exact ⟨c0, c1, c2, c3, c4, c5, c6, (BC2.out.alloc #[.int .i64 (16 * x00), .int .i64 (16 * y00), .bool b0, .int .i64 cc, .int .i64 dc, .int .i64 P, .int .i64 Q, .int .i64 P, .int .i64 Q, .bool b0, .int .i64 cd, .int .i64 dd, .int .i64 X, .int .i64 Y, .int .i64 X, .int .i64 Y, .bool b0, .int .i64 cf, .int .i64 df, .int .i64 R, .int .i64 S, .int .i64 R, .int .i64 S, .bool b0, .int .i64 cg, .int .i64 dg, .int .i64 (16 * x10), .int .i64 (16 * y10)] 25).at 5 _ rfl, (BD2.out.alloc #[.int .i64 (16 * x00), .int .i64 (16 * y00), .bool b0, .int .i64 cc, .int .i64 dc, .int .i64 P, .int .i64 Q, .int .i64 P, .int .i64 Q, .bool b0, .int .i64 cd, .int .i64 dd, .int .i64 X, .int .i64 Y, .int .i64 X, .int .i64 Y, .bool b0, .int .i64 cf, .int .i64 df, .int .i64 R, .int .i64 S, .int .i64 R, .int .i64 S, .bool b0, .int .i64 cg, .int .i64 dg, .int .i64 (16 * x10), .int .i64 (16 * y10)] 25).at 6 _ rfl, HR0.out, ((F6.out.trans (Fr.alloc _ _ _)).trans (Fr.alloc _ _ _)).trans (Fr.alloc _ _ _)⟩)
  clear HR0 B3 BC2 BD2 B2 BC BD F6 CP5000 HN Hgx Hgy a0 a1 a2 a3 a4 a5 a6 d0 d1 d2 d3 d4 d5 d6
  have LS0 := Lib.hid (fun Z (h : QS w p c d s (16 * x00) (16 * y00) b0 (16 * cx0) (16 * cy0) (16 * x10) (16 * y10) P Y [(⟨16 * x00, 16 * y00, b0, cc, dc, P, Q⟩ : Pl.Ed), (⟨P, Q, b0, cd, dd, X, Y⟩ : Pl.Ed), (⟨X, Y, b0, cf, df, R, S⟩ : Pl.Ed), (⟨R, S, b0, cg, dg, 16 * x10, 16 * y10⟩ : Pl.Ed)] Z) => (TS0.out s Z h.2.2.2.2.2.2.2.2.2.1).mono fun en w' hh => (⟨hh.1, h.fr hh.2⟩ : _ ∧ QS w p c d s (16 * x00) (16 * y00) b0 (16 * cx0) (16 * cy0) (16 * x10) (16 * y10) P Y [(⟨16 * x00, 16 * y00, b0, cc, dc, P, Q⟩ : Pl.Ed), (⟨P, Q, b0, cd, dd, X, Y⟩ : Pl.Ed), (⟨X, Y, b0, cf, df, R, S⟩ : Pl.Ed), (⟨R, S, b0, cg, dg, 16 * x10, 16 * y10⟩ : Pl.Ed)] w'))
  have LE0 := Lib.hid (fun Z (h : QS w p c d s (16 * x00) (16 * y00) b0 (16 * cx0) (16 * cy0) (16 * x10) (16 * y10) P Y [(⟨16 * x00, 16 * y00, b0, cc, dc, P, Q⟩ : Pl.Ed), (⟨P, Q, b0, cd, dd, X, Y⟩ : Pl.Ed), (⟨X, Y, b0, cf, df, R, S⟩ : Pl.Ed), (⟨R, S, b0, cg, dg, 16 * x10, 16 * y10⟩ : Pl.Ed)] Z) => (TE0.out Z).mono fun en w' hh => (⟨hh.1, h.fr hh.2⟩ : _ ∧ QS w p c d s (16 * x00) (16 * y00) b0 (16 * cx0) (16 * cy0) (16 * x10) (16 * y10) P Y [(⟨16 * x00, 16 * y00, b0, cc, dc, P, Q⟩ : Pl.Ed), (⟨P, Q, b0, cd, dd, X, Y⟩ : Pl.Ed), (⟨X, Y, b0, cf, df, R, S⟩ : Pl.Ed), (⟨R, S, b0, cg, dg, 16 * x10, 16 * y10⟩ : Pl.Ed)] w'))
  have LS1 := Lib.hid (fun Z (h : QS w p c d s (16 * x00) (16 * y00) b0 (16 * cx0) (16 * cy0) (16 * x10) (16 * y10) P Y [(⟨16 * x00, 16 * y00, b0, cc, dc, P, Q⟩ : Pl.Ed), (⟨P, Q, b0, cd, dd, X, Y⟩ : Pl.Ed), (⟨X, Y, b0, cf, df, R, S⟩ : Pl.Ed), (⟨R, S, b0, cg, dg, 16 * x10, 16 * y10⟩ : Pl.Ed)] Z) => (TS1.out s Z h.2.2.2.2.2.2.2.2.2.1).mono fun en w' hh => (⟨hh.1, h.fr hh.2⟩ : _ ∧ QS w p c d s (16 * x00) (16 * y00) b0 (16 * cx0) (16 * cy0) (16 * x10) (16 * y10) P Y [(⟨16 * x00, 16 * y00, b0, cc, dc, P, Q⟩ : Pl.Ed), (⟨P, Q, b0, cd, dd, X, Y⟩ : Pl.Ed), (⟨X, Y, b0, cf, df, R, S⟩ : Pl.Ed), (⟨R, S, b0, cg, dg, 16 * x10, 16 * y10⟩ : Pl.Ed)] w'))
  have LE1 := Lib.hid (fun Z (h : QS w p c d s (16 * x00) (16 * y00) b0 (16 * cx0) (16 * cy0) (16 * x10) (16 * y10) P Y [(⟨16 * x00, 16 * y00, b0, cc, dc, P, Q⟩ : Pl.Ed), (⟨P, Q, b0, cd, dd, X, Y⟩ : Pl.Ed), (⟨X, Y, b0, cf, df, R, S⟩ : Pl.Ed), (⟨R, S, b0, cg, dg, 16 * x10, 16 * y10⟩ : Pl.Ed)] Z) => (TE1.out Z).mono fun en w' hh => (⟨hh.1, h.fr hh.2⟩ : _ ∧ QS w p c d s (16 * x00) (16 * y00) b0 (16 * cx0) (16 * cy0) (16 * x10) (16 * y10) P Y [(⟨16 * x00, 16 * y00, b0, cc, dc, P, Q⟩ : Pl.Ed), (⟨P, Q, b0, cd, dd, X, Y⟩ : Pl.Ed), (⟨X, Y, b0, cf, df, R, S⟩ : Pl.Ed), (⟨R, S, b0, cg, dg, 16 * x10, 16 * y10⟩ : Pl.Ed)] w'))
  have LS2 := Lib.hid (fun Z (h : QS w p c d s (16 * x00) (16 * y00) b0 (16 * cx0) (16 * cy0) (16 * x10) (16 * y10) P Y [(⟨16 * x00, 16 * y00, b0, cc, dc, P, Q⟩ : Pl.Ed), (⟨P, Q, b0, cd, dd, X, Y⟩ : Pl.Ed), (⟨X, Y, b0, cf, df, R, S⟩ : Pl.Ed), (⟨R, S, b0, cg, dg, 16 * x10, 16 * y10⟩ : Pl.Ed)] Z) => (TS2.out s Z h.2.2.2.2.2.2.2.2.2.1).mono fun en w' hh => (⟨hh.1, h.fr hh.2⟩ : _ ∧ QS w p c d s (16 * x00) (16 * y00) b0 (16 * cx0) (16 * cy0) (16 * x10) (16 * y10) P Y [(⟨16 * x00, 16 * y00, b0, cc, dc, P, Q⟩ : Pl.Ed), (⟨P, Q, b0, cd, dd, X, Y⟩ : Pl.Ed), (⟨X, Y, b0, cf, df, R, S⟩ : Pl.Ed), (⟨R, S, b0, cg, dg, 16 * x10, 16 * y10⟩ : Pl.Ed)] w'))
  have LE2 := Lib.hid (fun Z (h : QS w p c d s (16 * x00) (16 * y00) b0 (16 * cx0) (16 * cy0) (16 * x10) (16 * y10) P Y [(⟨16 * x00, 16 * y00, b0, cc, dc, P, Q⟩ : Pl.Ed), (⟨P, Q, b0, cd, dd, X, Y⟩ : Pl.Ed), (⟨X, Y, b0, cf, df, R, S⟩ : Pl.Ed), (⟨R, S, b0, cg, dg, 16 * x10, 16 * y10⟩ : Pl.Ed)] Z) => (TE2.out Z).mono fun en w' hh => (⟨hh.1, h.fr hh.2⟩ : _ ∧ QS w p c d s (16 * x00) (16 * y00) b0 (16 * cx0) (16 * cy0) (16 * x10) (16 * y10) P Y [(⟨16 * x00, 16 * y00, b0, cc, dc, P, Q⟩ : Pl.Ed), (⟨P, Q, b0, cd, dd, X, Y⟩ : Pl.Ed), (⟨X, Y, b0, cf, df, R, S⟩ : Pl.Ed), (⟨R, S, b0, cg, dg, 16 * x10, 16 * y10⟩ : Pl.Ed)] w'))
  clear TS0 TS1 TS2 TE0 TE1 TE2
  go_region_held3 (fun Z => Z.cell? ⟨p, 0, none⟩ = some (.int .i64 (16 * x00)) ∧ Z.cell? ⟨p, 1, none⟩ = some (.int .i64 (16 * y00)) ∧ Z.cell? ⟨p, 2, none⟩ = some (.bool b0) ∧ Z.cell? ⟨p, 3, none⟩ = some (.int .i64 (16 * cx0)) ∧ Z.cell? ⟨p, 4, none⟩ = some (.int .i64 (16 * cy0)) ∧ Z.cell? ⟨p, 5, none⟩ = some (.int .i64 (16 * x10)) ∧ Z.cell? ⟨p, 6, none⟩ = some (.int .i64 (16 * y10)) ∧ Z.cell? ⟨c, 5, none⟩ = some (.int .i64 P) ∧ Z.cell? ⟨d, 6, none⟩ = some (.int .i64 Y) ∧ RdE (.slice (some ⟨s, 0, none⟩) 4 4) [(⟨16 * x00, 16 * y00, b0, cc, dc, P, Q⟩ : Pl.Ed), (⟨P, Q, b0, cd, dd, X, Y⟩ : Pl.Ed), (⟨X, Y, b0, cf, df, R, S⟩ : Pl.Ed), (⟨R, S, b0, cg, dg, 16 * x10, 16 * y10⟩ : Pl.Ed)] Z ∧ Fr (fun _ => False) w Z)
    (first | assumption | exact HS.out.fr ((Fr.refl (fun _ => False) _).drew))
    (first
      | (go_at_call 19; first | (with_reducible refine Calls.mono (LE0.out _ ?_) ?_; (assumption); rintro e w' ⟨rfl, hS⟩) | (with_reducible refine Calls.mono (LE1.out _ ?_) ?_; (assumption); rintro e w' ⟨rfl, hS⟩) | (with_reducible refine Calls.mono (LE2.out _ ?_) ?_; (assumption); rintro e w' ⟨rfl, hS⟩))
      | (go_at_call 26; first | (with_reducible refine Calls.mono (LS0.out _ ?_) ?_; (assumption); rintro e w' ⟨rfl, hS⟩) | (with_reducible refine Calls.mono (LS1.out _ ?_) ?_; (assumption); rintro e w' ⟨rfl, hS⟩) | (with_reducible refine Calls.mono (LS2.out _ ?_) ?_; (assumption); rintro e w' ⟨rfl, hS⟩)))
  all_goals
    go_wp2_with fail
    go_ret
    exact ⟨rfl, Kept.of_fr (‹QS w p c d s (16 * x00) (16 * y00) b0 (16 * cx0) (16 * cy0) (16 * x10) (16 * y10) P Y [(⟨16 * x00, 16 * y00, b0, cc, dc, P, Q⟩ : Pl.Ed), (⟨P, Q, b0, cd, dd, X, Y⟩ : Pl.Ed), (⟨X, Y, b0, cf, df, R, S⟩ : Pl.Ed), (⟨R, S, b0, cg, dg, 16 * x10, 16 * y10⟩ : Pl.Ed)] _›).2.2.2.2.2.2.2.2.2.2⟩
theorem law_BowQuarters (v0 : Value) (N : List Int) (x y : Int) (w : World) (h0 : RdI v0 N w ∧ N.length ≤ maxLen) (_ : (Lit.int .i64 x).wf = true) (_ : (Lit.int .i64 y).wf = true) :
    Calls Try.prog 11 #[v0, .int .i64 x, .int .i64 y] w fun en w' => en = .returned (.bool true) ∧ Kept w w' := walk_BowQuarters v0 N x y w h0.1
end Go.Proofs.Ytnienpalbfgflaa
