/- The walks of package bow: bent, where there are roots. -/
import Derived.Test.YtnienpalbfgflaaBW5
namespace Go.Proofs.Ytnienpalbfgflaa
set_option linter.unusedVariables false
open Go.RowKit

set_option maxHeartbeats 8000000 in
set_option maxRecDepth 100000 in
theorem bent_coreP (x0 y0 : Int) (bb : Bool) (cx cy x1 y1 y a b c ax bx B P d r1 r2 r3 r4 u1 u2 u3 u4 u5 v1 v2 v A : Int) (h1 : -8191 ≤ x0 ∧ x0 ≤ 8191) (h2 : -8191 ≤ y0 ∧ y0 ≤ 8191) (h3 : -8191 ≤ cx ∧ cx ≤ 8191) (h4 : -8191 ≤ cy ∧ cy ≤ 8191) (h5 : -8191 ≤ x1 ∧ x1 ≤ 8191) (h6 : -8191 ≤ y1 ∧ y1 ≤ 8191) (h7 : -8191 ≤ y ∧ y ≤ 8191)
    (ha : y0 - 2 * cy + y1 = a) (hb : cy - y0 = b) (hc : y0 - y = c) (hax : x0 - 2 * cx + x1 = ax) (hbx : cx - x0 = bx) (hB : b * b = B) (hP : a * c = P) (hd : B - P = d) (hn : 0 < d ∨ (d = 0 ∧ 0 < a)) (ha1 : 0 < a)
    (hr1 : Hid (Pl.rsign (-b) 1 d = r1)) (hr2 : Hid (Pl.rsign (-b - a) 1 d = r2)) (hr3 : Hid (Pl.rsign (-b) (-1) d = r3)) (hr4 : Hid (Pl.rsign (-b - a) (-1) d = r4))
    (hu1 : x0 * a = u1) (hu2 : u1 * a = u2) (hu3 : 2 * a * b = u3) (hu4 : u3 * bx = u4) (hu5 : ax * (B + d) = u5) (hv1 : 2 * a * bx = v1) (hv2 : 2 * b * ax = v2) (hv : v1 - v2 = v) (hA : a * a = A)
    (U D : Pl.Sp) (HU : Hid ((0 ≤ 1 * r1 ∧ 1 * r2 < 0 ∧ U = ⟨1, u2 - u4 + u5, v, d, A⟩) ∨ (¬ (0 ≤ 1 * r1 ∧ 1 * r2 < 0) ∧ U = Pl.Sp.z))) (HD : Hid ((0 < 1 * r3 ∧ 1 * r4 ≤ 0 ∧ D = ⟨-1, u2 - u4 + u5, -v, d, A⟩) ∨ (¬ (0 < 1 * r3 ∧ 1 * r4 ≤ 0) ∧ D = Pl.Sp.z))) (W : World) :
    Calls Try.prog 41 #[.agg #[.int .i64 x0, .int .i64 y0, .bool bb, .int .i64 cx, .int .i64 cy, .int .i64 x1, .int .i64 y1], .int .i64 y] W fun en w' => en = .returned (spp U D) ∧ Grown W w' := by
  have ha0 : a ≠ 0 := by omega
  have k1 := Pl.bd_mul 16382 16382 (show -16382 ≤ b ∧ b ≤ 16382 by omega) (show -16382 ≤ b ∧ b ≤ 16382 by omega)
  have k2 := Pl.bd_mul 32764 16382 (show -32764 ≤ a ∧ a ≤ 32764 by omega) (show -16382 ≤ c ∧ c ≤ 16382 by omega)
  rw [hB] at k1
  rw [hP] at k2
  obtain ⟨k3, k4⟩ := k1
  obtain ⟨k5, k6⟩ := k2
  have hab : (a == 0) = false := beq_eq_false_iff_ne.2 ha0
  clear ha0
  have bA : -32764 ≤ a ∧ a ≤ 32764 := by omega
  have bB : -16382 ≤ b ∧ b ≤ 16382 := by omega
  have bX : -32764 ≤ ax ∧ ax ≤ 32764 := by omega
  have bY : -16382 ≤ bx ∧ bx ≤ 16382 := by omega
  have q1 := Pl.bd_mul _ _ h1 bA
  rw [hu1] at q1
  have q2 := Pl.bd_mul _ _ q1 bA
  rw [hu2] at q2
  have q3 := Pl.bd_mul 65528 16382 (show -65528 ≤ 2 * a ∧ 2 * a ≤ 65528 by omega) bB
  rw [hu3] at q3
  have q4 := Pl.bd_mul _ _ q3 bY
  rw [hu4] at q4
  have q5 := Pl.bd_mul 32764 2415919104 bX (show -2415919104 ≤ B + d ∧ B + d ≤ 2415919104 by omega)
  rw [hu5] at q5
  have q6 := Pl.bd_mul 65528 16382 (show -65528 ≤ 2 * a ∧ 2 * a ≤ 65528 by omega) bY
  rw [hv1] at q6
  have q7 := Pl.bd_mul 32764 32764 (show -32764 ≤ 2 * b ∧ 2 * b ≤ 32764 by omega) bX
  rw [hv2] at q7
  have q8 := Pl.bd_mul _ _ bA bA
  rw [hA] at q8
  have ok1 : Pl.okq 1 d := by unfold Pl.okq; omega
  have ok2 : Pl.okq (-1) d := by unfold Pl.okq; omega
  have C1 := Lib.hid (fun Z => bsign_ok (-b) 1 d (by omega) ok1 Z)
  have C2 := Lib.hid (fun Z => bsign_ok (-b - a) 1 d (by omega) ok1 Z)
  have C3 := Lib.hid (fun Z => bsign_ok (-b) (-1) d (by omega) ok2 Z)
  have C4 := Lib.hid (fun Z => bsign_ok (-b - a) (-1) d (by omega) ok2 Z)
  have s1 := Pl.rsign_bd (-b) 1 d
  have s2 := Pl.rsign_bd (-b - a) 1 d
  have s3 := Pl.rsign_bd (-b) (-1) d
  have s4 := Pl.rsign_bd (-b - a) (-1) d
  rw [hr1.out] at C1 s1
  rw [hr2.out] at C2 s2
  rw [hr3.out] at C3 s3
  rw [hr4.out] at C4 s4
  have nb : d < 0 ∨ ¬ d < 0 := Classical.em _
  have hdd : (d == 0) = false ∨ ((d == 0) = true ∧ 0 < a) := hn.imp (fun h => beq_eq_false_iff_ne.2 (by omega)) (fun h => ⟨beq_iff_eq.2 h.1, h.2⟩)
  have hd0 : 0 ≤ d := by omega
  clear hr1 hr2 hr3 hr4 nb hn ok1 ok2
  have i0 : ∀ W, (Instr.index 77 (.agg #[.int .i64 1, .int .i64 (-1)]) (.int .i64 0)).run Try.prog W = .ok (.int .i64 1) W := fun W => rfl
  have i1 : ∀ W, (Instr.index 77 (.agg #[.int .i64 1, .int .i64 (-1)]) (.int .i64 1)).run Try.prog W = .ok (.int .i64 (-1)) W := fun W => rfl
  rcases hdd with hdb | ⟨hdb, _⟩
  all_goals
    go_enter Try.func41, Try.ntmps41
    go_wp2_with fail
    go_quiet (fail)
    go_wp2_with fail
    go_quiet (fail)
    generalize hZ : World.drewN _ _ = Z
    have BT : Hid (Bt W [.int .i64 x0, .int .i64 y0, .bool bb, .int .i64 cx, .int .i64 cy, .int .i64 x1, .int .i64 y1] [.int .i64 0, .int .i64 0, .int .i64 0, .int .i64 0, .int .i64 0, .int .i64 0, .int .i64 0, .int .i64 0, .int .i64 0, .int .i64 0] Z) := Lib.hid (by rw [← hZ]; exact ((Bt.start W #[.int .i64 x0, .int .i64 y0, .bool bb, .int .i64 cx, .int .i64 cy, .int .i64 x1, .int .i64 y1] #[.int .i64 0, .int .i64 0, .int .i64 0, .int .i64 0, .int .i64 0, .int .i64 0, .int .i64 0, .int .i64 0, .int .i64 0, .int .i64 0] 25 58).drewN _).drewN _)
    clear hZ
    obtain ⟨e0, e1, e2, e3, e4, e5, e6⟩ := BT.out.1.at0
    go_wp2_with fail
    clear e0 e1 e2 e3 e4 e5 e6
    go_loopw [80] (fun s wr => ∃ j : Nat, s = .int .i64 (j : Int) ∧ ((j = 0 ∧ Hid (Bt W [.int .i64 x0, .int .i64 y0, .bool bb, .int .i64 cx, .int .i64 cy, .int .i64 x1, .int .i64 y1] [.int .i64 0, .int .i64 0, .int .i64 0, .int .i64 0, .int .i64 0, .int .i64 0, .int .i64 0, .int .i64 0, .int .i64 0, .int .i64 0] wr)) ∨ (j = 1 ∧ Hid (Bt W [.int .i64 x0, .int .i64 y0, .bool bb, .int .i64 cx, .int .i64 cy, .int .i64 x1, .int .i64 y1] [.int .i64 U.t, .int .i64 U.p, .int .i64 U.q, .int .i64 U.d, .int .i64 U.m, .int .i64 0, .int .i64 0, .int .i64 0, .int .i64 0, .int .i64 0] wr)) ∨ (j = 2 ∧ Hid (Bt W [.int .i64 x0, .int .i64 y0, .bool bb, .int .i64 cx, .int .i64 cy, .int .i64 x1, .int .i64 y1] [.int .i64 U.t, .int .i64 U.p, .int .i64 U.q, .int .i64 U.d, .int .i64 U.m, .int .i64 D.t, .int .i64 D.p, .int .i64 D.q, .int .i64 D.d, .int .i64 D.m] wr)))) (fun s _ => (2 - intOf s).toNat)
    case atStart => exact ⟨0, rfl, .inl ⟨rfl, BT⟩⟩
    case round =>
      clear BT
      obtain ⟨j, rfl, ⟨rfl, BT⟩ | ⟨rfl, BT⟩ | ⟨rfl, BT⟩⟩ := hrel
      · go_wp2_with fail
        refine (C1.out _).mono ?_
        rintro e w1 ⟨rfl, g1⟩
        have BT1 := Lib.hid (BT.out.grow g1)
        clear g1
        go_wp2_with fail
        refine (C2.out _).mono ?_
        rintro e w2 ⟨rfl, g2⟩
        have BT2 := Lib.hid (BT1.out.grow g2)
        clear g2 BT1
        obtain ⟨e0, e1, e2, e3, e4, e5, e6⟩ := BT2.out.1.at0
        obtain ⟨c0, c1, c2, c3, c4, c5, c6, c7, c8, c9⟩ := BT2.out.2.1.at10
        have fz := BT2.out.2.1.2.2.2
        have kk : (0 ≤ 1 * r1 ∧ 1 * r2 < 0) ∨ 1 * r1 < 0 ∨ (0 ≤ 1 * r1 ∧ 0 ≤ 1 * r2) := by omega
        rcases HU.out with ⟨m1, m2, m3⟩ | ⟨m1, m3⟩
        · have HN := Lib.hid m3
          clear m3 kk
          go_wp2_with fail
          all_goals
            exact ⟨⟨1, rfl, .inr (.inl ⟨rfl, Lib.hid (by rw [HN.out]; exact BT2.out.lo)⟩)⟩, by decide⟩
        · have HN := Lib.hid m3
          clear m3
          rcases kk with kk | kk | kk
          · exact absurd kk m1
          · clear m1
            go_wp2_with fail
            all_goals exact ⟨⟨1, rfl, .inr (.inl ⟨rfl, Lib.hid (by rw [HN.out]; exact BT2.out)⟩)⟩, by decide⟩
          · obtain ⟨kk1, kk2⟩ := kk
            clear m1
            go_wp2_with fail
            all_goals exact ⟨⟨1, rfl, .inr (.inl ⟨rfl, Lib.hid (by rw [HN.out]; exact BT2.out)⟩)⟩, by decide⟩
      · go_wp2_with fail
        refine (C3.out _).mono ?_
        rintro e w1 ⟨rfl, g1⟩
        have BT1 := Lib.hid (BT.out.grow g1)
        clear g1
        go_wp2_with fail
        refine (C4.out _).mono ?_
        rintro e w2 ⟨rfl, g2⟩
        have BT2 := Lib.hid (BT1.out.grow g2)
        clear g2 BT1
        obtain ⟨e0, e1, e2, e3, e4, e5, e6⟩ := BT2.out.1.at0
        obtain ⟨c0, c1, c2, c3, c4, c5, c6, c7, c8, c9⟩ := BT2.out.2.1.at10
        have fz := BT2.out.2.1.2.2.2
        have kk : (0 < 1 * r3 ∧ 1 * r4 ≤ 0) ∨ 1 * r3 ≤ 0 ∨ (0 < 1 * r3 ∧ 0 < 1 * r4) := by omega
        rcases HD.out with ⟨m1, m2, m3⟩ | ⟨m1, m3⟩
        · have HN := Lib.hid m3
          clear m3 kk
          go_wp2_with fail
          all_goals
            exact ⟨⟨2, rfl, .inr (.inr ⟨rfl, Lib.hid (by rw [HN.out]; exact BT2.out.hi)⟩)⟩, by decide⟩
        · have HN := Lib.hid m3
          clear m3
          rcases kk with kk | kk | kk
          · exact absurd kk m1
          · clear m1
            go_wp2_with fail
            all_goals exact ⟨⟨2, rfl, .inr (.inr ⟨rfl, Lib.hid (by rw [HN.out]; exact BT2.out)⟩)⟩, by decide⟩
          · obtain ⟨kk1, kk2⟩ := kk
            clear m1
            go_wp2_with fail
            all_goals exact ⟨⟨2, rfl, .inr (.inr ⟨rfl, Lib.hid (by rw [HN.out]; exact BT2.out)⟩)⟩, by decide⟩
      · obtain ⟨c0, c1, c2, c3, c4, c5, c6, c7, c8, c9⟩ := BT.out.2.1.at10
        have fz := BT.out.2.1.2.2.2
        go_wp2_with fail
        exact post_bt Try.results41 rfl BT.out.all rfl (fun g => ⟨rfl, g⟩)
end Go.Proofs.Ytnienpalbfgflaa
