/- The walk of arith.two: and, or, xor. -/
import Derived.Deep.DeepCutAuto
import Derived.Deep.RegionHeld3
import Derived.Test.YtfmmomdmemcbbaaGreatM6
import Derived.Test.YtfmmomdmemcbbaaGreatA9a
set_option maxHeartbeats 4000000
set_option maxRecDepth 100000
namespace Go.Proofs.YtfmmomdmemcbbaaGreat
set_option linter.unusedVariables false
open Go.RowKit
theorem map_bits (W : World) (pa pb : Nat) : ∃ r w1 w2 w3 w4, (Instr.makeMap 70 none).run Tryz.prog W = .ok (.map (some r)) w1 ∧
    (Instr.mapUpdate 70 (.map (some r)) (.int .i64 27) (.func (.func 43) #[] #[.pointer (some ⟨pa, 0, none⟩), .pointer (some ⟨pb, 0, none⟩)])).run Tryz.prog w1 = .ok () w2 ∧
    (Instr.mapUpdate 70 (.map (some r)) (.int .i64 28) (.func (.func 44) #[] #[.pointer (some ⟨pa, 0, none⟩), .pointer (some ⟨pb, 0, none⟩)])).run Tryz.prog w2 = .ok () w3 ∧
    (Instr.mapUpdate 70 (.map (some r)) (.int .i64 29) (.func (.func 45) #[] #[.pointer (some ⟨pa, 0, none⟩), .pointer (some ⟨pb, 0, none⟩)])).run Tryz.prog w3 = .ok () w4 ∧
    Grown W w4 ∧
    (Instr.lookup 70 (.map (some r)) (.int .i64 27) false).run Tryz.prog w4 = .ok (.func (.func 43) #[] #[.pointer (some ⟨pa, 0, none⟩), .pointer (some ⟨pb, 0, none⟩)]) w4 ∧
    (Instr.lookup 70 (.map (some r)) (.int .i64 28) false).run Tryz.prog w4 = .ok (.func (.func 44) #[] #[.pointer (some ⟨pa, 0, none⟩), .pointer (some ⟨pb, 0, none⟩)]) w4 ∧
    (Instr.lookup 70 (.map (some r)) (.int .i64 29) false).run Tryz.prog w4 = .ok (.func (.func 45) #[] #[.pointer (some ⟨pa, 0, none⟩), .pointer (some ⟨pb, 0, none⟩)]) w4 := by
  have m1 := MapAt.new (Grown.refl W)
  obtain ⟨w2, r2, m2⟩ := m1.put 70 _ 27 (.func (.func 43) #[] #[.pointer (some ⟨pa, 0, none⟩), .pointer (some ⟨pb, 0, none⟩)]) Tryz.underlying70 rfl
  obtain ⟨w3, r3, m3⟩ := m2.put 70 _ 28 (.func (.func 44) #[] #[.pointer (some ⟨pa, 0, none⟩), .pointer (some ⟨pb, 0, none⟩)]) Tryz.underlying70 rfl
  obtain ⟨w4, r4, m4⟩ := m3.put 70 _ 29 (.func (.func 45) #[] #[.pointer (some ⟨pa, 0, none⟩), .pointer (some ⟨pb, 0, none⟩)]) Tryz.underlying70 rfl
  exact ⟨_, _, _, _, _, run_makeMap_plain W _, r2, r3, r4, m4.2.2, m4.get _ _ 27 0 _ Tryz.underlying70 rfl, m4.get _ _ 28 1 _ Tryz.underlying70 rfl, m4.get _ _ 29 2 _ Tryz.underlying70 rfl⟩
theorem clos_and (pa pb : Nat) (a b : Int) (W : World) (ha : W.cell? ⟨pa, 2, none⟩ = some (.int .i64 a)) (hb : W.cell? ⟨pb, 2, none⟩ = some (.int .i64 b)) :
    Calls Tryz.prog 43 #[.pointer (some ⟨pa, 0, none⟩), .pointer (some ⟨pb, 0, none⟩)] W fun e w' => e = .returned (.int .i64 (bits .and .i64 a b)) ∧ W = w' := by
  go_enter Tryz.func43, Tryz.ntmps43
  go_wp2
  go_ret
  exact ⟨rfl, rfl⟩
theorem clos_or (pa pb : Nat) (a b : Int) (W : World) (ha : W.cell? ⟨pa, 2, none⟩ = some (.int .i64 a)) (hb : W.cell? ⟨pb, 2, none⟩ = some (.int .i64 b)) :
    Calls Tryz.prog 44 #[.pointer (some ⟨pa, 0, none⟩), .pointer (some ⟨pb, 0, none⟩)] W fun e w' => e = .returned (.int .i64 (bits .or .i64 a b)) ∧ W = w' := by
  go_enter Tryz.func44, Tryz.ntmps44
  go_wp2
  go_ret
  exact ⟨rfl, rfl⟩
theorem clos_xor (pa pb : Nat) (a b : Int) (W : World) (ha : W.cell? ⟨pa, 2, none⟩ = some (.int .i64 a)) (hb : W.cell? ⟨pb, 2, none⟩ = some (.int .i64 b)) :
    Calls Tryz.prog 45 #[.pointer (some ⟨pa, 0, none⟩), .pointer (some ⟨pb, 0, none⟩)] W fun e w' => e = .returned (.int .i64 (bits .xor .i64 a b)) ∧ W = w' := by
  go_enter Tryz.func45, Tryz.ntmps45
  go_wp2
  go_ret
  exact ⟨rfl, rfl⟩
section
variable (W0 : World) (Pr : Nat → Prop) (p : Nat) (L : List Pl.Ob) (W : World) (hlen : L.length ≤ 200) (h : Stk W0 Pr p L W)
include h hlen
theorem two_27_33 (a b : Int) (x y : Bool) (ho1 : L.reverse[0]? = some (3, y, b, 0, 0, ⟨#[]⟩)) (ho0 : L.reverse[1]? = some (3, x, a, 0, 0, ⟨#[]⟩)) (h2 : 2 ≤ L.length) (hm0 : Pl.mayO (3, x, a, 0, 0, ⟨#[]⟩)) (hm1 : Pl.mayO (3, y, b, 0, 0, ⟨#[]⟩)) :
    Calls Tryz.prog 20 #[.pointer (some ⟨p, 0, none⟩), .int .i64 27] W fun e w' => e = .returned (.int .i64 (Pl.wholeR L 2 (bits .and .i64 a b)).1) ∧ Stk W0 Pr p (Pl.wholeR L 2 (bits .and .i64 a b)).2 w' ∧ FrS W0 Pr W w' := by
  have WX := Lib.hid (fun Z (hS : Stk W0 Pr p L Z) => whole_any W0 Pr p L Z hlen hS 2 h2 (bits .and .i64 a b))
  have HS := Lib.hid (h.grown ((Grown.refl W).alloc #[.int .i64 12, .int .i64 12] 3))
  have TK := Lib.hid (take2_ok W0 Pr p L _ hlen HS.out _ _ ho1 ho0 (Pl.mayO_kind hm0) (Pl.mayO_kind hm1) W.heap.size 2 (Nat.le_refl _) 12 12 (by simp [go_sem]) (by simp [go_sem]) (show Pl.fits 12 3 = true by decide) (show Pl.fits 12 3 = true by decide))
  clear h hlen ho1 ho0 h2 hm0 hm1
  go_enter Tryz.func20, Tryz.ntmps20
  go_wp2_with fail
  refine TK.out.mono ?_
  rintro e w2 ⟨g2, g, B2, rfl⟩
  have G2 := Lib.hid (grown_trans ((Grown.refl W).alloc #[.int .i64 12, .int .i64 12] 3) g2)
  have HS2 := Lib.hid (HS.out.grown g2)
  obtain ⟨c0, c1, c2, c3, c4, c5, d0, d1, d2, d3, d4, d5⟩ := B2.at12
  clear TK g2 HS B2
  have X1 := Lib.hid (AB.one G2.out HS2.out (3, x, a, 0, 0, ⟨#[]⟩) (3, y, b, 0, 0, ⟨#[]⟩) #[.int .i64 3, .bool x, .int .i64 a, .int .i64 0, .int .i64 0, .string ⟨#[]⟩] #[.int .i64 3, .bool y, .int .i64 b, .int .i64 0, .int .i64 0, .string ⟨#[]⟩] rfl rfl)
  have X2 := Lib.hid (AB.two G2.out HS2.out (3, x, a, 0, 0, ⟨#[]⟩) (3, y, b, 0, 0, ⟨#[]⟩) #[.int .i64 3, .bool x, .int .i64 a, .int .i64 0, .int .i64 0, .string ⟨#[]⟩] #[.int .i64 3, .bool y, .int .i64 b, .int .i64 0, .int .i64 0, .string ⟨#[]⟩] rfl rfl)
  clear G2 HS2
  go_upto_region 16 with fail
  go_cut [8, 9] (fun sa sb wx => ∃ pa pb, sa = .pointer (some ⟨pa, 0, none⟩) ∧ sb = .pointer (some ⟨pb, 0, none⟩) ∧ Hid (AB W0 Pr p L W (3, x, a, 0, 0, ⟨#[]⟩) (3, y, b, 0, 0, ⟨#[]⟩) pa pb wx))
  case first =>
    have hne := World.new_ne w2 _ c0
    go_region_held3 (fun Z => Z.cell? ⟨g, 0, none⟩ = some (.int .i64 3) ∧ Z.cell? ⟨g, 1, none⟩ = some (.bool x) ∧ Z.cell? ⟨g, 2, none⟩ = some (.int .i64 a) ∧ Z.cell? ⟨g, 3, none⟩ = some (.int .i64 0) ∧ Z.cell? ⟨g, 4, none⟩ = some (.int .i64 0) ∧ Z.cell? ⟨g, 5, none⟩ = some (.string ⟨#[]⟩) ∧ Z.cell? ⟨g, 6, none⟩ = some (.int .i64 3) ∧ Z.cell? ⟨g, 7, none⟩ = some (.bool y) ∧ Z.cell? ⟨g, 8, none⟩ = some (.int .i64 b) ∧ Z.cell? ⟨g, 9, none⟩ = some (.int .i64 0) ∧ Z.cell? ⟨g, 10, none⟩ = some (.int .i64 0) ∧ Z.cell? ⟨g, 11, none⟩ = some (.string ⟨#[]⟩)) (go_keep) (fail)
    all_goals
      go_wp2_with fail
      go_meet
      case rel => first | exact ⟨_, _, rfl, rfl, X1⟩ | exact ⟨_, _, rfl, rfl, X2⟩
  case rest =>
    obtain ⟨pa, pb, rfl, rfl, HAB⟩ := hcut
    clear c0 c1 c2 c3 c4 c5 d0 d1 d2 d3 d4 d5 X1 X2
    obtain ⟨c0, c1, c2, c3, c4, c5⟩ := HAB.out.1.cells0
    obtain ⟨d0, d1, d2, d3, d4, d5⟩ := HAB.out.2.1.cells0
    obtain ⟨r, u1, u2, u3, u4, m1, m2, m3, m4, gm, l27, l28, l29⟩ := map_bits wc pa pb
    have GM := Lib.hid (grown_trans HAB.out.2.2.1 gm)
    have HSM := Lib.hid (HAB.out.2.2.2.grown gm)
    have CC := Lib.hid (clos_and pa pb a b u4 (grown_cell gm c2) (grown_cell gm d2))
    have e0 := Lib.hid (grown_cell gm c0)
    clear gm
    go_wp2_with fail
    refine CC.out.mono ?_
    rintro e w5 ⟨rfl, rfl⟩
    have e0' := e0.out
    clear m1 m2 m3 m4 l27 l28 l29 CC c0 c1 c2 c3 c4 c5 d0 d1 d2 d3 d4 d5 HAB
    go_wp2_with fail
    refine (WX.out _ HSM.out).mono ?_
    rintro e w4 ⟨rfl, hs, hf⟩
    have H4 := Lib.hid (And.intro hs ((Fr.of_grown _ GM.out).trans hf))
    clear hs hf WX
    go_wp2_with fail
    go_ret
    exact ⟨rfl, H4.out⟩
theorem two_27_22_true (a b : Int) (x y : Bool) (ho1 : L.reverse[0]? = some (2, y, b, 0, 0, ⟨#[]⟩)) (ho0 : L.reverse[1]? = some (2, x, a, 0, 0, ⟨#[]⟩)) (h2 : 2 ≤ L.length) (hm0 : Pl.mayO (2, x, a, 0, 0, ⟨#[]⟩)) (hm1 : Pl.mayO (2, y, b, 0, 0, ⟨#[]⟩)) (hv : (bits .and .i64 a b == 1) = true) :
    Calls Tryz.prog 20 #[.pointer (some ⟨p, 0, none⟩), .int .i64 27] W fun e w' => e = .returned (.int .i64 (Pl.giveR L 2 [Pl.truth true]).1) ∧ Stk W0 Pr p (Pl.giveR L 2 [Pl.truth true]).2 w' ∧ FrS W0 Pr W w' := by
  have TR := Lib.hid (fun Z => truth_obj true Z)
  unfold Pl.truth at TR
  have HG := Lib.hid (fun Z (hS : Stk W0 Pr p L Z) b (hb : b = Z.heap.size) => give_row2 W0 Pr p L Z hlen hS (Pl.truth true) #[.int .i64 2, .bool false, .int .i64 1, .int .i64 0, .int .i64 0, .string ⟨#[]⟩] rfl h2 (by unfold Pl.mayO Pl.may Pl.truth Pl.bare; simp) b hb)
  obtain ⟨v, hvv⟩ : ∃ v, v = bits .and .i64 a b := ⟨_, rfl⟩
  have hv' : bits .and .i64 a b = v := hvv.symm
  rw [hv'] at hv
  clear hvv
  have HS := Lib.hid (h.grown ((Grown.refl W).alloc #[.int .i64 12, .int .i64 12] 3))
  have TK := Lib.hid (take2_ok W0 Pr p L _ hlen HS.out _ _ ho1 ho0 (Pl.mayO_kind hm0) (Pl.mayO_kind hm1) W.heap.size 2 (Nat.le_refl _) 12 12 (by simp [go_sem]) (by simp [go_sem]) (show Pl.fits 12 2 = true by decide) (show Pl.fits 12 2 = true by decide))
  clear h hlen ho1 ho0 h2 hm0 hm1
  go_enter Tryz.func20, Tryz.ntmps20
  go_wp2_with fail
  refine TK.out.mono ?_
  rintro e w2 ⟨g2, g, B2, rfl⟩
  have G2 := Lib.hid (grown_trans ((Grown.refl W).alloc #[.int .i64 12, .int .i64 12] 3) g2)
  have HS2 := Lib.hid (HS.out.grown g2)
  obtain ⟨c0, c1, c2, c3, c4, c5, d0, d1, d2, d3, d4, d5⟩ := B2.at12
  clear TK g2 HS B2
  have X1 := Lib.hid (AB.one G2.out HS2.out (2, x, a, 0, 0, ⟨#[]⟩) (2, y, b, 0, 0, ⟨#[]⟩) #[.int .i64 2, .bool x, .int .i64 a, .int .i64 0, .int .i64 0, .string ⟨#[]⟩] #[.int .i64 2, .bool y, .int .i64 b, .int .i64 0, .int .i64 0, .string ⟨#[]⟩] rfl rfl)
  have X2 := Lib.hid (AB.two G2.out HS2.out (2, x, a, 0, 0, ⟨#[]⟩) (2, y, b, 0, 0, ⟨#[]⟩) #[.int .i64 2, .bool x, .int .i64 a, .int .i64 0, .int .i64 0, .string ⟨#[]⟩] #[.int .i64 2, .bool y, .int .i64 b, .int .i64 0, .int .i64 0, .string ⟨#[]⟩] rfl rfl)
  clear G2 HS2
  go_upto_region 16 with fail
  go_cut [8, 9] (fun sa sb wx => ∃ pa pb, sa = .pointer (some ⟨pa, 0, none⟩) ∧ sb = .pointer (some ⟨pb, 0, none⟩) ∧ Hid (AB W0 Pr p L W (2, x, a, 0, 0, ⟨#[]⟩) (2, y, b, 0, 0, ⟨#[]⟩) pa pb wx))
  case first =>
    have hne := World.new_ne w2 _ c0
    go_region_held3 (fun Z => Z.cell? ⟨g, 0, none⟩ = some (.int .i64 2) ∧ Z.cell? ⟨g, 1, none⟩ = some (.bool x) ∧ Z.cell? ⟨g, 2, none⟩ = some (.int .i64 a) ∧ Z.cell? ⟨g, 3, none⟩ = some (.int .i64 0) ∧ Z.cell? ⟨g, 4, none⟩ = some (.int .i64 0) ∧ Z.cell? ⟨g, 5, none⟩ = some (.string ⟨#[]⟩) ∧ Z.cell? ⟨g, 6, none⟩ = some (.int .i64 2) ∧ Z.cell? ⟨g, 7, none⟩ = some (.bool y) ∧ Z.cell? ⟨g, 8, none⟩ = some (.int .i64 b) ∧ Z.cell? ⟨g, 9, none⟩ = some (.int .i64 0) ∧ Z.cell? ⟨g, 10, none⟩ = some (.int .i64 0) ∧ Z.cell? ⟨g, 11, none⟩ = some (.string ⟨#[]⟩)) (go_keep) (fail)
    all_goals
      go_wp2_with fail
      go_meet
      case rel => first | exact ⟨_, _, rfl, rfl, X1⟩ | exact ⟨_, _, rfl, rfl, X2⟩
  case rest =>
    obtain ⟨pa, pb, rfl, rfl, HAB⟩ := hcut
    clear c0 c1 c2 c3 c4 c5 d0 d1 d2 d3 d4 d5 X1 X2
    obtain ⟨c0, c1, c2, c3, c4, c5⟩ := HAB.out.1.cells0
    obtain ⟨d0, d1, d2, d3, d4, d5⟩ := HAB.out.2.1.cells0
    obtain ⟨r, u1, u2, u3, u4, m1, m2, m3, m4, gm, l27, l28, l29⟩ := map_bits wc pa pb
    have GM := Lib.hid (grown_trans HAB.out.2.2.1 gm)
    have HSM := Lib.hid (HAB.out.2.2.2.grown gm)
    have CC := Lib.hid (clos_and pa pb a b u4 (grown_cell gm c2) (grown_cell gm d2))
    have e0 := Lib.hid (grown_cell gm c0)
    clear gm
    go_wp2_with fail
    refine CC.out.mono ?_
    rintro e w5 ⟨rfl, rfl⟩
    have e0' := e0.out
    clear m1 m2 m3 m4 l27 l28 l29 CC c0 c1 c2 c3 c4 c5 d0 d1 d2 d3 d4 d5 HAB
    go_wp2_with fail
    refine (TR.out _).mono ?_
    rintro e w3 ⟨rfl, g3⟩
    have G3 := Lib.hid (grown_trans GM.out g3)
    have HS3 := Lib.hid (HSM.out.grown g3)
    clear g3 TR
    go_wp2_with fail
    with_reducible refine (HG.out _ HS3.out _ rfl).mono ?_
    rintro e w4 ⟨rfl, hs, hf⟩
    have H4 := Lib.hid (And.intro hs ((Fr.of_grown _ G3.out).trans hf))
    clear hs hf HG
    go_wp2_with fail
    go_ret
    exact ⟨rfl, H4.out⟩
theorem two_27_22_false (a b : Int) (x y : Bool) (ho1 : L.reverse[0]? = some (2, y, b, 0, 0, ⟨#[]⟩)) (ho0 : L.reverse[1]? = some (2, x, a, 0, 0, ⟨#[]⟩)) (h2 : 2 ≤ L.length) (hm0 : Pl.mayO (2, x, a, 0, 0, ⟨#[]⟩)) (hm1 : Pl.mayO (2, y, b, 0, 0, ⟨#[]⟩)) (hv : (bits .and .i64 a b == 1) = false) :
    Calls Tryz.prog 20 #[.pointer (some ⟨p, 0, none⟩), .int .i64 27] W fun e w' => e = .returned (.int .i64 (Pl.giveR L 2 [Pl.truth false]).1) ∧ Stk W0 Pr p (Pl.giveR L 2 [Pl.truth false]).2 w' ∧ FrS W0 Pr W w' := by
  have TR := Lib.hid (fun Z => truth_obj false Z)
  unfold Pl.truth at TR
  have HG := Lib.hid (fun Z (hS : Stk W0 Pr p L Z) b (hb : b = Z.heap.size) => give_row2 W0 Pr p L Z hlen hS (Pl.truth false) #[.int .i64 2, .bool false, .int .i64 0, .int .i64 0, .int .i64 0, .string ⟨#[]⟩] rfl h2 (by unfold Pl.mayO Pl.may Pl.truth Pl.bare; simp) b hb)
  obtain ⟨v, hvv⟩ : ∃ v, v = bits .and .i64 a b := ⟨_, rfl⟩
  have hv' : bits .and .i64 a b = v := hvv.symm
  rw [hv'] at hv
  clear hvv
  have HS := Lib.hid (h.grown ((Grown.refl W).alloc #[.int .i64 12, .int .i64 12] 3))
  have TK := Lib.hid (take2_ok W0 Pr p L _ hlen HS.out _ _ ho1 ho0 (Pl.mayO_kind hm0) (Pl.mayO_kind hm1) W.heap.size 2 (Nat.le_refl _) 12 12 (by simp [go_sem]) (by simp [go_sem]) (show Pl.fits 12 2 = true by decide) (show Pl.fits 12 2 = true by decide))
  clear h hlen ho1 ho0 h2 hm0 hm1
  go_enter Tryz.func20, Tryz.ntmps20
  go_wp2_with fail
  refine TK.out.mono ?_
  rintro e w2 ⟨g2, g, B2, rfl⟩
  have G2 := Lib.hid (grown_trans ((Grown.refl W).alloc #[.int .i64 12, .int .i64 12] 3) g2)
  have HS2 := Lib.hid (HS.out.grown g2)
  obtain ⟨c0, c1, c2, c3, c4, c5, d0, d1, d2, d3, d4, d5⟩ := B2.at12
  clear TK g2 HS B2
  have X1 := Lib.hid (AB.one G2.out HS2.out (2, x, a, 0, 0, ⟨#[]⟩) (2, y, b, 0, 0, ⟨#[]⟩) #[.int .i64 2, .bool x, .int .i64 a, .int .i64 0, .int .i64 0, .string ⟨#[]⟩] #[.int .i64 2, .bool y, .int .i64 b, .int .i64 0, .int .i64 0, .string ⟨#[]⟩] rfl rfl)
  have X2 := Lib.hid (AB.two G2.out HS2.out (2, x, a, 0, 0, ⟨#[]⟩) (2, y, b, 0, 0, ⟨#[]⟩) #[.int .i64 2, .bool x, .int .i64 a, .int .i64 0, .int .i64 0, .string ⟨#[]⟩] #[.int .i64 2, .bool y, .int .i64 b, .int .i64 0, .int .i64 0, .string ⟨#[]⟩] rfl rfl)
  clear G2 HS2
  go_upto_region 16 with fail
  go_cut [8, 9] (fun sa sb wx => ∃ pa pb, sa = .pointer (some ⟨pa, 0, none⟩) ∧ sb = .pointer (some ⟨pb, 0, none⟩) ∧ Hid (AB W0 Pr p L W (2, x, a, 0, 0, ⟨#[]⟩) (2, y, b, 0, 0, ⟨#[]⟩) pa pb wx))
  case first =>
    have hne := World.new_ne w2 _ c0
    go_region_held3 (fun Z => Z.cell? ⟨g, 0, none⟩ = some (.int .i64 2) ∧ Z.cell? ⟨g, 1, none⟩ = some (.bool x) ∧ Z.cell? ⟨g, 2, none⟩ = some (.int .i64 a) ∧ Z.cell? ⟨g, 3, none⟩ = some (.int .i64 0) ∧ Z.cell? ⟨g, 4, none⟩ = some (.int .i64 0) ∧ Z.cell? ⟨g, 5, none⟩ = some (.string ⟨#[]⟩) ∧ Z.cell? ⟨g, 6, none⟩ = some (.int .i64 2) ∧ Z.cell? ⟨g, 7, none⟩ = some (.bool y) ∧ Z.cell? ⟨g, 8, none⟩ = some (.int .i64 b) ∧ Z.cell? ⟨g, 9, none⟩ = some (.int .i64 0) ∧ Z.cell? ⟨g, 10, none⟩ = some (.int .i64 0) ∧ Z.cell? ⟨g, 11, none⟩ = some (.string ⟨#[]⟩)) (go_keep) (fail)
    all_goals
      go_wp2_with fail
      go_meet
      case rel => first | exact ⟨_, _, rfl, rfl, X1⟩ | exact ⟨_, _, rfl, rfl, X2⟩
  case rest =>
    obtain ⟨pa, pb, rfl, rfl, HAB⟩ := hcut
    clear c0 c1 c2 c3 c4 c5 d0 d1 d2 d3 d4 d5 X1 X2
    obtain ⟨c0, c1, c2, c3, c4, c5⟩ := HAB.out.1.cells0
    obtain ⟨d0, d1, d2, d3, d4, d5⟩ := HAB.out.2.1.cells0
    obtain ⟨r, u1, u2, u3, u4, m1, m2, m3, m4, gm, l27, l28, l29⟩ := map_bits wc pa pb
    have GM := Lib.hid (grown_trans HAB.out.2.2.1 gm)
    have HSM := Lib.hid (HAB.out.2.2.2.grown gm)
    have CC := Lib.hid (clos_and pa pb a b u4 (grown_cell gm c2) (grown_cell gm d2))
    have e0 := Lib.hid (grown_cell gm c0)
    clear gm
    go_wp2_with fail
    refine CC.out.mono ?_
    rintro e w5 ⟨rfl, rfl⟩
    have e0' := e0.out
    clear m1 m2 m3 m4 l27 l28 l29 CC c0 c1 c2 c3 c4 c5 d0 d1 d2 d3 d4 d5 HAB
    go_wp2_with fail
    refine (TR.out _).mono ?_
    rintro e w3 ⟨rfl, g3⟩
    have G3 := Lib.hid (grown_trans GM.out g3)
    have HS3 := Lib.hid (HSM.out.grown g3)
    clear g3 TR
    go_wp2_with fail
    with_reducible refine (HG.out _ HS3.out _ rfl).mono ?_
    rintro e w4 ⟨rfl, hs, hf⟩
    have H4 := Lib.hid (And.intro hs ((Fr.of_grown _ G3.out).trans hf))
    clear hs hf HG
    go_wp2_with fail
    go_ret
    exact ⟨rfl, H4.out⟩
theorem two_27_23 (a b : Int) (x y : Bool) (ho1 : L.reverse[0]? = some (3, y, b, 0, 0, ⟨#[]⟩)) (ho0 : L.reverse[1]? = some (2, x, a, 0, 0, ⟨#[]⟩)) (h2 : 2 ≤ L.length) (hm0 : Pl.mayO (2, x, a, 0, 0, ⟨#[]⟩)) (hm1 : Pl.mayO (3, y, b, 0, 0, ⟨#[]⟩)) :
    Calls Tryz.prog 20 #[.pointer (some ⟨p, 0, none⟩), .int .i64 27] W fun e w' => e = .returned (.int .i64 (((6, L) : Int × List Pl.Ob)).1) ∧ Stk W0 Pr p (((6, L) : Int × List Pl.Ob)).2 w' ∧ FrS W0 Pr W w' := by
  have HS := Lib.hid (h.grown ((Grown.refl W).alloc #[.int .i64 12, .int .i64 12] 3))
  have TK := Lib.hid (take2_ok W0 Pr p L _ hlen HS.out _ _ ho1 ho0 (Pl.mayO_kind hm0) (Pl.mayO_kind hm1) W.heap.size 2 (Nat.le_refl _) 12 12 (by simp [go_sem]) (by simp [go_sem]) (show Pl.fits 12 3 = true by decide) (show Pl.fits 12 2 = true by decide))
  clear h hlen ho1 ho0 h2 hm0 hm1
  go_enter Tryz.func20, Tryz.ntmps20
  go_wp2_with fail
  refine TK.out.mono ?_
  rintro e w2 ⟨g2, g, B2, rfl⟩
  have G2 := Lib.hid (grown_trans ((Grown.refl W).alloc #[.int .i64 12, .int .i64 12] 3) g2)
  have HS2 := Lib.hid (HS.out.grown g2)
  obtain ⟨c0, c1, c2, c3, c4, c5, d0, d1, d2, d3, d4, d5⟩ := B2.at12
  clear TK g2 HS B2
  have X1 := Lib.hid (AB.one G2.out HS2.out (2, x, a, 0, 0, ⟨#[]⟩) (3, y, b, 0, 0, ⟨#[]⟩) #[.int .i64 2, .bool x, .int .i64 a, .int .i64 0, .int .i64 0, .string ⟨#[]⟩] #[.int .i64 3, .bool y, .int .i64 b, .int .i64 0, .int .i64 0, .string ⟨#[]⟩] rfl rfl)
  have X2 := Lib.hid (AB.two G2.out HS2.out (2, x, a, 0, 0, ⟨#[]⟩) (3, y, b, 0, 0, ⟨#[]⟩) #[.int .i64 2, .bool x, .int .i64 a, .int .i64 0, .int .i64 0, .string ⟨#[]⟩] #[.int .i64 3, .bool y, .int .i64 b, .int .i64 0, .int .i64 0, .string ⟨#[]⟩] rfl rfl)
  clear G2 HS2
  go_upto_region 16 with fail
  go_cut [8, 9] (fun sa sb wx => ∃ pa pb, sa = .pointer (some ⟨pa, 0, none⟩) ∧ sb = .pointer (some ⟨pb, 0, none⟩) ∧ Hid (AB W0 Pr p L W (2, x, a, 0, 0, ⟨#[]⟩) (3, y, b, 0, 0, ⟨#[]⟩) pa pb wx))
  case first =>
    have hne := World.new_ne w2 _ c0
    go_region_held3 (fun Z => Z.cell? ⟨g, 0, none⟩ = some (.int .i64 2) ∧ Z.cell? ⟨g, 1, none⟩ = some (.bool x) ∧ Z.cell? ⟨g, 2, none⟩ = some (.int .i64 a) ∧ Z.cell? ⟨g, 3, none⟩ = some (.int .i64 0) ∧ Z.cell? ⟨g, 4, none⟩ = some (.int .i64 0) ∧ Z.cell? ⟨g, 5, none⟩ = some (.string ⟨#[]⟩) ∧ Z.cell? ⟨g, 6, none⟩ = some (.int .i64 3) ∧ Z.cell? ⟨g, 7, none⟩ = some (.bool y) ∧ Z.cell? ⟨g, 8, none⟩ = some (.int .i64 b) ∧ Z.cell? ⟨g, 9, none⟩ = some (.int .i64 0) ∧ Z.cell? ⟨g, 10, none⟩ = some (.int .i64 0) ∧ Z.cell? ⟨g, 11, none⟩ = some (.string ⟨#[]⟩)) (go_keep) (fail)
    all_goals
      go_wp2_with fail
      go_meet
      case rel => first | exact ⟨_, _, rfl, rfl, X1⟩ | exact ⟨_, _, rfl, rfl, X2⟩
  case rest =>
    obtain ⟨pa, pb, rfl, rfl, HAB⟩ := hcut
    clear c0 c1 c2 c3 c4 c5 d0 d1 d2 d3 d4 d5 X1 X2
    obtain ⟨c0, c1, c2, c3, c4, c5⟩ := HAB.out.1.cells0
    obtain ⟨d0, d1, d2, d3, d4, d5⟩ := HAB.out.2.1.cells0
    go_wp2_with fail
    go_ret
    exact ⟨rfl, HAB.out.2.2.2, Fr.of_grown _ HAB.out.2.2.1⟩
theorem two_27_32 (a b : Int) (x y : Bool) (ho1 : L.reverse[0]? = some (2, y, b, 0, 0, ⟨#[]⟩)) (ho0 : L.reverse[1]? = some (3, x, a, 0, 0, ⟨#[]⟩)) (h2 : 2 ≤ L.length) (hm0 : Pl.mayO (3, x, a, 0, 0, ⟨#[]⟩)) (hm1 : Pl.mayO (2, y, b, 0, 0, ⟨#[]⟩)) :
    Calls Tryz.prog 20 #[.pointer (some ⟨p, 0, none⟩), .int .i64 27] W fun e w' => e = .returned (.int .i64 (((6, L) : Int × List Pl.Ob)).1) ∧ Stk W0 Pr p (((6, L) : Int × List Pl.Ob)).2 w' ∧ FrS W0 Pr W w' := by
  have HS := Lib.hid (h.grown ((Grown.refl W).alloc #[.int .i64 12, .int .i64 12] 3))
  have TK := Lib.hid (take2_ok W0 Pr p L _ hlen HS.out _ _ ho1 ho0 (Pl.mayO_kind hm0) (Pl.mayO_kind hm1) W.heap.size 2 (Nat.le_refl _) 12 12 (by simp [go_sem]) (by simp [go_sem]) (show Pl.fits 12 2 = true by decide) (show Pl.fits 12 3 = true by decide))
  clear h hlen ho1 ho0 h2 hm0 hm1
  go_enter Tryz.func20, Tryz.ntmps20
  go_wp2_with fail
  refine TK.out.mono ?_
  rintro e w2 ⟨g2, g, B2, rfl⟩
  have G2 := Lib.hid (grown_trans ((Grown.refl W).alloc #[.int .i64 12, .int .i64 12] 3) g2)
  have HS2 := Lib.hid (HS.out.grown g2)
  obtain ⟨c0, c1, c2, c3, c4, c5, d0, d1, d2, d3, d4, d5⟩ := B2.at12
  clear TK g2 HS B2
  have X1 := Lib.hid (AB.one G2.out HS2.out (3, x, a, 0, 0, ⟨#[]⟩) (2, y, b, 0, 0, ⟨#[]⟩) #[.int .i64 3, .bool x, .int .i64 a, .int .i64 0, .int .i64 0, .string ⟨#[]⟩] #[.int .i64 2, .bool y, .int .i64 b, .int .i64 0, .int .i64 0, .string ⟨#[]⟩] rfl rfl)
  have X2 := Lib.hid (AB.two G2.out HS2.out (3, x, a, 0, 0, ⟨#[]⟩) (2, y, b, 0, 0, ⟨#[]⟩) #[.int .i64 3, .bool x, .int .i64 a, .int .i64 0, .int .i64 0, .string ⟨#[]⟩] #[.int .i64 2, .bool y, .int .i64 b, .int .i64 0, .int .i64 0, .string ⟨#[]⟩] rfl rfl)
  clear G2 HS2
  go_upto_region 16 with fail
  go_cut [8, 9] (fun sa sb wx => ∃ pa pb, sa = .pointer (some ⟨pa, 0, none⟩) ∧ sb = .pointer (some ⟨pb, 0, none⟩) ∧ Hid (AB W0 Pr p L W (3, x, a, 0, 0, ⟨#[]⟩) (2, y, b, 0, 0, ⟨#[]⟩) pa pb wx))
  case first =>
    have hne := World.new_ne w2 _ c0
    go_region_held3 (fun Z => Z.cell? ⟨g, 0, none⟩ = some (.int .i64 3) ∧ Z.cell? ⟨g, 1, none⟩ = some (.bool x) ∧ Z.cell? ⟨g, 2, none⟩ = some (.int .i64 a) ∧ Z.cell? ⟨g, 3, none⟩ = some (.int .i64 0) ∧ Z.cell? ⟨g, 4, none⟩ = some (.int .i64 0) ∧ Z.cell? ⟨g, 5, none⟩ = some (.string ⟨#[]⟩) ∧ Z.cell? ⟨g, 6, none⟩ = some (.int .i64 2) ∧ Z.cell? ⟨g, 7, none⟩ = some (.bool y) ∧ Z.cell? ⟨g, 8, none⟩ = some (.int .i64 b) ∧ Z.cell? ⟨g, 9, none⟩ = some (.int .i64 0) ∧ Z.cell? ⟨g, 10, none⟩ = some (.int .i64 0) ∧ Z.cell? ⟨g, 11, none⟩ = some (.string ⟨#[]⟩)) (go_keep) (fail)
    all_goals
      go_wp2_with fail
      go_meet
      case rel => first | exact ⟨_, _, rfl, rfl, X1⟩ | exact ⟨_, _, rfl, rfl, X2⟩
  case rest =>
    obtain ⟨pa, pb, rfl, rfl, HAB⟩ := hcut
    clear c0 c1 c2 c3 c4 c5 d0 d1 d2 d3 d4 d5 X1 X2
    obtain ⟨c0, c1, c2, c3, c4, c5⟩ := HAB.out.1.cells0
    obtain ⟨d0, d1, d2, d3, d4, d5⟩ := HAB.out.2.1.cells0
    go_wp2_with fail
    go_ret
    exact ⟨rfl, HAB.out.2.2.2, Fr.of_grown _ HAB.out.2.2.1⟩
theorem two_28_33 (a b : Int) (x y : Bool) (ho1 : L.reverse[0]? = some (3, y, b, 0, 0, ⟨#[]⟩)) (ho0 : L.reverse[1]? = some (3, x, a, 0, 0, ⟨#[]⟩)) (h2 : 2 ≤ L.length) (hm0 : Pl.mayO (3, x, a, 0, 0, ⟨#[]⟩)) (hm1 : Pl.mayO (3, y, b, 0, 0, ⟨#[]⟩)) :
    Calls Tryz.prog 20 #[.pointer (some ⟨p, 0, none⟩), .int .i64 28] W fun e w' => e = .returned (.int .i64 (Pl.wholeR L 2 (bits .or .i64 a b)).1) ∧ Stk W0 Pr p (Pl.wholeR L 2 (bits .or .i64 a b)).2 w' ∧ FrS W0 Pr W w' := by
  have WX := Lib.hid (fun Z (hS : Stk W0 Pr p L Z) => whole_any W0 Pr p L Z hlen hS 2 h2 (bits .or .i64 a b))
  have HS := Lib.hid (h.grown ((Grown.refl W).alloc #[.int .i64 12, .int .i64 12] 3))
  have TK := Lib.hid (take2_ok W0 Pr p L _ hlen HS.out _ _ ho1 ho0 (Pl.mayO_kind hm0) (Pl.mayO_kind hm1) W.heap.size 2 (Nat.le_refl _) 12 12 (by simp [go_sem]) (by simp [go_sem]) (show Pl.fits 12 3 = true by decide) (show Pl.fits 12 3 = true by decide))
  clear h hlen ho1 ho0 h2 hm0 hm1
  go_enter Tryz.func20, Tryz.ntmps20
  go_wp2_with fail
  refine TK.out.mono ?_
  rintro e w2 ⟨g2, g, B2, rfl⟩
  have G2 := Lib.hid (grown_trans ((Grown.refl W).alloc #[.int .i64 12, .int .i64 12] 3) g2)
  have HS2 := Lib.hid (HS.out.grown g2)
  obtain ⟨c0, c1, c2, c3, c4, c5, d0, d1, d2, d3, d4, d5⟩ := B2.at12
  clear TK g2 HS B2
  have X1 := Lib.hid (AB.one G2.out HS2.out (3, x, a, 0, 0, ⟨#[]⟩) (3, y, b, 0, 0, ⟨#[]⟩) #[.int .i64 3, .bool x, .int .i64 a, .int .i64 0, .int .i64 0, .string ⟨#[]⟩] #[.int .i64 3, .bool y, .int .i64 b, .int .i64 0, .int .i64 0, .string ⟨#[]⟩] rfl rfl)
  have X2 := Lib.hid (AB.two G2.out HS2.out (3, x, a, 0, 0, ⟨#[]⟩) (3, y, b, 0, 0, ⟨#[]⟩) #[.int .i64 3, .bool x, .int .i64 a, .int .i64 0, .int .i64 0, .string ⟨#[]⟩] #[.int .i64 3, .bool y, .int .i64 b, .int .i64 0, .int .i64 0, .string ⟨#[]⟩] rfl rfl)
  clear G2 HS2
  go_upto_region 16 with fail
  go_cut [8, 9] (fun sa sb wx => ∃ pa pb, sa = .pointer (some ⟨pa, 0, none⟩) ∧ sb = .pointer (some ⟨pb, 0, none⟩) ∧ Hid (AB W0 Pr p L W (3, x, a, 0, 0, ⟨#[]⟩) (3, y, b, 0, 0, ⟨#[]⟩) pa pb wx))
  case first =>
    have hne := World.new_ne w2 _ c0
    go_region_held3 (fun Z => Z.cell? ⟨g, 0, none⟩ = some (.int .i64 3) ∧ Z.cell? ⟨g, 1, none⟩ = some (.bool x) ∧ Z.cell? ⟨g, 2, none⟩ = some (.int .i64 a) ∧ Z.cell? ⟨g, 3, none⟩ = some (.int .i64 0) ∧ Z.cell? ⟨g, 4, none⟩ = some (.int .i64 0) ∧ Z.cell? ⟨g, 5, none⟩ = some (.string ⟨#[]⟩) ∧ Z.cell? ⟨g, 6, none⟩ = some (.int .i64 3) ∧ Z.cell? ⟨g, 7, none⟩ = some (.bool y) ∧ Z.cell? ⟨g, 8, none⟩ = some (.int .i64 b) ∧ Z.cell? ⟨g, 9, none⟩ = some (.int .i64 0) ∧ Z.cell? ⟨g, 10, none⟩ = some (.int .i64 0) ∧ Z.cell? ⟨g, 11, none⟩ = some (.string ⟨#[]⟩)) (go_keep) (fail)
    all_goals
      go_wp2_with fail
      go_meet
      case rel => first | exact ⟨_, _, rfl, rfl, X1⟩ | exact ⟨_, _, rfl, rfl, X2⟩
  case rest =>
    obtain ⟨pa, pb, rfl, rfl, HAB⟩ := hcut
    clear c0 c1 c2 c3 c4 c5 d0 d1 d2 d3 d4 d5 X1 X2
    obtain ⟨c0, c1, c2, c3, c4, c5⟩ := HAB.out.1.cells0
    obtain ⟨d0, d1, d2, d3, d4, d5⟩ := HAB.out.2.1.cells0
    obtain ⟨r, u1, u2, u3, u4, m1, m2, m3, m4, gm, l27, l28, l29⟩ := map_bits wc pa pb
    have GM := Lib.hid (grown_trans HAB.out.2.2.1 gm)
    have HSM := Lib.hid (HAB.out.2.2.2.grown gm)
    have CC := Lib.hid (clos_or pa pb a b u4 (grown_cell gm c2) (grown_cell gm d2))
    have e0 := Lib.hid (grown_cell gm c0)
    clear gm
    go_wp2_with fail
    refine CC.out.mono ?_
    rintro e w5 ⟨rfl, rfl⟩
    have e0' := e0.out
    clear m1 m2 m3 m4 l27 l28 l29 CC c0 c1 c2 c3 c4 c5 d0 d1 d2 d3 d4 d5 HAB
    go_wp2_with fail
    refine (WX.out _ HSM.out).mono ?_
    rintro e w4 ⟨rfl, hs, hf⟩
    have H4 := Lib.hid (And.intro hs ((Fr.of_grown _ GM.out).trans hf))
    clear hs hf WX
    go_wp2_with fail
    go_ret
    exact ⟨rfl, H4.out⟩
theorem two_28_22_true (a b : Int) (x y : Bool) (ho1 : L.reverse[0]? = some (2, y, b, 0, 0, ⟨#[]⟩)) (ho0 : L.reverse[1]? = some (2, x, a, 0, 0, ⟨#[]⟩)) (h2 : 2 ≤ L.length) (hm0 : Pl.mayO (2, x, a, 0, 0, ⟨#[]⟩)) (hm1 : Pl.mayO (2, y, b, 0, 0, ⟨#[]⟩)) (hv : (bits .or .i64 a b == 1) = true) :
    Calls Tryz.prog 20 #[.pointer (some ⟨p, 0, none⟩), .int .i64 28] W fun e w' => e = .returned (.int .i64 (Pl.giveR L 2 [Pl.truth true]).1) ∧ Stk W0 Pr p (Pl.giveR L 2 [Pl.truth true]).2 w' ∧ FrS W0 Pr W w' := by
  have TR := Lib.hid (fun Z => truth_obj true Z)
  unfold Pl.truth at TR
  have HG := Lib.hid (fun Z (hS : Stk W0 Pr p L Z) b (hb : b = Z.heap.size) => give_row2 W0 Pr p L Z hlen hS (Pl.truth true) #[.int .i64 2, .bool false, .int .i64 1, .int .i64 0, .int .i64 0, .string ⟨#[]⟩] rfl h2 (by unfold Pl.mayO Pl.may Pl.truth Pl.bare; simp) b hb)
  obtain ⟨v, hvv⟩ : ∃ v, v = bits .or .i64 a b := ⟨_, rfl⟩
  have hv' : bits .or .i64 a b = v := hvv.symm
  rw [hv'] at hv
  clear hvv
  have HS := Lib.hid (h.grown ((Grown.refl W).alloc #[.int .i64 12, .int .i64 12] 3))
  have TK := Lib.hid (take2_ok W0 Pr p L _ hlen HS.out _ _ ho1 ho0 (Pl.mayO_kind hm0) (Pl.mayO_kind hm1) W.heap.size 2 (Nat.le_refl _) 12 12 (by simp [go_sem]) (by simp [go_sem]) (show Pl.fits 12 2 = true by decide) (show Pl.fits 12 2 = true by decide))
  clear h hlen ho1 ho0 h2 hm0 hm1
  go_enter Tryz.func20, Tryz.ntmps20
  go_wp2_with fail
  refine TK.out.mono ?_
  rintro e w2 ⟨g2, g, B2, rfl⟩
  have G2 := Lib.hid (grown_trans ((Grown.refl W).alloc #[.int .i64 12, .int .i64 12] 3) g2)
  have HS2 := Lib.hid (HS.out.grown g2)
  obtain ⟨c0, c1, c2, c3, c4, c5, d0, d1, d2, d3, d4, d5⟩ := B2.at12
  clear TK g2 HS B2
  have X1 := Lib.hid (AB.one G2.out HS2.out (2, x, a, 0, 0, ⟨#[]⟩) (2, y, b, 0, 0, ⟨#[]⟩) #[.int .i64 2, .bool x, .int .i64 a, .int .i64 0, .int .i64 0, .string ⟨#[]⟩] #[.int .i64 2, .bool y, .int .i64 b, .int .i64 0, .int .i64 0, .string ⟨#[]⟩] rfl rfl)
  have X2 := Lib.hid (AB.two G2.out HS2.out (2, x, a, 0, 0, ⟨#[]⟩) (2, y, b, 0, 0, ⟨#[]⟩) #[.int .i64 2, .bool x, .int .i64 a, .int .i64 0, .int .i64 0, .string ⟨#[]⟩] #[.int .i64 2, .bool y, .int .i64 b, .int .i64 0, .int .i64 0, .string ⟨#[]⟩] rfl rfl)
  clear G2 HS2
  go_upto_region 16 with fail
  go_cut [8, 9] (fun sa sb wx => ∃ pa pb, sa = .pointer (some ⟨pa, 0, none⟩) ∧ sb = .pointer (some ⟨pb, 0, none⟩) ∧ Hid (AB W0 Pr p L W (2, x, a, 0, 0, ⟨#[]⟩) (2, y, b, 0, 0, ⟨#[]⟩) pa pb wx))
  case first =>
    have hne := World.new_ne w2 _ c0
    go_region_held3 (fun Z => Z.cell? ⟨g, 0, none⟩ = some (.int .i64 2) ∧ Z.cell? ⟨g, 1, none⟩ = some (.bool x) ∧ Z.cell? ⟨g, 2, none⟩ = some (.int .i64 a) ∧ Z.cell? ⟨g, 3, none⟩ = some (.int .i64 0) ∧ Z.cell? ⟨g, 4, none⟩ = some (.int .i64 0) ∧ Z.cell? ⟨g, 5, none⟩ = some (.string ⟨#[]⟩) ∧ Z.cell? ⟨g, 6, none⟩ = some (.int .i64 2) ∧ Z.cell? ⟨g, 7, none⟩ = some (.bool y) ∧ Z.cell? ⟨g, 8, none⟩ = some (.int .i64 b) ∧ Z.cell? ⟨g, 9, none⟩ = some (.int .i64 0) ∧ Z.cell? ⟨g, 10, none⟩ = some (.int .i64 0) ∧ Z.cell? ⟨g, 11, none⟩ = some (.string ⟨#[]⟩)) (go_keep) (fail)
    all_goals
      go_wp2_with fail
      go_meet
      case rel => first | exact ⟨_, _, rfl, rfl, X1⟩ | exact ⟨_, _, rfl, rfl, X2⟩
  case rest =>
    obtain ⟨pa, pb, rfl, rfl, HAB⟩ := hcut
    clear c0 c1 c2 c3 c4 c5 d0 d1 d2 d3 d4 d5 X1 X2
    obtain ⟨c0, c1, c2, c3, c4, c5⟩ := HAB.out.1.cells0
    obtain ⟨d0, d1, d2, d3, d4, d5⟩ := HAB.out.2.1.cells0
    obtain ⟨r, u1, u2, u3, u4, m1, m2, m3, m4, gm, l27, l28, l29⟩ := map_bits wc pa pb
    have GM := Lib.hid (grown_trans HAB.out.2.2.1 gm)
    have HSM := Lib.hid (HAB.out.2.2.2.grown gm)
    have CC := Lib.hid (clos_or pa pb a b u4 (grown_cell gm c2) (grown_cell gm d2))
    have e0 := Lib.hid (grown_cell gm c0)
    clear gm
    go_wp2_with fail
    refine CC.out.mono ?_
    rintro e w5 ⟨rfl, rfl⟩
    have e0' := e0.out
    clear m1 m2 m3 m4 l27 l28 l29 CC c0 c1 c2 c3 c4 c5 d0 d1 d2 d3 d4 d5 HAB
    go_wp2_with fail
    refine (TR.out _).mono ?_
    rintro e w3 ⟨rfl, g3⟩
    have G3 := Lib.hid (grown_trans GM.out g3)
    have HS3 := Lib.hid (HSM.out.grown g3)
    clear g3 TR
    go_wp2_with fail
    with_reducible refine (HG.out _ HS3.out _ rfl).mono ?_
    rintro e w4 ⟨rfl, hs, hf⟩
    have H4 := Lib.hid (And.intro hs ((Fr.of_grown _ G3.out).trans hf))
    clear hs hf HG
    go_wp2_with fail
    go_ret
    exact ⟨rfl, H4.out⟩
theorem two_28_22_false (a b : Int) (x y : Bool) (ho1 : L.reverse[0]? = some (2, y, b, 0, 0, ⟨#[]⟩)) (ho0 : L.reverse[1]? = some (2, x, a, 0, 0, ⟨#[]⟩)) (h2 : 2 ≤ L.length) (hm0 : Pl.mayO (2, x, a, 0, 0, ⟨#[]⟩)) (hm1 : Pl.mayO (2, y, b, 0, 0, ⟨#[]⟩)) (hv : (bits .or .i64 a b == 1) = false) :
    Calls Tryz.prog 20 #[.pointer (some ⟨p, 0, none⟩), .int .i64 28] W fun e w' => e = .returned (.int .i64 (Pl.giveR L 2 [Pl.truth false]).1) ∧ Stk W0 Pr p (Pl.giveR L 2 [Pl.truth false]).2 w' ∧ FrS W0 Pr W w' := by
  have TR := Lib.hid (fun Z => truth_obj false Z)
  unfold Pl.truth at TR
  have HG := Lib.hid (fun Z (hS : Stk W0 Pr p L Z) b (hb : b = Z.heap.size) => give_row2 W0 Pr p L Z hlen hS (Pl.truth false) #[.int .i64 2, .bool false, .int .i64 0, .int .i64 0, .int .i64 0, .string ⟨#[]⟩] rfl h2 (by unfold Pl.mayO Pl.may Pl.truth Pl.bare; simp) b hb)
  obtain ⟨v, hvv⟩ : ∃ v, v = bits .or .i64 a b := ⟨_, rfl⟩
  have hv' : bits .or .i64 a b = v := hvv.symm
  rw [hv'] at hv
  clear hvv
  have HS := Lib.hid (h.grown ((Grown.refl W).alloc #[.int .i64 12, .int .i64 12] 3))
  have TK := Lib.hid (take2_ok W0 Pr p L _ hlen HS.out _ _ ho1 ho0 (Pl.mayO_kind hm0) (Pl.mayO_kind hm1) W.heap.size 2 (Nat.le_refl _) 12 12 (by simp [go_sem]) (by simp [go_sem]) (show Pl.fits 12 2 = true by decide) (show Pl.fits 12 2 = true by decide))
  clear h hlen ho1 ho0 h2 hm0 hm1
  go_enter Tryz.func20, Tryz.ntmps20
  go_wp2_with fail
  refine TK.out.mono ?_
  rintro e w2 ⟨g2, g, B2, rfl⟩
  have G2 := Lib.hid (grown_trans ((Grown.refl W).alloc #[.int .i64 12, .int .i64 12] 3) g2)
  have HS2 := Lib.hid (HS.out.grown g2)
  obtain ⟨c0, c1, c2, c3, c4, c5, d0, d1, d2, d3, d4, d5⟩ := B2.at12
  clear TK g2 HS B2
  have X1 := Lib.hid (AB.one G2.out HS2.out (2, x, a, 0, 0, ⟨#[]⟩) (2, y, b, 0, 0, ⟨#[]⟩) #[.int .i64 2, .bool x, .int .i64 a, .int .i64 0, .int .i64 0, .string ⟨#[]⟩] #[.int .i64 2, .bool y, .int .i64 b, .int .i64 0, .int .i64 0, .string ⟨#[]⟩] rfl rfl)
  have X2 := Lib.hid (AB.two G2.out HS2.out (2, x, a, 0, 0, ⟨#[]⟩) (2, y, b, 0, 0, ⟨#[]⟩) #[.int .i64 2, .bool x, .int .i64 a, .int .i64 0, .int .i64 0, .string ⟨#[]⟩] #[.int .i64 2, .bool y, .int .i64 b, .int .i64 0, .int .i64 0, .string ⟨#[]⟩] rfl rfl)
  clear G2 HS2
  go_upto_region 16 with fail
  go_cut [8, 9] (fun sa sb wx => ∃ pa pb, sa = .pointer (some ⟨pa, 0, none⟩) ∧ sb = .pointer (some ⟨pb, 0, none⟩) ∧ Hid (AB W0 Pr p L W (2, x, a, 0, 0, ⟨#[]⟩) (2, y, b, 0, 0, ⟨#[]⟩) pa pb wx))
  case first =>
    have hne := World.new_ne w2 _ c0
    go_region_held3 (fun Z => Z.cell? ⟨g, 0, none⟩ = some (.int .i64 2) ∧ Z.cell? ⟨g, 1, none⟩ = some (.bool x) ∧ Z.cell? ⟨g, 2, none⟩ = some (.int .i64 a) ∧ Z.cell? ⟨g, 3, none⟩ = some (.int .i64 0) ∧ Z.cell? ⟨g, 4, none⟩ = some (.int .i64 0) ∧ Z.cell? ⟨g, 5, none⟩ = some (.string ⟨#[]⟩) ∧ Z.cell? ⟨g, 6, none⟩ = some (.int .i64 2) ∧ Z.cell? ⟨g, 7, none⟩ = some (.bool y) ∧ Z.cell? ⟨g, 8, none⟩ = some (.int .i64 b) ∧ Z.cell? ⟨g, 9, none⟩ = some (.int .i64 0) ∧ Z.cell? ⟨g, 10, none⟩ = some (.int .i64 0) ∧ Z.cell? ⟨g, 11, none⟩ = some (.string ⟨#[]⟩)) (go_keep) (fail)
    all_goals
      go_wp2_with fail
      go_meet
      case rel => first | exact ⟨_, _, rfl, rfl, X1⟩ | exact ⟨_, _, rfl, rfl, X2⟩
  case rest =>
    obtain ⟨pa, pb, rfl, rfl, HAB⟩ := hcut
    clear c0 c1 c2 c3 c4 c5 d0 d1 d2 d3 d4 d5 X1 X2
    obtain ⟨c0, c1, c2, c3, c4, c5⟩ := HAB.out.1.cells0
    obtain ⟨d0, d1, d2, d3, d4, d5⟩ := HAB.out.2.1.cells0
    obtain ⟨r, u1, u2, u3, u4, m1, m2, m3, m4, gm, l27, l28, l29⟩ := map_bits wc pa pb
    have GM := Lib.hid (grown_trans HAB.out.2.2.1 gm)
    have HSM := Lib.hid (HAB.out.2.2.2.grown gm)
    have CC := Lib.hid (clos_or pa pb a b u4 (grown_cell gm c2) (grown_cell gm d2))
    have e0 := Lib.hid (grown_cell gm c0)
    clear gm
    go_wp2_with fail
    refine CC.out.mono ?_
    rintro e w5 ⟨rfl, rfl⟩
    have e0' := e0.out
    clear m1 m2 m3 m4 l27 l28 l29 CC c0 c1 c2 c3 c4 c5 d0 d1 d2 d3 d4 d5 HAB
    go_wp2_with fail
    refine (TR.out _).mono ?_
    rintro e w3 ⟨rfl, g3⟩
    have G3 := Lib.hid (grown_trans GM.out g3)
    have HS3 := Lib.hid (HSM.out.grown g3)
    clear g3 TR
    go_wp2_with fail
    with_reducible refine (HG.out _ HS3.out _ rfl).mono ?_
    rintro e w4 ⟨rfl, hs, hf⟩
    have H4 := Lib.hid (And.intro hs ((Fr.of_grown _ G3.out).trans hf))
    clear hs hf HG
    go_wp2_with fail
    go_ret
    exact ⟨rfl, H4.out⟩
theorem two_28_23 (a b : Int) (x y : Bool) (ho1 : L.reverse[0]? = some (3, y, b, 0, 0, ⟨#[]⟩)) (ho0 : L.reverse[1]? = some (2, x, a, 0, 0, ⟨#[]⟩)) (h2 : 2 ≤ L.length) (hm0 : Pl.mayO (2, x, a, 0, 0, ⟨#[]⟩)) (hm1 : Pl.mayO (3, y, b, 0, 0, ⟨#[]⟩)) :
    Calls Tryz.prog 20 #[.pointer (some ⟨p, 0, none⟩), .int .i64 28] W fun e w' => e = .returned (.int .i64 (((6, L) : Int × List Pl.Ob)).1) ∧ Stk W0 Pr p (((6, L) : Int × List Pl.Ob)).2 w' ∧ FrS W0 Pr W w' := by
  have HS := Lib.hid (h.grown ((Grown.refl W).alloc #[.int .i64 12, .int .i64 12] 3))
  have TK := Lib.hid (take2_ok W0 Pr p L _ hlen HS.out _ _ ho1 ho0 (Pl.mayO_kind hm0) (Pl.mayO_kind hm1) W.heap.size 2 (Nat.le_refl _) 12 12 (by simp [go_sem]) (by simp [go_sem]) (show Pl.fits 12 3 = true by decide) (show Pl.fits 12 2 = true by decide))
  clear h hlen ho1 ho0 h2 hm0 hm1
  go_enter Tryz.func20, Tryz.ntmps20
  go_wp2_with fail
  refine TK.out.mono ?_
  rintro e w2 ⟨g2, g, B2, rfl⟩
  have G2 := Lib.hid (grown_trans ((Grown.refl W).alloc #[.int .i64 12, .int .i64 12] 3) g2)
  have HS2 := Lib.hid (HS.out.grown g2)
  obtain ⟨c0, c1, c2, c3, c4, c5, d0, d1, d2, d3, d4, d5⟩ := B2.at12
  clear TK g2 HS B2
  have X1 := Lib.hid (AB.one G2.out HS2.out (2, x, a, 0, 0, ⟨#[]⟩) (3, y, b, 0, 0, ⟨#[]⟩) #[.int .i64 2, .bool x, .int .i64 a, .int .i64 0, .int .i64 0, .string ⟨#[]⟩] #[.int .i64 3, .bool y, .int .i64 b, .int .i64 0, .int .i64 0, .string ⟨#[]⟩] rfl rfl)
  have X2 := Lib.hid (AB.two G2.out HS2.out (2, x, a, 0, 0, ⟨#[]⟩) (3, y, b, 0, 0, ⟨#[]⟩) #[.int .i64 2, .bool x, .int .i64 a, .int .i64 0, .int .i64 0, .string ⟨#[]⟩] #[.int .i64 3, .bool y, .int .i64 b, .int .i64 0, .int .i64 0, .string ⟨#[]⟩] rfl rfl)
  clear G2 HS2
  go_upto_region 16 with fail
  go_cut [8, 9] (fun sa sb wx => ∃ pa pb, sa = .pointer (some ⟨pa, 0, none⟩) ∧ sb = .pointer (some ⟨pb, 0, none⟩) ∧ Hid (AB W0 Pr p L W (2, x, a, 0, 0, ⟨#[]⟩) (3, y, b, 0, 0, ⟨#[]⟩) pa pb wx))
  case first =>
    have hne := World.new_ne w2 _ c0
    go_region_held3 (fun Z => Z.cell? ⟨g, 0, none⟩ = some (.int .i64 2) ∧ Z.cell? ⟨g, 1, none⟩ = some (.bool x) ∧ Z.cell? ⟨g, 2, none⟩ = some (.int .i64 a) ∧ Z.cell? ⟨g, 3, none⟩ = some (.int .i64 0) ∧ Z.cell? ⟨g, 4, none⟩ = some (.int .i64 0) ∧ Z.cell? ⟨g, 5, none⟩ = some (.string ⟨#[]⟩) ∧ Z.cell? ⟨g, 6, none⟩ = some (.int .i64 3) ∧ Z.cell? ⟨g, 7, none⟩ = some (.bool y) ∧ Z.cell? ⟨g, 8, none⟩ = some (.int .i64 b) ∧ Z.cell? ⟨g, 9, none⟩ = some (.int .i64 0) ∧ Z.cell? ⟨g, 10, none⟩ = some (.int .i64 0) ∧ Z.cell? ⟨g, 11, none⟩ = some (.string ⟨#[]⟩)) (go_keep) (fail)
    all_goals
      go_wp2_with fail
      go_meet
      case rel => first | exact ⟨_, _, rfl, rfl, X1⟩ | exact ⟨_, _, rfl, rfl, X2⟩
  case rest =>
    obtain ⟨pa, pb, rfl, rfl, HAB⟩ := hcut
    clear c0 c1 c2 c3 c4 c5 d0 d1 d2 d3 d4 d5 X1 X2
    obtain ⟨c0, c1, c2, c3, c4, c5⟩ := HAB.out.1.cells0
    obtain ⟨d0, d1, d2, d3, d4, d5⟩ := HAB.out.2.1.cells0
    go_wp2_with fail
    go_ret
    exact ⟨rfl, HAB.out.2.2.2, Fr.of_grown _ HAB.out.2.2.1⟩
theorem two_28_32 (a b : Int) (x y : Bool) (ho1 : L.reverse[0]? = some (2, y, b, 0, 0, ⟨#[]⟩)) (ho0 : L.reverse[1]? = some (3, x, a, 0, 0, ⟨#[]⟩)) (h2 : 2 ≤ L.length) (hm0 : Pl.mayO (3, x, a, 0, 0, ⟨#[]⟩)) (hm1 : Pl.mayO (2, y, b, 0, 0, ⟨#[]⟩)) :
    Calls Tryz.prog 20 #[.pointer (some ⟨p, 0, none⟩), .int .i64 28] W fun e w' => e = .returned (.int .i64 (((6, L) : Int × List Pl.Ob)).1) ∧ Stk W0 Pr p (((6, L) : Int × List Pl.Ob)).2 w' ∧ FrS W0 Pr W w' := by
  have HS := Lib.hid (h.grown ((Grown.refl W).alloc #[.int .i64 12, .int .i64 12] 3))
  have TK := Lib.hid (take2_ok W0 Pr p L _ hlen HS.out _ _ ho1 ho0 (Pl.mayO_kind hm0) (Pl.mayO_kind hm1) W.heap.size 2 (Nat.le_refl _) 12 12 (by simp [go_sem]) (by simp [go_sem]) (show Pl.fits 12 2 = true by decide) (show Pl.fits 12 3 = true by decide))
  clear h hlen ho1 ho0 h2 hm0 hm1
  go_enter Tryz.func20, Tryz.ntmps20
  go_wp2_with fail
  refine TK.out.mono ?_
  rintro e w2 ⟨g2, g, B2, rfl⟩
  have G2 := Lib.hid (grown_trans ((Grown.refl W).alloc #[.int .i64 12, .int .i64 12] 3) g2)
  have HS2 := Lib.hid (HS.out.grown g2)
  obtain ⟨c0, c1, c2, c3, c4, c5, d0, d1, d2, d3, d4, d5⟩ := B2.at12
  clear TK g2 HS B2
  have X1 := Lib.hid (AB.one G2.out HS2.out (3, x, a, 0, 0, ⟨#[]⟩) (2, y, b, 0, 0, ⟨#[]⟩) #[.int .i64 3, .bool x, .int .i64 a, .int .i64 0, .int .i64 0, .string ⟨#[]⟩] #[.int .i64 2, .bool y, .int .i64 b, .int .i64 0, .int .i64 0, .string ⟨#[]⟩] rfl rfl)
  have X2 := Lib.hid (AB.two G2.out HS2.out (3, x, a, 0, 0, ⟨#[]⟩) (2, y, b, 0, 0, ⟨#[]⟩) #[.int .i64 3, .bool x, .int .i64 a, .int .i64 0, .int .i64 0, .string ⟨#[]⟩] #[.int .i64 2, .bool y, .int .i64 b, .int .i64 0, .int .i64 0, .string ⟨#[]⟩] rfl rfl)
  clear G2 HS2
  go_upto_region 16 with fail
  go_cut [8, 9] (fun sa sb wx => ∃ pa pb, sa = .pointer (some ⟨pa, 0, none⟩) ∧ sb = .pointer (some ⟨pb, 0, none⟩) ∧ Hid (AB W0 Pr p L W (3, x, a, 0, 0, ⟨#[]⟩) (2, y, b, 0, 0, ⟨#[]⟩) pa pb wx))
  case first =>
    have hne := World.new_ne w2 _ c0
    go_region_held3 (fun Z => Z.cell? ⟨g, 0, none⟩ = some (.int .i64 3) ∧ Z.cell? ⟨g, 1, none⟩ = some (.bool x) ∧ Z.cell? ⟨g, 2, none⟩ = some (.int .i64 a) ∧ Z.cell? ⟨g, 3, none⟩ = some (.int .i64 0) ∧ Z.cell? ⟨g, 4, none⟩ = some (.int .i64 0) ∧ Z.cell? ⟨g, 5, none⟩ = some (.string ⟨#[]⟩) ∧ Z.cell? ⟨g, 6, none⟩ = some (.int .i64 2) ∧ Z.cell? ⟨g, 7, none⟩ = some (.bool y) ∧ Z.cell? ⟨g, 8, none⟩ = some (.int .i64 b) ∧ Z.cell? ⟨g, 9, none⟩ = some (.int .i64 0) ∧ Z.cell? ⟨g, 10, none⟩ = some (.int .i64 0) ∧ Z.cell? ⟨g, 11, none⟩ = some (.string ⟨#[]⟩)) (go_keep) (fail)
    all_goals
      go_wp2_with fail
      go_meet
      case rel => first | exact ⟨_, _, rfl, rfl, X1⟩ | exact ⟨_, _, rfl, rfl, X2⟩
  case rest =>
    obtain ⟨pa, pb, rfl, rfl, HAB⟩ := hcut
    clear c0 c1 c2 c3 c4 c5 d0 d1 d2 d3 d4 d5 X1 X2
    obtain ⟨c0, c1, c2, c3, c4, c5⟩ := HAB.out.1.cells0
    obtain ⟨d0, d1, d2, d3, d4, d5⟩ := HAB.out.2.1.cells0
    go_wp2_with fail
    go_ret
    exact ⟨rfl, HAB.out.2.2.2, Fr.of_grown _ HAB.out.2.2.1⟩
theorem two_29_33 (a b : Int) (x y : Bool) (ho1 : L.reverse[0]? = some (3, y, b, 0, 0, ⟨#[]⟩)) (ho0 : L.reverse[1]? = some (3, x, a, 0, 0, ⟨#[]⟩)) (h2 : 2 ≤ L.length) (hm0 : Pl.mayO (3, x, a, 0, 0, ⟨#[]⟩)) (hm1 : Pl.mayO (3, y, b, 0, 0, ⟨#[]⟩)) :
    Calls Tryz.prog 20 #[.pointer (some ⟨p, 0, none⟩), .int .i64 29] W fun e w' => e = .returned (.int .i64 (Pl.wholeR L 2 (bits .xor .i64 a b)).1) ∧ Stk W0 Pr p (Pl.wholeR L 2 (bits .xor .i64 a b)).2 w' ∧ FrS W0 Pr W w' := by
  have WX := Lib.hid (fun Z (hS : Stk W0 Pr p L Z) => whole_any W0 Pr p L Z hlen hS 2 h2 (bits .xor .i64 a b))
  have HS := Lib.hid (h.grown ((Grown.refl W).alloc #[.int .i64 12, .int .i64 12] 3))
  have TK := Lib.hid (take2_ok W0 Pr p L _ hlen HS.out _ _ ho1 ho0 (Pl.mayO_kind hm0) (Pl.mayO_kind hm1) W.heap.size 2 (Nat.le_refl _) 12 12 (by simp [go_sem]) (by simp [go_sem]) (show Pl.fits 12 3 = true by decide) (show Pl.fits 12 3 = true by decide))
  clear h hlen ho1 ho0 h2 hm0 hm1
  go_enter Tryz.func20, Tryz.ntmps20
  go_wp2_with fail
  refine TK.out.mono ?_
  rintro e w2 ⟨g2, g, B2, rfl⟩
  have G2 := Lib.hid (grown_trans ((Grown.refl W).alloc #[.int .i64 12, .int .i64 12] 3) g2)
  have HS2 := Lib.hid (HS.out.grown g2)
  obtain ⟨c0, c1, c2, c3, c4, c5, d0, d1, d2, d3, d4, d5⟩ := B2.at12
  clear TK g2 HS B2
  have X1 := Lib.hid (AB.one G2.out HS2.out (3, x, a, 0, 0, ⟨#[]⟩) (3, y, b, 0, 0, ⟨#[]⟩) #[.int .i64 3, .bool x, .int .i64 a, .int .i64 0, .int .i64 0, .string ⟨#[]⟩] #[.int .i64 3, .bool y, .int .i64 b, .int .i64 0, .int .i64 0, .string ⟨#[]⟩] rfl rfl)
  have X2 := Lib.hid (AB.two G2.out HS2.out (3, x, a, 0, 0, ⟨#[]⟩) (3, y, b, 0, 0, ⟨#[]⟩) #[.int .i64 3, .bool x, .int .i64 a, .int .i64 0, .int .i64 0, .string ⟨#[]⟩] #[.int .i64 3, .bool y, .int .i64 b, .int .i64 0, .int .i64 0, .string ⟨#[]⟩] rfl rfl)
  clear G2 HS2
  go_upto_region 16 with fail
  go_cut [8, 9] (fun sa sb wx => ∃ pa pb, sa = .pointer (some ⟨pa, 0, none⟩) ∧ sb = .pointer (some ⟨pb, 0, none⟩) ∧ Hid (AB W0 Pr p L W (3, x, a, 0, 0, ⟨#[]⟩) (3, y, b, 0, 0, ⟨#[]⟩) pa pb wx))
  case first =>
    have hne := World.new_ne w2 _ c0
    go_region_held3 (fun Z => Z.cell? ⟨g, 0, none⟩ = some (.int .i64 3) ∧ Z.cell? ⟨g, 1, none⟩ = some (.bool x) ∧ Z.cell? ⟨g, 2, none⟩ = some (.int .i64 a) ∧ Z.cell? ⟨g, 3, none⟩ = some (.int .i64 0) ∧ Z.cell? ⟨g, 4, none⟩ = some (.int .i64 0) ∧ Z.cell? ⟨g, 5, none⟩ = some (.string ⟨#[]⟩) ∧ Z.cell? ⟨g, 6, none⟩ = some (.int .i64 3) ∧ Z.cell? ⟨g, 7, none⟩ = some (.bool y) ∧ Z.cell? ⟨g, 8, none⟩ = some (.int .i64 b) ∧ Z.cell? ⟨g, 9, none⟩ = some (.int .i64 0) ∧ Z.cell? ⟨g, 10, none⟩ = some (.int .i64 0) ∧ Z.cell? ⟨g, 11, none⟩ = some (.string ⟨#[]⟩)) (go_keep) (fail)
    all_goals
      go_wp2_with fail
      go_meet
      case rel => first | exact ⟨_, _, rfl, rfl, X1⟩ | exact ⟨_, _, rfl, rfl, X2⟩
  case rest =>
    obtain ⟨pa, pb, rfl, rfl, HAB⟩ := hcut
    clear c0 c1 c2 c3 c4 c5 d0 d1 d2 d3 d4 d5 X1 X2
    obtain ⟨c0, c1, c2, c3, c4, c5⟩ := HAB.out.1.cells0
    obtain ⟨d0, d1, d2, d3, d4, d5⟩ := HAB.out.2.1.cells0
    obtain ⟨r, u1, u2, u3, u4, m1, m2, m3, m4, gm, l27, l28, l29⟩ := map_bits wc pa pb
    have GM := Lib.hid (grown_trans HAB.out.2.2.1 gm)
    have HSM := Lib.hid (HAB.out.2.2.2.grown gm)
    have CC := Lib.hid (clos_xor pa pb a b u4 (grown_cell gm c2) (grown_cell gm d2))
    have e0 := Lib.hid (grown_cell gm c0)
    clear gm
    go_wp2_with fail
    refine CC.out.mono ?_
    rintro e w5 ⟨rfl, rfl⟩
    have e0' := e0.out
    clear m1 m2 m3 m4 l27 l28 l29 CC c0 c1 c2 c3 c4 c5 d0 d1 d2 d3 d4 d5 HAB
    go_wp2_with fail
    refine (WX.out _ HSM.out).mono ?_
    rintro e w4 ⟨rfl, hs, hf⟩
    have H4 := Lib.hid (And.intro hs ((Fr.of_grown _ GM.out).trans hf))
    clear hs hf WX
    go_wp2_with fail
    go_ret
    exact ⟨rfl, H4.out⟩
theorem two_29_22_true (a b : Int) (x y : Bool) (ho1 : L.reverse[0]? = some (2, y, b, 0, 0, ⟨#[]⟩)) (ho0 : L.reverse[1]? = some (2, x, a, 0, 0, ⟨#[]⟩)) (h2 : 2 ≤ L.length) (hm0 : Pl.mayO (2, x, a, 0, 0, ⟨#[]⟩)) (hm1 : Pl.mayO (2, y, b, 0, 0, ⟨#[]⟩)) (hv : (bits .xor .i64 a b == 1) = true) :
    Calls Tryz.prog 20 #[.pointer (some ⟨p, 0, none⟩), .int .i64 29] W fun e w' => e = .returned (.int .i64 (Pl.giveR L 2 [Pl.truth true]).1) ∧ Stk W0 Pr p (Pl.giveR L 2 [Pl.truth true]).2 w' ∧ FrS W0 Pr W w' := by
  have TR := Lib.hid (fun Z => truth_obj true Z)
  unfold Pl.truth at TR
  have HG := Lib.hid (fun Z (hS : Stk W0 Pr p L Z) b (hb : b = Z.heap.size) => give_row2 W0 Pr p L Z hlen hS (Pl.truth true) #[.int .i64 2, .bool false, .int .i64 1, .int .i64 0, .int .i64 0, .string ⟨#[]⟩] rfl h2 (by unfold Pl.mayO Pl.may Pl.truth Pl.bare; simp) b hb)
  obtain ⟨v, hvv⟩ : ∃ v, v = bits .xor .i64 a b := ⟨_, rfl⟩
  have hv' : bits .xor .i64 a b = v := hvv.symm
  rw [hv'] at hv
  clear hvv
  have HS := Lib.hid (h.grown ((Grown.refl W).alloc #[.int .i64 12, .int .i64 12] 3))
  have TK := Lib.hid (take2_ok W0 Pr p L _ hlen HS.out _ _ ho1 ho0 (Pl.mayO_kind hm0) (Pl.mayO_kind hm1) W.heap.size 2 (Nat.le_refl _) 12 12 (by simp [go_sem]) (by simp [go_sem]) (show Pl.fits 12 2 = true by decide) (show Pl.fits 12 2 = true by decide))
  clear h hlen ho1 ho0 h2 hm0 hm1
  go_enter Tryz.func20, Tryz.ntmps20
  go_wp2_with fail
  refine TK.out.mono ?_
  rintro e w2 ⟨g2, g, B2, rfl⟩
  have G2 := Lib.hid (grown_trans ((Grown.refl W).alloc #[.int .i64 12, .int .i64 12] 3) g2)
  have HS2 := Lib.hid (HS.out.grown g2)
  obtain ⟨c0, c1, c2, c3, c4, c5, d0, d1, d2, d3, d4, d5⟩ := B2.at12
  clear TK g2 HS B2
  have X1 := Lib.hid (AB.one G2.out HS2.out (2, x, a, 0, 0, ⟨#[]⟩) (2, y, b, 0, 0, ⟨#[]⟩) #[.int .i64 2, .bool x, .int .i64 a, .int .i64 0, .int .i64 0, .string ⟨#[]⟩] #[.int .i64 2, .bool y, .int .i64 b, .int .i64 0, .int .i64 0, .string ⟨#[]⟩] rfl rfl)
  have X2 := Lib.hid (AB.two G2.out HS2.out (2, x, a, 0, 0, ⟨#[]⟩) (2, y, b, 0, 0, ⟨#[]⟩) #[.int .i64 2, .bool x, .int .i64 a, .int .i64 0, .int .i64 0, .string ⟨#[]⟩] #[.int .i64 2, .bool y, .int .i64 b, .int .i64 0, .int .i64 0, .string ⟨#[]⟩] rfl rfl)
  clear G2 HS2
  go_upto_region 16 with fail
  go_cut [8, 9] (fun sa sb wx => ∃ pa pb, sa = .pointer (some ⟨pa, 0, none⟩) ∧ sb = .pointer (some ⟨pb, 0, none⟩) ∧ Hid (AB W0 Pr p L W (2, x, a, 0, 0, ⟨#[]⟩) (2, y, b, 0, 0, ⟨#[]⟩) pa pb wx))
  case first =>
    have hne := World.new_ne w2 _ c0
    go_region_held3 (fun Z => Z.cell? ⟨g, 0, none⟩ = some (.int .i64 2) ∧ Z.cell? ⟨g, 1, none⟩ = some (.bool x) ∧ Z.cell? ⟨g, 2, none⟩ = some (.int .i64 a) ∧ Z.cell? ⟨g, 3, none⟩ = some (.int .i64 0) ∧ Z.cell? ⟨g, 4, none⟩ = some (.int .i64 0) ∧ Z.cell? ⟨g, 5, none⟩ = some (.string ⟨#[]⟩) ∧ Z.cell? ⟨g, 6, none⟩ = some (.int .i64 2) ∧ Z.cell? ⟨g, 7, none⟩ = some (.bool y) ∧ Z.cell? ⟨g, 8, none⟩ = some (.int .i64 b) ∧ Z.cell? ⟨g, 9, none⟩ = some (.int .i64 0) ∧ Z.cell? ⟨g, 10, none⟩ = some (.int .i64 0) ∧ Z.cell? ⟨g, 11, none⟩ = some (.string ⟨#[]⟩)) (go_keep) (fail)
    all_goals
      go_wp2_with fail
      go_meet
      case rel => first | exact ⟨_, _, rfl, rfl, X1⟩ | exact ⟨_, _, rfl, rfl, X2⟩
  case rest =>
    obtain ⟨pa, pb, rfl, rfl, HAB⟩ := hcut
    clear c0 c1 c2 c3 c4 c5 d0 d1 d2 d3 d4 d5 X1 X2
    obtain ⟨c0, c1, c2, c3, c4, c5⟩ := HAB.out.1.cells0
    obtain ⟨d0, d1, d2, d3, d4, d5⟩ := HAB.out.2.1.cells0
    obtain ⟨r, u1, u2, u3, u4, m1, m2, m3, m4, gm, l27, l28, l29⟩ := map_bits wc pa pb
    have GM := Lib.hid (grown_trans HAB.out.2.2.1 gm)
    have HSM := Lib.hid (HAB.out.2.2.2.grown gm)
    have CC := Lib.hid (clos_xor pa pb a b u4 (grown_cell gm c2) (grown_cell gm d2))
    have e0 := Lib.hid (grown_cell gm c0)
    clear gm
    go_wp2_with fail
    refine CC.out.mono ?_
    rintro e w5 ⟨rfl, rfl⟩
    have e0' := e0.out
    clear m1 m2 m3 m4 l27 l28 l29 CC c0 c1 c2 c3 c4 c5 d0 d1 d2 d3 d4 d5 HAB
    go_wp2_with fail
    refine (TR.out _).mono ?_
    rintro e w3 ⟨rfl, g3⟩
    have G3 := Lib.hid (grown_trans GM.out g3)
    have HS3 := Lib.hid (HSM.out.grown g3)
    clear g3 TR
    go_wp2_with fail
    with_reducible refine (HG.out _ HS3.out _ rfl).mono ?_
    rintro e w4 ⟨rfl, hs, hf⟩
    have H4 := Lib.hid (And.intro hs ((Fr.of_grown _ G3.out).trans hf))
    clear hs hf HG
    go_wp2_with fail
    go_ret
    exact ⟨rfl, H4.out⟩
theorem two_29_22_false (a b : Int) (x y : Bool) (ho1 : L.reverse[0]? = some (2, y, b, 0, 0, ⟨#[]⟩)) (ho0 : L.reverse[1]? = some (2, x, a, 0, 0, ⟨#[]⟩)) (h2 : 2 ≤ L.length) (hm0 : Pl.mayO (2, x, a, 0, 0, ⟨#[]⟩)) (hm1 : Pl.mayO (2, y, b, 0, 0, ⟨#[]⟩)) (hv : (bits .xor .i64 a b == 1) = false) :
    Calls Tryz.prog 20 #[.pointer (some ⟨p, 0, none⟩), .int .i64 29] W fun e w' => e = .returned (.int .i64 (Pl.giveR L 2 [Pl.truth false]).1) ∧ Stk W0 Pr p (Pl.giveR L 2 [Pl.truth false]).2 w' ∧ FrS W0 Pr W w' := by
  have TR := Lib.hid (fun Z => truth_obj false Z)
  unfold Pl.truth at TR
  have HG := Lib.hid (fun Z (hS : Stk W0 Pr p L Z) b (hb : b = Z.heap.size) => give_row2 W0 Pr p L Z hlen hS (Pl.truth false) #[.int .i64 2, .bool false, .int .i64 0, .int .i64 0, .int .i64 0, .string ⟨#[]⟩] rfl h2 (by unfold Pl.mayO Pl.may Pl.truth Pl.bare; simp) b hb)
  obtain ⟨v, hvv⟩ : ∃ v, v = bits .xor .i64 a b := ⟨_, rfl⟩
  have hv' : bits .xor .i64 a b = v := hvv.symm
  rw [hv'] at hv
  clear hvv
  have HS := Lib.hid (h.grown ((Grown.refl W).alloc #[.int .i64 12, .int .i64 12] 3))
  have TK := Lib.hid (take2_ok W0 Pr p L _ hlen HS.out _ _ ho1 ho0 (Pl.mayO_kind hm0) (Pl.mayO_kind hm1) W.heap.size 2 (Nat.le_refl _) 12 12 (by simp [go_sem]) (by simp [go_sem]) (show Pl.fits 12 2 = true by decide) (show Pl.fits 12 2 = true by decide))
  clear h hlen ho1 ho0 h2 hm0 hm1
  go_enter Tryz.func20, Tryz.ntmps20
  go_wp2_with fail
  refine TK.out.mono ?_
  rintro e w2 ⟨g2, g, B2, rfl⟩
  have G2 := Lib.hid (grown_trans ((Grown.refl W).alloc #[.int .i64 12, .int .i64 12] 3) g2)
  have HS2 := Lib.hid (HS.out.grown g2)
  obtain ⟨c0, c1, c2, c3, c4, c5, d0, d1, d2, d3, d4, d5⟩ := B2.at12
  clear TK g2 HS B2
  have X1 := Lib.hid (AB.one G2.out HS2.out (2, x, a, 0, 0, ⟨#[]⟩) (2, y, b, 0, 0, ⟨#[]⟩) #[.int .i64 2, .bool x, .int .i64 a, .int .i64 0, .int .i64 0, .string ⟨#[]⟩] #[.int .i64 2, .bool y, .int .i64 b, .int .i64 0, .int .i64 0, .string ⟨#[]⟩] rfl rfl)
  have X2 := Lib.hid (AB.two G2.out HS2.out (2, x, a, 0, 0, ⟨#[]⟩) (2, y, b, 0, 0, ⟨#[]⟩) #[.int .i64 2, .bool x, .int .i64 a, .int .i64 0, .int .i64 0, .string ⟨#[]⟩] #[.int .i64 2, .bool y, .int .i64 b, .int .i64 0, .int .i64 0, .string ⟨#[]⟩] rfl rfl)
  clear G2 HS2
  go_upto_region 16 with fail
  go_cut [8, 9] (fun sa sb wx => ∃ pa pb, sa = .pointer (some ⟨pa, 0, none⟩) ∧ sb = .pointer (some ⟨pb, 0, none⟩) ∧ Hid (AB W0 Pr p L W (2, x, a, 0, 0, ⟨#[]⟩) (2, y, b, 0, 0, ⟨#[]⟩) pa pb wx))
  case first =>
    have hne := World.new_ne w2 _ c0
    go_region_held3 (fun Z => Z.cell? ⟨g, 0, none⟩ = some (.int .i64 2) ∧ Z.cell? ⟨g, 1, none⟩ = some (.bool x) ∧ Z.cell? ⟨g, 2, none⟩ = some (.int .i64 a) ∧ Z.cell? ⟨g, 3, none⟩ = some (.int .i64 0) ∧ Z.cell? ⟨g, 4, none⟩ = some (.int .i64 0) ∧ Z.cell? ⟨g, 5, none⟩ = some (.string ⟨#[]⟩) ∧ Z.cell? ⟨g, 6, none⟩ = some (.int .i64 2) ∧ Z.cell? ⟨g, 7, none⟩ = some (.bool y) ∧ Z.cell? ⟨g, 8, none⟩ = some (.int .i64 b) ∧ Z.cell? ⟨g, 9, none⟩ = some (.int .i64 0) ∧ Z.cell? ⟨g, 10, none⟩ = some (.int .i64 0) ∧ Z.cell? ⟨g, 11, none⟩ = some (.string ⟨#[]⟩)) (go_keep) (fail)
    all_goals
      go_wp2_with fail
      go_meet
      case rel => first | exact ⟨_, _, rfl, rfl, X1⟩ | exact ⟨_, _, rfl, rfl, X2⟩
  case rest =>
    obtain ⟨pa, pb, rfl, rfl, HAB⟩ := hcut
    clear c0 c1 c2 c3 c4 c5 d0 d1 d2 d3 d4 d5 X1 X2
    obtain ⟨c0, c1, c2, c3, c4, c5⟩ := HAB.out.1.cells0
    obtain ⟨d0, d1, d2, d3, d4, d5⟩ := HAB.out.2.1.cells0
    obtain ⟨r, u1, u2, u3, u4, m1, m2, m3, m4, gm, l27, l28, l29⟩ := map_bits wc pa pb
    have GM := Lib.hid (grown_trans HAB.out.2.2.1 gm)
    have HSM := Lib.hid (HAB.out.2.2.2.grown gm)
    have CC := Lib.hid (clos_xor pa pb a b u4 (grown_cell gm c2) (grown_cell gm d2))
    have e0 := Lib.hid (grown_cell gm c0)
    clear gm
    go_wp2_with fail
    refine CC.out.mono ?_
    rintro e w5 ⟨rfl, rfl⟩
    have e0' := e0.out
    clear m1 m2 m3 m4 l27 l28 l29 CC c0 c1 c2 c3 c4 c5 d0 d1 d2 d3 d4 d5 HAB
    go_wp2_with fail
    refine (TR.out _).mono ?_
    rintro e w3 ⟨rfl, g3⟩
    have G3 := Lib.hid (grown_trans GM.out g3)
    have HS3 := Lib.hid (HSM.out.grown g3)
    clear g3 TR
    go_wp2_with fail
    with_reducible refine (HG.out _ HS3.out _ rfl).mono ?_
    rintro e w4 ⟨rfl, hs, hf⟩
    have H4 := Lib.hid (And.intro hs ((Fr.of_grown _ G3.out).trans hf))
    clear hs hf HG
    go_wp2_with fail
    go_ret
    exact ⟨rfl, H4.out⟩
theorem two_29_23 (a b : Int) (x y : Bool) (ho1 : L.reverse[0]? = some (3, y, b, 0, 0, ⟨#[]⟩)) (ho0 : L.reverse[1]? = some (2, x, a, 0, 0, ⟨#[]⟩)) (h2 : 2 ≤ L.length) (hm0 : Pl.mayO (2, x, a, 0, 0, ⟨#[]⟩)) (hm1 : Pl.mayO (3, y, b, 0, 0, ⟨#[]⟩)) :
    Calls Tryz.prog 20 #[.pointer (some ⟨p, 0, none⟩), .int .i64 29] W fun e w' => e = .returned (.int .i64 (((6, L) : Int × List Pl.Ob)).1) ∧ Stk W0 Pr p (((6, L) : Int × List Pl.Ob)).2 w' ∧ FrS W0 Pr W w' := by
  have HS := Lib.hid (h.grown ((Grown.refl W).alloc #[.int .i64 12, .int .i64 12] 3))
  have TK := Lib.hid (take2_ok W0 Pr p L _ hlen HS.out _ _ ho1 ho0 (Pl.mayO_kind hm0) (Pl.mayO_kind hm1) W.heap.size 2 (Nat.le_refl _) 12 12 (by simp [go_sem]) (by simp [go_sem]) (show Pl.fits 12 3 = true by decide) (show Pl.fits 12 2 = true by decide))
  clear h hlen ho1 ho0 h2 hm0 hm1
  go_enter Tryz.func20, Tryz.ntmps20
  go_wp2_with fail
  refine TK.out.mono ?_
  rintro e w2 ⟨g2, g, B2, rfl⟩
  have G2 := Lib.hid (grown_trans ((Grown.refl W).alloc #[.int .i64 12, .int .i64 12] 3) g2)
  have HS2 := Lib.hid (HS.out.grown g2)
  obtain ⟨c0, c1, c2, c3, c4, c5, d0, d1, d2, d3, d4, d5⟩ := B2.at12
  clear TK g2 HS B2
  have X1 := Lib.hid (AB.one G2.out HS2.out (2, x, a, 0, 0, ⟨#[]⟩) (3, y, b, 0, 0, ⟨#[]⟩) #[.int .i64 2, .bool x, .int .i64 a, .int .i64 0, .int .i64 0, .string ⟨#[]⟩] #[.int .i64 3, .bool y, .int .i64 b, .int .i64 0, .int .i64 0, .string ⟨#[]⟩] rfl rfl)
  have X2 := Lib.hid (AB.two G2.out HS2.out (2, x, a, 0, 0, ⟨#[]⟩) (3, y, b, 0, 0, ⟨#[]⟩) #[.int .i64 2, .bool x, .int .i64 a, .int .i64 0, .int .i64 0, .string ⟨#[]⟩] #[.int .i64 3, .bool y, .int .i64 b, .int .i64 0, .int .i64 0, .string ⟨#[]⟩] rfl rfl)
  clear G2 HS2
  go_upto_region 16 with fail
  go_cut [8, 9] (fun sa sb wx => ∃ pa pb, sa = .pointer (some ⟨pa, 0, none⟩) ∧ sb = .pointer (some ⟨pb, 0, none⟩) ∧ Hid (AB W0 Pr p L W (2, x, a, 0, 0, ⟨#[]⟩) (3, y, b, 0, 0, ⟨#[]⟩) pa pb wx))
  case first =>
    have hne := World.new_ne w2 _ c0
    go_region_held3 (fun Z => Z.cell? ⟨g, 0, none⟩ = some (.int .i64 2) ∧ Z.cell? ⟨g, 1, none⟩ = some (.bool x) ∧ Z.cell? ⟨g, 2, none⟩ = some (.int .i64 a) ∧ Z.cell? ⟨g, 3, none⟩ = some (.int .i64 0) ∧ Z.cell? ⟨g, 4, none⟩ = some (.int .i64 0) ∧ Z.cell? ⟨g, 5, none⟩ = some (.string ⟨#[]⟩) ∧ Z.cell? ⟨g, 6, none⟩ = some (.int .i64 3) ∧ Z.cell? ⟨g, 7, none⟩ = some (.bool y) ∧ Z.cell? ⟨g, 8, none⟩ = some (.int .i64 b) ∧ Z.cell? ⟨g, 9, none⟩ = some (.int .i64 0) ∧ Z.cell? ⟨g, 10, none⟩ = some (.int .i64 0) ∧ Z.cell? ⟨g, 11, none⟩ = some (.string ⟨#[]⟩)) (go_keep) (fail)
    all_goals
      go_wp2_with fail
      go_meet
      case rel => first | exact ⟨_, _, rfl, rfl, X1⟩ | exact ⟨_, _, rfl, rfl, X2⟩
  case rest =>
    obtain ⟨pa, pb, rfl, rfl, HAB⟩ := hcut
    clear c0 c1 c2 c3 c4 c5 d0 d1 d2 d3 d4 d5 X1 X2
    obtain ⟨c0, c1, c2, c3, c4, c5⟩ := HAB.out.1.cells0
    obtain ⟨d0, d1, d2, d3, d4, d5⟩ := HAB.out.2.1.cells0
    go_wp2_with fail
    go_ret
    exact ⟨rfl, HAB.out.2.2.2, Fr.of_grown _ HAB.out.2.2.1⟩
theorem two_29_32 (a b : Int) (x y : Bool) (ho1 : L.reverse[0]? = some (2, y, b, 0, 0, ⟨#[]⟩)) (ho0 : L.reverse[1]? = some (3, x, a, 0, 0, ⟨#[]⟩)) (h2 : 2 ≤ L.length) (hm0 : Pl.mayO (3, x, a, 0, 0, ⟨#[]⟩)) (hm1 : Pl.mayO (2, y, b, 0, 0, ⟨#[]⟩)) :
    Calls Tryz.prog 20 #[.pointer (some ⟨p, 0, none⟩), .int .i64 29] W fun e w' => e = .returned (.int .i64 (((6, L) : Int × List Pl.Ob)).1) ∧ Stk W0 Pr p (((6, L) : Int × List Pl.Ob)).2 w' ∧ FrS W0 Pr W w' := by
  have HS := Lib.hid (h.grown ((Grown.refl W).alloc #[.int .i64 12, .int .i64 12] 3))
  have TK := Lib.hid (take2_ok W0 Pr p L _ hlen HS.out _ _ ho1 ho0 (Pl.mayO_kind hm0) (Pl.mayO_kind hm1) W.heap.size 2 (Nat.le_refl _) 12 12 (by simp [go_sem]) (by simp [go_sem]) (show Pl.fits 12 2 = true by decide) (show Pl.fits 12 3 = true by decide))
  clear h hlen ho1 ho0 h2 hm0 hm1
  go_enter Tryz.func20, Tryz.ntmps20
  go_wp2_with fail
  refine TK.out.mono ?_
  rintro e w2 ⟨g2, g, B2, rfl⟩
  have G2 := Lib.hid (grown_trans ((Grown.refl W).alloc #[.int .i64 12, .int .i64 12] 3) g2)
  have HS2 := Lib.hid (HS.out.grown g2)
  obtain ⟨c0, c1, c2, c3, c4, c5, d0, d1, d2, d3, d4, d5⟩ := B2.at12
  clear TK g2 HS B2
  have X1 := Lib.hid (AB.one G2.out HS2.out (3, x, a, 0, 0, ⟨#[]⟩) (2, y, b, 0, 0, ⟨#[]⟩) #[.int .i64 3, .bool x, .int .i64 a, .int .i64 0, .int .i64 0, .string ⟨#[]⟩] #[.int .i64 2, .bool y, .int .i64 b, .int .i64 0, .int .i64 0, .string ⟨#[]⟩] rfl rfl)
  have X2 := Lib.hid (AB.two G2.out HS2.out (3, x, a, 0, 0, ⟨#[]⟩) (2, y, b, 0, 0, ⟨#[]⟩) #[.int .i64 3, .bool x, .int .i64 a, .int .i64 0, .int .i64 0, .string ⟨#[]⟩] #[.int .i64 2, .bool y, .int .i64 b, .int .i64 0, .int .i64 0, .string ⟨#[]⟩] rfl rfl)
  clear G2 HS2
  go_upto_region 16 with fail
  go_cut [8, 9] (fun sa sb wx => ∃ pa pb, sa = .pointer (some ⟨pa, 0, none⟩) ∧ sb = .pointer (some ⟨pb, 0, none⟩) ∧ Hid (AB W0 Pr p L W (3, x, a, 0, 0, ⟨#[]⟩) (2, y, b, 0, 0, ⟨#[]⟩) pa pb wx))
  case first =>
    have hne := World.new_ne w2 _ c0
    go_region_held3 (fun Z => Z.cell? ⟨g, 0, none⟩ = some (.int .i64 3) ∧ Z.cell? ⟨g, 1, none⟩ = some (.bool x) ∧ Z.cell? ⟨g, 2, none⟩ = some (.int .i64 a) ∧ Z.cell? ⟨g, 3, none⟩ = some (.int .i64 0) ∧ Z.cell? ⟨g, 4, none⟩ = some (.int .i64 0) ∧ Z.cell? ⟨g, 5, none⟩ = some (.string ⟨#[]⟩) ∧ Z.cell? ⟨g, 6, none⟩ = some (.int .i64 2) ∧ Z.cell? ⟨g, 7, none⟩ = some (.bool y) ∧ Z.cell? ⟨g, 8, none⟩ = some (.int .i64 b) ∧ Z.cell? ⟨g, 9, none⟩ = some (.int .i64 0) ∧ Z.cell? ⟨g, 10, none⟩ = some (.int .i64 0) ∧ Z.cell? ⟨g, 11, none⟩ = some (.string ⟨#[]⟩)) (go_keep) (fail)
    all_goals
      go_wp2_with fail
      go_meet
      case rel => first | exact ⟨_, _, rfl, rfl, X1⟩ | exact ⟨_, _, rfl, rfl, X2⟩
  case rest =>
    obtain ⟨pa, pb, rfl, rfl, HAB⟩ := hcut
    clear c0 c1 c2 c3 c4 c5 d0 d1 d2 d3 d4 d5 X1 X2
    obtain ⟨c0, c1, c2, c3, c4, c5⟩ := HAB.out.1.cells0
    obtain ⟨d0, d1, d2, d3, d4, d5⟩ := HAB.out.2.1.cells0
    go_wp2_with fail
    go_ret
    exact ⟨rfl, HAB.out.2.2.2, Fr.of_grown _ HAB.out.2.2.1⟩
end
end Go.Proofs.YtfmmomdmemcbbaaGreat
