/- The walk of arith.two: add, sub, mul, div, atan, idiv, mod,  -/
import Derived.Deep.DeepCutAuto
import Derived.Deep.RegionHeld3
import Derived.Test.YtfmmomdmemcbbaaGreatA7
import Derived.Test.YtfmmomdmemcbbaaGreatA9a
set_option maxHeartbeats 4000000
set_option maxRecDepth 100000
namespace Go.Proofs.YtfmmomdmemcbbaaGreat
set_option linter.unusedVariables false
open Go.RowKit
theorem Pl.tdiv_bd2 (a b : Int) (B : Int) (h : -B ≤ a ∧ a ≤ B) : -B ≤ a.tdiv b ∧ a.tdiv b ≤ B := by
  have h1 := Int.natAbs_tdiv a b
  have h2 : (a.tdiv b).natAbs ≤ a.natAbs := Nat.le_trans (Nat.le_of_eq h1) (Nat.div_le_self a.natAbs b.natAbs)
  omega
theorem Pl.tmod_bd2 (a b : Int) (B : Int) (h : -B ≤ a ∧ a ≤ B) : -B ≤ a.tmod b ∧ a.tmod b ≤ B := by
  have h1 := Int.natAbs_tmod a b
  have h2 : (a.tmod b).natAbs ≤ a.natAbs := Nat.le_trans (Nat.le_of_eq h1) (Nat.mod_le a.natAbs b.natAbs)
  omega
def Pl.kinds2 (n : Int) : Int := if n = 11 ∨ n = 12 ∨ n = 13 ∨ n = 14 ∨ n = 26 then 24 else if n = 27 ∨ n = 28 ∨ n = 29 then 12 else 8
section
variable (W0 : World) (Pr : Nat → Prop) (p : Nat) (L : List Pl.Ob) (W : World) (hlen : L.length ≤ 200) (h : Stk W0 Pr p L W)
include h hlen
omit hlen in
theorem two_under_24 (hL : L.length < 2) (n : Int) (hn : n = 11 ∨ n = 12 ∨ n = 13 ∨ n = 14 ∨ n = 26) :
    Calls Tryz.prog 20 #[.pointer (some ⟨p, 0, none⟩), .int .i64 n] W fun e w' => e = .returned (.int .i64 7) ∧ Stk W0 Pr p L w' ∧ FrS W0 Pr W w' := by
  have HS := Lib.hid (h.grown ((Grown.refl W).alloc #[.int .i64 24, .int .i64 24] 3))
  have TK := Lib.hid (take2_under W0 Pr p L _ HS.out hL W.heap.size 2)
  clear h hL
  rcases hn with rfl | rfl | rfl | rfl | rfl
  all_goals
    go_enter Tryz.func20, Tryz.ntmps20
    go_wp2_with fail
    refine TK.out.mono ?_
    rintro e w2 ⟨rfl, rfl⟩
    clear TK
    go_wp2_with fail
    go_ret
    exact ⟨rfl, HS.out, Fr.of_grown _ ((Grown.refl W).alloc _ _)⟩
theorem two_bad1_24 (o0 o1 : Pl.Ob) (ho1 : L.reverse[0]? = some o1) (ho0 : L.reverse[1]? = some o0) (hm0 : Pl.mayO o0) (hm1 : Pl.mayO o1) (hf : Pl.fits 24 o1.1 = false) (n : Int) (hn : n = 11 ∨ n = 12 ∨ n = 13 ∨ n = 14 ∨ n = 26) :
    Calls Tryz.prog 20 #[.pointer (some ⟨p, 0, none⟩), .int .i64 n] W fun e w' => e = .returned (.int .i64 6) ∧ Stk W0 Pr p L w' ∧ FrS W0 Pr W w' := by
  have HS := Lib.hid (h.grown ((Grown.refl W).alloc #[.int .i64 24, .int .i64 24] 3))
  have TK := Lib.hid (take2_bad1 W0 Pr p L _ hlen HS.out o0 o1 ho1 ho0 (Pl.mayO_kind hm0) (Pl.mayO_kind hm1) W.heap.size 2 (Nat.le_refl _) 24 24 (by simp [go_sem]) (by simp [go_sem]) hf)
  clear h hlen ho0 ho1 hm0 hm1 hf
  rcases hn with rfl | rfl | rfl | rfl | rfl
  all_goals
    go_enter Tryz.func20, Tryz.ntmps20
    go_wp2_with fail
    refine TK.out.mono ?_
    rintro e w2 ⟨g2, rfl⟩
    have G2 := Lib.hid (grown_trans ((Grown.refl W).alloc #[.int .i64 24, .int .i64 24] 3) g2)
    have HS2 := Lib.hid (HS.out.grown g2)
    clear TK g2
    go_wp2_with fail
    go_ret
    exact ⟨rfl, HS2.out, Fr.of_grown _ G2.out⟩
theorem two_bad0_24 (o0 o1 : Pl.Ob) (ho1 : L.reverse[0]? = some o1) (ho0 : L.reverse[1]? = some o0) (hm0 : Pl.mayO o0) (hm1 : Pl.mayO o1) (hf : Pl.fits 24 o1.1 = true) (hf0 : Pl.fits 24 o0.1 = false) (n : Int) (hn : n = 11 ∨ n = 12 ∨ n = 13 ∨ n = 14 ∨ n = 26) :
    Calls Tryz.prog 20 #[.pointer (some ⟨p, 0, none⟩), .int .i64 n] W fun e w' => e = .returned (.int .i64 6) ∧ Stk W0 Pr p L w' ∧ FrS W0 Pr W w' := by
  have HS := Lib.hid (h.grown ((Grown.refl W).alloc #[.int .i64 24, .int .i64 24] 3))
  have TK := Lib.hid (take2_bad0 W0 Pr p L _ hlen HS.out o0 o1 ho1 ho0 (Pl.mayO_kind hm0) (Pl.mayO_kind hm1) W.heap.size 2 (Nat.le_refl _) 24 24 (by simp [go_sem]) (by simp [go_sem]) hf hf0)
  clear h hlen ho0 ho1 hm0 hm1 hf hf0
  rcases hn with rfl | rfl | rfl | rfl | rfl
  all_goals
    go_enter Tryz.func20, Tryz.ntmps20
    go_wp2_with fail
    refine TK.out.mono ?_
    rintro e w2 ⟨g2, rfl⟩
    have G2 := Lib.hid (grown_trans ((Grown.refl W).alloc #[.int .i64 24, .int .i64 24] 3) g2)
    have HS2 := Lib.hid (HS.out.grown g2)
    clear TK g2
    go_wp2_with fail
    go_ret
    exact ⟨rfl, HS2.out, Fr.of_grown _ G2.out⟩
omit hlen in
theorem two_under_12 (hL : L.length < 2) (n : Int) (hn : n = 27 ∨ n = 28 ∨ n = 29) :
    Calls Tryz.prog 20 #[.pointer (some ⟨p, 0, none⟩), .int .i64 n] W fun e w' => e = .returned (.int .i64 7) ∧ Stk W0 Pr p L w' ∧ FrS W0 Pr W w' := by
  have HS := Lib.hid (h.grown ((Grown.refl W).alloc #[.int .i64 12, .int .i64 12] 3))
  have TK := Lib.hid (take2_under W0 Pr p L _ HS.out hL W.heap.size 2)
  clear h hL
  rcases hn with rfl | rfl | rfl
  all_goals
    go_enter Tryz.func20, Tryz.ntmps20
    go_wp2_with fail
    refine TK.out.mono ?_
    rintro e w2 ⟨rfl, rfl⟩
    clear TK
    go_wp2_with fail
    go_ret
    exact ⟨rfl, HS.out, Fr.of_grown _ ((Grown.refl W).alloc _ _)⟩
theorem two_bad1_12 (o0 o1 : Pl.Ob) (ho1 : L.reverse[0]? = some o1) (ho0 : L.reverse[1]? = some o0) (hm0 : Pl.mayO o0) (hm1 : Pl.mayO o1) (hf : Pl.fits 12 o1.1 = false) (n : Int) (hn : n = 27 ∨ n = 28 ∨ n = 29) :
    Calls Tryz.prog 20 #[.pointer (some ⟨p, 0, none⟩), .int .i64 n] W fun e w' => e = .returned (.int .i64 6) ∧ Stk W0 Pr p L w' ∧ FrS W0 Pr W w' := by
  have HS := Lib.hid (h.grown ((Grown.refl W).alloc #[.int .i64 12, .int .i64 12] 3))
  have TK := Lib.hid (take2_bad1 W0 Pr p L _ hlen HS.out o0 o1 ho1 ho0 (Pl.mayO_kind hm0) (Pl.mayO_kind hm1) W.heap.size 2 (Nat.le_refl _) 12 12 (by simp [go_sem]) (by simp [go_sem]) hf)
  clear h hlen ho0 ho1 hm0 hm1 hf
  rcases hn with rfl | rfl | rfl
  all_goals
    go_enter Tryz.func20, Tryz.ntmps20
    go_wp2_with fail
    refine TK.out.mono ?_
    rintro e w2 ⟨g2, rfl⟩
    have G2 := Lib.hid (grown_trans ((Grown.refl W).alloc #[.int .i64 12, .int .i64 12] 3) g2)
    have HS2 := Lib.hid (HS.out.grown g2)
    clear TK g2
    go_wp2_with fail
    go_ret
    exact ⟨rfl, HS2.out, Fr.of_grown _ G2.out⟩
theorem two_bad0_12 (o0 o1 : Pl.Ob) (ho1 : L.reverse[0]? = some o1) (ho0 : L.reverse[1]? = some o0) (hm0 : Pl.mayO o0) (hm1 : Pl.mayO o1) (hf : Pl.fits 12 o1.1 = true) (hf0 : Pl.fits 12 o0.1 = false) (n : Int) (hn : n = 27 ∨ n = 28 ∨ n = 29) :
    Calls Tryz.prog 20 #[.pointer (some ⟨p, 0, none⟩), .int .i64 n] W fun e w' => e = .returned (.int .i64 6) ∧ Stk W0 Pr p L w' ∧ FrS W0 Pr W w' := by
  have HS := Lib.hid (h.grown ((Grown.refl W).alloc #[.int .i64 12, .int .i64 12] 3))
  have TK := Lib.hid (take2_bad0 W0 Pr p L _ hlen HS.out o0 o1 ho1 ho0 (Pl.mayO_kind hm0) (Pl.mayO_kind hm1) W.heap.size 2 (Nat.le_refl _) 12 12 (by simp [go_sem]) (by simp [go_sem]) hf hf0)
  clear h hlen ho0 ho1 hm0 hm1 hf hf0
  rcases hn with rfl | rfl | rfl
  all_goals
    go_enter Tryz.func20, Tryz.ntmps20
    go_wp2_with fail
    refine TK.out.mono ?_
    rintro e w2 ⟨g2, rfl⟩
    have G2 := Lib.hid (grown_trans ((Grown.refl W).alloc #[.int .i64 12, .int .i64 12] 3) g2)
    have HS2 := Lib.hid (HS.out.grown g2)
    clear TK g2
    go_wp2_with fail
    go_ret
    exact ⟨rfl, HS2.out, Fr.of_grown _ G2.out⟩
omit hlen in
theorem two_under_8 (hL : L.length < 2) (n : Int) (hn : n = 15 ∨ n = 16 ∨ n = 31) :
    Calls Tryz.prog 20 #[.pointer (some ⟨p, 0, none⟩), .int .i64 n] W fun e w' => e = .returned (.int .i64 7) ∧ Stk W0 Pr p L w' ∧ FrS W0 Pr W w' := by
  have HS := Lib.hid (h.grown ((Grown.refl W).alloc #[.int .i64 8, .int .i64 8] 3))
  have TK := Lib.hid (take2_under W0 Pr p L _ HS.out hL W.heap.size 2)
  clear h hL
  rcases hn with rfl | rfl | rfl
  all_goals
    go_enter Tryz.func20, Tryz.ntmps20
    go_wp2_with fail
    refine TK.out.mono ?_
    rintro e w2 ⟨rfl, rfl⟩
    clear TK
    go_wp2_with fail
    go_ret
    exact ⟨rfl, HS.out, Fr.of_grown _ ((Grown.refl W).alloc _ _)⟩
theorem two_bad1_8 (o0 o1 : Pl.Ob) (ho1 : L.reverse[0]? = some o1) (ho0 : L.reverse[1]? = some o0) (hm0 : Pl.mayO o0) (hm1 : Pl.mayO o1) (hf : Pl.fits 8 o1.1 = false) (n : Int) (hn : n = 15 ∨ n = 16 ∨ n = 31) :
    Calls Tryz.prog 20 #[.pointer (some ⟨p, 0, none⟩), .int .i64 n] W fun e w' => e = .returned (.int .i64 6) ∧ Stk W0 Pr p L w' ∧ FrS W0 Pr W w' := by
  have HS := Lib.hid (h.grown ((Grown.refl W).alloc #[.int .i64 8, .int .i64 8] 3))
  have TK := Lib.hid (take2_bad1 W0 Pr p L _ hlen HS.out o0 o1 ho1 ho0 (Pl.mayO_kind hm0) (Pl.mayO_kind hm1) W.heap.size 2 (Nat.le_refl _) 8 8 (by simp [go_sem]) (by simp [go_sem]) hf)
  clear h hlen ho0 ho1 hm0 hm1 hf
  rcases hn with rfl | rfl | rfl
  all_goals
    go_enter Tryz.func20, Tryz.ntmps20
    go_wp2_with fail
    refine TK.out.mono ?_
    rintro e w2 ⟨g2, rfl⟩
    have G2 := Lib.hid (grown_trans ((Grown.refl W).alloc #[.int .i64 8, .int .i64 8] 3) g2)
    have HS2 := Lib.hid (HS.out.grown g2)
    clear TK g2
    go_wp2_with fail
    go_ret
    exact ⟨rfl, HS2.out, Fr.of_grown _ G2.out⟩
theorem two_bad0_8 (o0 o1 : Pl.Ob) (ho1 : L.reverse[0]? = some o1) (ho0 : L.reverse[1]? = some o0) (hm0 : Pl.mayO o0) (hm1 : Pl.mayO o1) (hf : Pl.fits 8 o1.1 = true) (hf0 : Pl.fits 8 o0.1 = false) (n : Int) (hn : n = 15 ∨ n = 16 ∨ n = 31) :
    Calls Tryz.prog 20 #[.pointer (some ⟨p, 0, none⟩), .int .i64 n] W fun e w' => e = .returned (.int .i64 6) ∧ Stk W0 Pr p L w' ∧ FrS W0 Pr W w' := by
  have HS := Lib.hid (h.grown ((Grown.refl W).alloc #[.int .i64 8, .int .i64 8] 3))
  have TK := Lib.hid (take2_bad0 W0 Pr p L _ hlen HS.out o0 o1 ho1 ho0 (Pl.mayO_kind hm0) (Pl.mayO_kind hm1) W.heap.size 2 (Nat.le_refl _) 8 8 (by simp [go_sem]) (by simp [go_sem]) hf hf0)
  clear h hlen ho0 ho1 hm0 hm1 hf hf0
  rcases hn with rfl | rfl | rfl
  all_goals
    go_enter Tryz.func20, Tryz.ntmps20
    go_wp2_with fail
    refine TK.out.mono ?_
    rintro e w2 ⟨g2, rfl⟩
    have G2 := Lib.hid (grown_trans ((Grown.refl W).alloc #[.int .i64 8, .int .i64 8] 3) g2)
    have HS2 := Lib.hid (HS.out.grown g2)
    clear TK g2
    go_wp2_with fail
    go_ret
    exact ⟨rfl, HS2.out, Fr.of_grown _ G2.out⟩
theorem two_num (k0 k1 : Int) (q0 : k0 = 3 ∨ k0 = 4) (q1 : k1 = 3 ∨ k1 = 4) (n : Int) (hn : n = 11 ∨ n = 12 ∨ n = 13 ∨ n = 14 ∨ n = 26) (a b : Int) (x y : Bool) (ho1 : L.reverse[0]? = some (k1, y, b, 0, 0, ⟨#[]⟩)) (ho0 : L.reverse[1]? = some (k0, x, a, 0, 0, ⟨#[]⟩)) (h2 : 2 ≤ L.length) (hm0 : Pl.mayO (k0, x, a, 0, 0, ⟨#[]⟩)) (hm1 : Pl.mayO (k1, y, b, 0, 0, ⟨#[]⟩)) :
    Calls Tryz.prog 20 #[.pointer (some ⟨p, 0, none⟩), .int .i64 n] W fun e w' => e = .returned (.int .i64 (Pl.numbersR L n (k0, x, a, 0, 0, ⟨#[]⟩) (k1, y, b, 0, 0, ⟨#[]⟩)).1) ∧ Stk W0 Pr p (Pl.numbersR L n (k0, x, a, 0, 0, ⟨#[]⟩) (k1, y, b, 0, 0, ⟨#[]⟩)).2 w' ∧ FrS W0 Pr W w' := by
  have NX := Lib.hid (fun Z (hS : Stk W0 Pr p L Z) => numbers_any W0 Pr p L Z hlen hS n (by omega) (k0, x, a, 0, 0, ⟨#[]⟩) (k1, y, b, 0, 0, ⟨#[]⟩) h2 hm0 hm1 q0 q1)
  have HS := Lib.hid (h.grown ((Grown.refl W).alloc #[.int .i64 24, .int .i64 24] 3))
  have TK := Lib.hid (take2_ok W0 Pr p L _ hlen HS.out _ _ ho1 ho0 (Pl.mayO_kind hm0) (Pl.mayO_kind hm1) W.heap.size 2 (Nat.le_refl _) 24 24 (by simp [go_sem]) (by simp [go_sem]) (show Pl.fits 24 k1 = true by rcases q1 with rfl | rfl <;> decide) (show Pl.fits 24 k0 = true by rcases q0 with rfl | rfl <;> decide))
  clear h hlen ho1 ho0 h2 hm0 hm1 q0 q1
  rcases hn with rfl | rfl | rfl | rfl | rfl
  all_goals
    go_enter Tryz.func20, Tryz.ntmps20
    go_wp2_with fail
    refine TK.out.mono ?_
    rintro e w2 ⟨g2, g, B2, rfl⟩
    have G2 := Lib.hid (grown_trans ((Grown.refl W).alloc #[.int .i64 24, .int .i64 24] 3) g2)
    have HS2 := Lib.hid (HS.out.grown g2)
    obtain ⟨c0, c1, c2, c3, c4, c5, d0, d1, d2, d3, d4, d5⟩ := B2.at12
    clear TK g2 HS B2
    have X1 := Lib.hid (AB.one G2.out HS2.out (k0, x, a, 0, 0, ⟨#[]⟩) (k1, y, b, 0, 0, ⟨#[]⟩) #[.int .i64 k0, .bool x, .int .i64 a, .int .i64 0, .int .i64 0, .string ⟨#[]⟩] #[.int .i64 k1, .bool y, .int .i64 b, .int .i64 0, .int .i64 0, .string ⟨#[]⟩] rfl rfl)
    have X2 := Lib.hid (AB.two G2.out HS2.out (k0, x, a, 0, 0, ⟨#[]⟩) (k1, y, b, 0, 0, ⟨#[]⟩) #[.int .i64 k0, .bool x, .int .i64 a, .int .i64 0, .int .i64 0, .string ⟨#[]⟩] #[.int .i64 k1, .bool y, .int .i64 b, .int .i64 0, .int .i64 0, .string ⟨#[]⟩] rfl rfl)
    clear G2 HS2
    go_upto_region 16 with fail
    go_cut [8, 9] (fun sa sb wx => ∃ pa pb, sa = .pointer (some ⟨pa, 0, none⟩) ∧ sb = .pointer (some ⟨pb, 0, none⟩) ∧ Hid (AB W0 Pr p L W (k0, x, a, 0, 0, ⟨#[]⟩) (k1, y, b, 0, 0, ⟨#[]⟩) pa pb wx))
    case first =>
      have hne := World.new_ne w2 _ c0
      go_region_held3 (fun Z => Z.cell? ⟨g, 0, none⟩ = some (.int .i64 k0) ∧ Z.cell? ⟨g, 1, none⟩ = some (.bool x) ∧ Z.cell? ⟨g, 2, none⟩ = some (.int .i64 a) ∧ Z.cell? ⟨g, 3, none⟩ = some (.int .i64 0) ∧ Z.cell? ⟨g, 4, none⟩ = some (.int .i64 0) ∧ Z.cell? ⟨g, 5, none⟩ = some (.string ⟨#[]⟩) ∧ Z.cell? ⟨g, 6, none⟩ = some (.int .i64 k1) ∧ Z.cell? ⟨g, 7, none⟩ = some (.bool y) ∧ Z.cell? ⟨g, 8, none⟩ = some (.int .i64 b) ∧ Z.cell? ⟨g, 9, none⟩ = some (.int .i64 0) ∧ Z.cell? ⟨g, 10, none⟩ = some (.int .i64 0) ∧ Z.cell? ⟨g, 11, none⟩ = some (.string ⟨#[]⟩)) (go_keep) (fail)
      all_goals
        go_wp2_with fail
        go_meet
        case rel => first | exact ⟨_, _, rfl, rfl, X1⟩ | exact ⟨_, _, rfl, rfl, X2⟩
    case rest =>
      obtain ⟨pa, pb, rfl, rfl, HAB⟩ := hcut
      clear c0 c1 c2 c3 c4 c5 d0 d1 d2 d3 d4 d5 X1 X2
      obtain ⟨c0, c1, c2, c3, c4, c5⟩ := HAB.out.1.cells0
      obtain ⟨d0, d1, d2, d3, d4, d5⟩ := HAB.out.2.1.cells0
      go_wp2_with fail
      refine (NX.out _ HAB.out.2.2.2).mono ?_
      rintro e w4 ⟨rfl, hs, hf⟩
      have H4 := Lib.hid (And.intro hs ((Fr.of_grown _ HAB.out.2.2.1).trans hf))
      clear hs hf NX
      go_wp2_with fail
      go_ret
      exact ⟨rfl, H4.out⟩
theorem two_15 (a b : Int) (x y : Bool) (ho1 : L.reverse[0]? = some (3, y, b, 0, 0, ⟨#[]⟩)) (ho0 : L.reverse[1]? = some (3, x, a, 0, 0, ⟨#[]⟩)) (h2 : 2 ≤ L.length) (hm0 : Pl.mayO (3, x, a, 0, 0, ⟨#[]⟩)) (hm1 : Pl.mayO (3, y, b, 0, 0, ⟨#[]⟩)) (hb : b ≠ 0) :
    Calls Tryz.prog 20 #[.pointer (some ⟨p, 0, none⟩), .int .i64 15] W fun e w' => e = .returned (.int .i64 (Pl.wholeR L 2 (a.tdiv b)).1) ∧ Stk W0 Pr p (Pl.wholeR L 2 (a.tdiv b)).2 w' ∧ FrS W0 Pr W w' := by
  have ia := (Pl.mayO_num hm0 (.inl rfl)).choose_spec.2.1 rfl
  have ib := (Pl.mayO_num hm1 (.inl rfl)).choose_spec.2.1 rfl
  unfold Pl.inInt at ia ib
  simp only at ia ib
  have bd := Pl.tdiv_bd2 a b 2147483647 (by omega)
  have bm := Pl.tmod_bd2 a b 2147483647 (by omega)
  have hb0 : (b == 0) = false := beq_eq_false_iff_ne.2 hb
  have WX := Lib.hid (fun Z (hS : Stk W0 Pr p L Z) => whole_any W0 Pr p L Z hlen hS 2 h2 (a.tdiv b))
  obtain ⟨c, hc⟩ : ∃ c, c = a.tdiv b := ⟨_, rfl⟩
  obtain ⟨d, hd⟩ : ∃ d, d = a.tmod b := ⟨_, rfl⟩
  rw [← hc] at bd
  rw [← hd] at bm
  rw [← hc] at WX
  rw [← hc]
  have hc' : a.tdiv b = c := hc.symm
  have hd' : a.tmod b = d := hd.symm
  clear hc hd
  have HS := Lib.hid (h.grown ((Grown.refl W).alloc #[.int .i64 8, .int .i64 8] 3))
  have TK := Lib.hid (take2_ok W0 Pr p L _ hlen HS.out _ _ ho1 ho0 (Pl.mayO_kind hm0) (Pl.mayO_kind hm1) W.heap.size 2 (Nat.le_refl _) 8 8 (by simp [go_sem]) (by simp [go_sem]) (show Pl.fits 8 3 = true by decide) (show Pl.fits 8 3 = true by decide))
  clear h hlen ho1 ho0 h2 hm0 hm1
  go_enter Tryz.func20, Tryz.ntmps20
  go_wp2_with fail
  refine TK.out.mono ?_
  rintro e w2 ⟨g2, g, B2, rfl⟩
  have G2 := Lib.hid (grown_trans ((Grown.refl W).alloc #[.int .i64 8, .int .i64 8] 3) g2)
  have HS2 := Lib.hid (HS.out.grown g2)
  obtain ⟨c0, c1, c2, c3, c4, c5, d0, d1, d2, d3, d4, d5⟩ := B2.at12
  clear TK g2 HS B2
  have X1 := Lib.hid (AB.one G2.out HS2.out (3, x, a, 0, 0, ⟨#[]⟩) (3, y, b, 0, 0, ⟨#[]⟩) #[.int .i64 3, .bool x, .int .i64 a, .int .i64 0, .int .i64 0, .string ⟨#[]⟩] #[.int .i64 3, .bool y, .int .i64 b, .int .i64 0, .int .i64 0, .string ⟨#[]⟩] rfl rfl)
  have X2 := Lib.hid (AB.two G2.out HS2.out (3, x, a, 0, 0, ⟨#[]⟩) (3, y, b, 0, 0, ⟨#[]⟩) #[.int .i64 3, .bool x, .int .i64 a, .int .i64 0, .int .i64 0, .string ⟨#[]⟩] #[.int .i64 3, .bool y, .int .i64 b, .int .i64 0, .int .i64 0, .string ⟨#[]⟩] rfl rfl)
  clear G2 HS2
  go_upto_region 16 with fail
  go_cut [8, 9] (fun sa sb wx => ∃ pa pb, sa = .pointer (some ⟨pa, 0, none⟩) ∧ sb = .pointer (some ⟨pb, 0, none⟩) ∧ Hid (AB W0 Pr p L W (3, x, a, 0, 0, ⟨#[]⟩) (3, y, b, 0, 0, ⟨#[]⟩) pa pb wx))
  case first =>
    have hne := World.new_ne w2 _ c0
    go_region_held3 (fun Z => Z.cell? ⟨g, 0, none⟩ = some (.int .i64 3) ∧ Z.cell? ⟨g, 1, none⟩ = some (.bool x) ∧ Z.cell? ⟨g, 2, none⟩ = some (.int .i64 a) ∧ Z.cell? ⟨g, 3, none⟩ = some (.int .i64 0) ∧ Z.cell? ⟨g, 4, none⟩ = some (.int .i64 0) ∧ Z.cell? ⟨g, 5, none⟩ = some (.string ⟨#[]⟩) ∧ Z.cell? ⟨g, 6, none⟩ = some (.int .i64 3) ∧ Z.cell? ⟨g, 7, none⟩ = some (.bool y) ∧ Z.cell? ⟨g, 8, none⟩ = some (.int .i64 b) ∧ Z.cell? ⟨g, 9, none⟩ = some (.int .i64 0) ∧ Z.cell? ⟨g, 10, none⟩ = some (.int .i64 0) ∧ Z.cell? ⟨g, 11, none⟩ = some (.string ⟨#[]⟩)) (go_keep) (fail)
    all_goals
      go_wp2_with fail
      go_meet
      case rel => first | exact ⟨_, _, rfl, rfl, X1⟩ | exact ⟨_, _, rfl, rfl, X2⟩
  case rest =>
    obtain ⟨pa, pb, rfl, rfl, HAB⟩ := hcut
    clear c0 c1 c2 c3 c4 c5 d0 d1 d2 d3 d4 d5 X1 X2
    obtain ⟨c0, c1, c2, c3, c4, c5⟩ := HAB.out.1.cells0
    obtain ⟨d0, d1, d2, d3, d4, d5⟩ := HAB.out.2.1.cells0
    go_wp2_with fail
    refine (WX.out _ HAB.out.2.2.2).mono ?_
    rintro e w4 ⟨rfl, hs, hf⟩
    have H4 := Lib.hid (And.intro hs ((Fr.of_grown _ HAB.out.2.2.1).trans hf))
    clear hs hf WX
    go_wp2_with fail
    go_ret
    exact ⟨rfl, H4.out⟩
theorem two_15_zero (a b : Int) (x y : Bool) (ho1 : L.reverse[0]? = some (3, y, b, 0, 0, ⟨#[]⟩)) (ho0 : L.reverse[1]? = some (3, x, a, 0, 0, ⟨#[]⟩)) (h2 : 2 ≤ L.length) (hm0 : Pl.mayO (3, x, a, 0, 0, ⟨#[]⟩)) (hm1 : Pl.mayO (3, y, b, 0, 0, ⟨#[]⟩)) (hb : b = 0) :
    Calls Tryz.prog 20 #[.pointer (some ⟨p, 0, none⟩), .int .i64 15] W fun e w' => e = .returned (.int .i64 (((19, L) : Int × List Pl.Ob)).1) ∧ Stk W0 Pr p (((19, L) : Int × List Pl.Ob)).2 w' ∧ FrS W0 Pr W w' := by
  have hb0 : (b == 0) = true := by rw [hb]; rfl
  clear hb
  have HS := Lib.hid (h.grown ((Grown.refl W).alloc #[.int .i64 8, .int .i64 8] 3))
  have TK := Lib.hid (take2_ok W0 Pr p L _ hlen HS.out _ _ ho1 ho0 (Pl.mayO_kind hm0) (Pl.mayO_kind hm1) W.heap.size 2 (Nat.le_refl _) 8 8 (by simp [go_sem]) (by simp [go_sem]) (show Pl.fits 8 3 = true by decide) (show Pl.fits 8 3 = true by decide))
  clear h hlen ho1 ho0 h2 hm0 hm1
  go_enter Tryz.func20, Tryz.ntmps20
  go_wp2_with fail
  refine TK.out.mono ?_
  rintro e w2 ⟨g2, g, B2, rfl⟩
  have G2 := Lib.hid (grown_trans ((Grown.refl W).alloc #[.int .i64 8, .int .i64 8] 3) g2)
  have HS2 := Lib.hid (HS.out.grown g2)
  obtain ⟨c0, c1, c2, c3, c4, c5, d0, d1, d2, d3, d4, d5⟩ := B2.at12
  clear TK g2 HS B2
  have X1 := Lib.hid (AB.one G2.out HS2.out (3, x, a, 0, 0, ⟨#[]⟩) (3, y, b, 0, 0, ⟨#[]⟩) #[.int .i64 3, .bool x, .int .i64 a, .int .i64 0, .int .i64 0, .string ⟨#[]⟩] #[.int .i64 3, .bool y, .int .i64 b, .int .i64 0, .int .i64 0, .string ⟨#[]⟩] rfl rfl)
  have X2 := Lib.hid (AB.two G2.out HS2.out (3, x, a, 0, 0, ⟨#[]⟩) (3, y, b, 0, 0, ⟨#[]⟩) #[.int .i64 3, .bool x, .int .i64 a, .int .i64 0, .int .i64 0, .string ⟨#[]⟩] #[.int .i64 3, .bool y, .int .i64 b, .int .i64 0, .int .i64 0, .string ⟨#[]⟩] rfl rfl)
  clear G2 HS2
  go_upto_region 16 with fail
  go_cut [8, 9] (fun sa sb wx => ∃ pa pb, sa = .pointer (some ⟨pa, 0, none⟩) ∧ sb = .pointer (some ⟨pb, 0, none⟩) ∧ Hid (AB W0 Pr p L W (3, x, a, 0, 0, ⟨#[]⟩) (3, y, b, 0, 0, ⟨#[]⟩) pa pb wx))
  case first =>
    have hne := World.new_ne w2 _ c0
    go_region_held3 (fun Z => Z.cell? ⟨g, 0, none⟩ = some (.int .i64 3) ∧ Z.cell? ⟨g, 1, none⟩ = some (.bool x) ∧ Z.cell? ⟨g, 2, none⟩ = some (.int .i64 a) ∧ Z.cell? ⟨g, 3, none⟩ = some (.int .i64 0) ∧ Z.cell? ⟨g, 4, none⟩ = some (.int .i64 0) ∧ Z.cell? ⟨g, 5, none⟩ = some (.string ⟨#[]⟩) ∧ Z.cell? ⟨g, 6, none⟩ = some (.int .i64 3) ∧ Z.cell? ⟨g, 7, none⟩ = some (.bool y) ∧ Z.cell? ⟨g, 8, none⟩ = some (.int .i64 b) ∧ Z.cell? ⟨g, 9, none⟩ = some (.int .i64 0) ∧ Z.cell? ⟨g, 10, none⟩ = some (.int .i64 0) ∧ Z.cell? ⟨g, 11, none⟩ = some (.string ⟨#[]⟩)) (go_keep) (fail)
    all_goals
      go_wp2_with fail
      go_meet
      case rel => first | exact ⟨_, _, rfl, rfl, X1⟩ | exact ⟨_, _, rfl, rfl, X2⟩
  case rest =>
    obtain ⟨pa, pb, rfl, rfl, HAB⟩ := hcut
    clear c0 c1 c2 c3 c4 c5 d0 d1 d2 d3 d4 d5 X1 X2
    obtain ⟨c0, c1, c2, c3, c4, c5⟩ := HAB.out.1.cells0
    obtain ⟨d0, d1, d2, d3, d4, d5⟩ := HAB.out.2.1.cells0
    go_wp2_with fail
    go_ret
    exact ⟨rfl, HAB.out.2.2.2, Fr.of_grown _ HAB.out.2.2.1⟩
theorem two_16 (a b : Int) (x y : Bool) (ho1 : L.reverse[0]? = some (3, y, b, 0, 0, ⟨#[]⟩)) (ho0 : L.reverse[1]? = some (3, x, a, 0, 0, ⟨#[]⟩)) (h2 : 2 ≤ L.length) (hm0 : Pl.mayO (3, x, a, 0, 0, ⟨#[]⟩)) (hm1 : Pl.mayO (3, y, b, 0, 0, ⟨#[]⟩)) (hb : b ≠ 0) :
    Calls Tryz.prog 20 #[.pointer (some ⟨p, 0, none⟩), .int .i64 16] W fun e w' => e = .returned (.int .i64 (Pl.wholeR L 2 (a.tmod b)).1) ∧ Stk W0 Pr p (Pl.wholeR L 2 (a.tmod b)).2 w' ∧ FrS W0 Pr W w' := by
  have ia := (Pl.mayO_num hm0 (.inl rfl)).choose_spec.2.1 rfl
  have ib := (Pl.mayO_num hm1 (.inl rfl)).choose_spec.2.1 rfl
  unfold Pl.inInt at ia ib
  simp only at ia ib
  have bd := Pl.tdiv_bd2 a b 2147483647 (by omega)
  have bm := Pl.tmod_bd2 a b 2147483647 (by omega)
  have hb0 : (b == 0) = false := beq_eq_false_iff_ne.2 hb
  have WX := Lib.hid (fun Z (hS : Stk W0 Pr p L Z) => whole_any W0 Pr p L Z hlen hS 2 h2 (a.tmod b))
  obtain ⟨c, hc⟩ : ∃ c, c = a.tdiv b := ⟨_, rfl⟩
  obtain ⟨d, hd⟩ : ∃ d, d = a.tmod b := ⟨_, rfl⟩
  rw [← hc] at bd
  rw [← hd] at bm
  rw [← hd] at WX
  rw [← hd]
  have hc' : a.tdiv b = c := hc.symm
  have hd' : a.tmod b = d := hd.symm
  clear hc hd
  have HS := Lib.hid (h.grown ((Grown.refl W).alloc #[.int .i64 8, .int .i64 8] 3))
  have TK := Lib.hid (take2_ok W0 Pr p L _ hlen HS.out _ _ ho1 ho0 (Pl.mayO_kind hm0) (Pl.mayO_kind hm1) W.heap.size 2 (Nat.le_refl _) 8 8 (by simp [go_sem]) (by simp [go_sem]) (show Pl.fits 8 3 = true by decide) (show Pl.fits 8 3 = true by decide))
  clear h hlen ho1 ho0 h2 hm0 hm1
  go_enter Tryz.func20, Tryz.ntmps20
  go_wp2_with fail
  refine TK.out.mono ?_
  rintro e w2 ⟨g2, g, B2, rfl⟩
  have G2 := Lib.hid (grown_trans ((Grown.refl W).alloc #[.int .i64 8, .int .i64 8] 3) g2)
  have HS2 := Lib.hid (HS.out.grown g2)
  obtain ⟨c0, c1, c2, c3, c4, c5, d0, d1, d2, d3, d4, d5⟩ := B2.at12
  clear TK g2 HS B2
  have X1 := Lib.hid (AB.one G2.out HS2.out (3, x, a, 0, 0, ⟨#[]⟩) (3, y, b, 0, 0, ⟨#[]⟩) #[.int .i64 3, .bool x, .int .i64 a, .int .i64 0, .int .i64 0, .string ⟨#[]⟩] #[.int .i64 3, .bool y, .int .i64 b, .int .i64 0, .int .i64 0, .string ⟨#[]⟩] rfl rfl)
  have X2 := Lib.hid (AB.two G2.out HS2.out (3, x, a, 0, 0, ⟨#[]⟩) (3, y, b, 0, 0, ⟨#[]⟩) #[.int .i64 3, .bool x, .int .i64 a, .int .i64 0, .int .i64 0, .string ⟨#[]⟩] #[.int .i64 3, .bool y, .int .i64 b, .int .i64 0, .int .i64 0, .string ⟨#[]⟩] rfl rfl)
  clear G2 HS2
  go_upto_region 16 with fail
  go_cut [8, 9] (fun sa sb wx => ∃ pa pb, sa = .pointer (some ⟨pa, 0, none⟩) ∧ sb = .pointer (some ⟨pb, 0, none⟩) ∧ Hid (AB W0 Pr p L W (3, x, a, 0, 0, ⟨#[]⟩) (3, y, b, 0, 0, ⟨#[]⟩) pa pb wx))
  case first =>
    have hne := World.new_ne w2 _ c0
    go_region_held3 (fun Z => Z.cell? ⟨g, 0, none⟩ = some (.int .i64 3) ∧ Z.cell? ⟨g, 1, none⟩ = some (.bool x) ∧ Z.cell? ⟨g, 2, none⟩ = some (.int .i64 a) ∧ Z.cell? ⟨g, 3, none⟩ = some (.int .i64 0) ∧ Z.cell? ⟨g, 4, none⟩ = some (.int .i64 0) ∧ Z.cell? ⟨g, 5, none⟩ = some (.string ⟨#[]⟩) ∧ Z.cell? ⟨g, 6, none⟩ = some (.int .i64 3) ∧ Z.cell? ⟨g, 7, none⟩ = some (.bool y) ∧ Z.cell? ⟨g, 8, none⟩ = some (.int .i64 b) ∧ Z.cell? ⟨g, 9, none⟩ = some (.int .i64 0) ∧ Z.cell? ⟨g, 10, none⟩ = some (.int .i64 0) ∧ Z.cell? ⟨g, 11, none⟩ = some (.string ⟨#[]⟩)) (go_keep) (fail)
    all_goals
      go_wp2_with fail
      go_meet
      case rel => first | exact ⟨_, _, rfl, rfl, X1⟩ | exact ⟨_, _, rfl, rfl, X2⟩
  case rest =>
    obtain ⟨pa, pb, rfl, rfl, HAB⟩ := hcut
    clear c0 c1 c2 c3 c4 c5 d0 d1 d2 d3 d4 d5 X1 X2
    obtain ⟨c0, c1, c2, c3, c4, c5⟩ := HAB.out.1.cells0
    obtain ⟨d0, d1, d2, d3, d4, d5⟩ := HAB.out.2.1.cells0
    go_wp2_with fail
    refine (WX.out _ HAB.out.2.2.2).mono ?_
    rintro e w4 ⟨rfl, hs, hf⟩
    have H4 := Lib.hid (And.intro hs ((Fr.of_grown _ HAB.out.2.2.1).trans hf))
    clear hs hf WX
    go_wp2_with fail
    go_ret
    exact ⟨rfl, H4.out⟩
theorem two_16_zero (a b : Int) (x y : Bool) (ho1 : L.reverse[0]? = some (3, y, b, 0, 0, ⟨#[]⟩)) (ho0 : L.reverse[1]? = some (3, x, a, 0, 0, ⟨#[]⟩)) (h2 : 2 ≤ L.length) (hm0 : Pl.mayO (3, x, a, 0, 0, ⟨#[]⟩)) (hm1 : Pl.mayO (3, y, b, 0, 0, ⟨#[]⟩)) (hb : b = 0) :
    Calls Tryz.prog 20 #[.pointer (some ⟨p, 0, none⟩), .int .i64 16] W fun e w' => e = .returned (.int .i64 (((19, L) : Int × List Pl.Ob)).1) ∧ Stk W0 Pr p (((19, L) : Int × List Pl.Ob)).2 w' ∧ FrS W0 Pr W w' := by
  have hb0 : (b == 0) = true := by rw [hb]; rfl
  clear hb
  have HS := Lib.hid (h.grown ((Grown.refl W).alloc #[.int .i64 8, .int .i64 8] 3))
  have TK := Lib.hid (take2_ok W0 Pr p L _ hlen HS.out _ _ ho1 ho0 (Pl.mayO_kind hm0) (Pl.mayO_kind hm1) W.heap.size 2 (Nat.le_refl _) 8 8 (by simp [go_sem]) (by simp [go_sem]) (show Pl.fits 8 3 = true by decide) (show Pl.fits 8 3 = true by decide))
  clear h hlen ho1 ho0 h2 hm0 hm1
  go_enter Tryz.func20, Tryz.ntmps20
  go_wp2_with fail
  refine TK.out.mono ?_
  rintro e w2 ⟨g2, g, B2, rfl⟩
  have G2 := Lib.hid (grown_trans ((Grown.refl W).alloc #[.int .i64 8, .int .i64 8] 3) g2)
  have HS2 := Lib.hid (HS.out.grown g2)
  obtain ⟨c0, c1, c2, c3, c4, c5, d0, d1, d2, d3, d4, d5⟩ := B2.at12
  clear TK g2 HS B2
  have X1 := Lib.hid (AB.one G2.out HS2.out (3, x, a, 0, 0, ⟨#[]⟩) (3, y, b, 0, 0, ⟨#[]⟩) #[.int .i64 3, .bool x, .int .i64 a, .int .i64 0, .int .i64 0, .string ⟨#[]⟩] #[.int .i64 3, .bool y, .int .i64 b, .int .i64 0, .int .i64 0, .string ⟨#[]⟩] rfl rfl)
  have X2 := Lib.hid (AB.two G2.out HS2.out (3, x, a, 0, 0, ⟨#[]⟩) (3, y, b, 0, 0, ⟨#[]⟩) #[.int .i64 3, .bool x, .int .i64 a, .int .i64 0, .int .i64 0, .string ⟨#[]⟩] #[.int .i64 3, .bool y, .int .i64 b, .int .i64 0, .int .i64 0, .string ⟨#[]⟩] rfl rfl)
  clear G2 HS2
  go_upto_region 16 with fail
  go_cut [8, 9] (fun sa sb wx => ∃ pa pb, sa = .pointer (some ⟨pa, 0, none⟩) ∧ sb = .pointer (some ⟨pb, 0, none⟩) ∧ Hid (AB W0 Pr p L W (3, x, a, 0, 0, ⟨#[]⟩) (3, y, b, 0, 0, ⟨#[]⟩) pa pb wx))
  case first =>
    have hne := World.new_ne w2 _ c0
    go_region_held3 (fun Z => Z.cell? ⟨g, 0, none⟩ = some (.int .i64 3) ∧ Z.cell? ⟨g, 1, none⟩ = some (.bool x) ∧ Z.cell? ⟨g, 2, none⟩ = some (.int .i64 a) ∧ Z.cell? ⟨g, 3, none⟩ = some (.int .i64 0) ∧ Z.cell? ⟨g, 4, none⟩ = some (.int .i64 0) ∧ Z.cell? ⟨g, 5, none⟩ = some (.string ⟨#[]⟩) ∧ Z.cell? ⟨g, 6, none⟩ = some (.int .i64 3) ∧ Z.cell? ⟨g, 7, none⟩ = some (.bool y) ∧ Z.cell? ⟨g, 8, none⟩ = some (.int .i64 b) ∧ Z.cell? ⟨g, 9, none⟩ = some (.int .i64 0) ∧ Z.cell? ⟨g, 10, none⟩ = some (.int .i64 0) ∧ Z.cell? ⟨g, 11, none⟩ = some (.string ⟨#[]⟩)) (go_keep) (fail)
    all_goals
      go_wp2_with fail
      go_meet
      case rel => first | exact ⟨_, _, rfl, rfl, X1⟩ | exact ⟨_, _, rfl, rfl, X2⟩
  case rest =>
    obtain ⟨pa, pb, rfl, rfl, HAB⟩ := hcut
    clear c0 c1 c2 c3 c4 c5 d0 d1 d2 d3 d4 d5 X1 X2
    obtain ⟨c0, c1, c2, c3, c4, c5⟩ := HAB.out.1.cells0
    obtain ⟨d0, d1, d2, d3, d4, d5⟩ := HAB.out.2.1.cells0
    go_wp2_with fail
    go_ret
    exact ⟨rfl, HAB.out.2.2.2, Fr.of_grown _ HAB.out.2.2.1⟩
theorem two_31_down (a b : Int) (x y : Bool) (ho1 : L.reverse[0]? = some (3, y, b, 0, 0, ⟨#[]⟩)) (ho0 : L.reverse[1]? = some (3, x, a, 0, 0, ⟨#[]⟩)) (h2 : 2 ≤ L.length) (hm0 : Pl.mayO (3, x, a, 0, 0, ⟨#[]⟩)) (hm1 : Pl.mayO (3, y, b, 0, 0, ⟨#[]⟩)) (hb : b < 0) :
    Calls Tryz.prog 20 #[.pointer (some ⟨p, 0, none⟩), .int .i64 31] W fun e w' => e = .returned (.int .i64 (Pl.wholeR L 2 (a / 2 ^ (if 63 < -b then 63 else -b).toNat)).1) ∧ Stk W0 Pr p (Pl.wholeR L 2 (a / 2 ^ (if 63 < -b then 63 else -b).toNat)).2 w' ∧ FrS W0 Pr W w' := by
  have ia := (Pl.mayO_num hm0 (.inl rfl)).choose_spec.2.1 rfl
  have ib := (Pl.mayO_num hm1 (.inl rfl)).choose_spec.2.1 rfl
  unfold Pl.inInt at ia ib
  simp only at ia ib
  obtain ⟨s, hs⟩ : ∃ s, s = (if 63 < -b then 63 else -b) := ⟨_, rfl⟩
  have hs' : (if 63 < -b then 63 else -b) = s := hs.symm
  have bs : 0 ≤ s ∧ s ≤ 63 := by rw [hs]; split <;> omega
  rw [← hs]
  have WX := Lib.hid (fun Z (hS : Stk W0 Pr p L Z) => whole_any W0 Pr p L Z hlen hS 2 h2 (a / 2 ^ s.toNat))
  obtain ⟨c, hc⟩ : ∃ c, c = a / 2 ^ s.toNat := ⟨_, rfl⟩
  have hc' : a / 2 ^ s.toNat = c := hc.symm
  rw [← hc] at WX
  rw [← hc]
  clear hs hc
  obtain ⟨bs0, bs1⟩ := bs
  have HS := Lib.hid (h.grown ((Grown.refl W).alloc #[.int .i64 8, .int .i64 8] 3))
  have TK := Lib.hid (take2_ok W0 Pr p L _ hlen HS.out _ _ ho1 ho0 (Pl.mayO_kind hm0) (Pl.mayO_kind hm1) W.heap.size 2 (Nat.le_refl _) 8 8 (by simp [go_sem]) (by simp [go_sem]) (show Pl.fits 8 3 = true by decide) (show Pl.fits 8 3 = true by decide))
  clear h hlen ho1 ho0 h2 hm0 hm1
  go_enter Tryz.func20, Tryz.ntmps20
  go_wp2_with fail
  refine TK.out.mono ?_
  rintro e w2 ⟨g2, g, B2, rfl⟩
  have G2 := Lib.hid (grown_trans ((Grown.refl W).alloc #[.int .i64 8, .int .i64 8] 3) g2)
  have HS2 := Lib.hid (HS.out.grown g2)
  obtain ⟨c0, c1, c2, c3, c4, c5, d0, d1, d2, d3, d4, d5⟩ := B2.at12
  clear TK g2 HS B2
  have X1 := Lib.hid (AB.one G2.out HS2.out (3, x, a, 0, 0, ⟨#[]⟩) (3, y, b, 0, 0, ⟨#[]⟩) #[.int .i64 3, .bool x, .int .i64 a, .int .i64 0, .int .i64 0, .string ⟨#[]⟩] #[.int .i64 3, .bool y, .int .i64 b, .int .i64 0, .int .i64 0, .string ⟨#[]⟩] rfl rfl)
  have X2 := Lib.hid (AB.two G2.out HS2.out (3, x, a, 0, 0, ⟨#[]⟩) (3, y, b, 0, 0, ⟨#[]⟩) #[.int .i64 3, .bool x, .int .i64 a, .int .i64 0, .int .i64 0, .string ⟨#[]⟩] #[.int .i64 3, .bool y, .int .i64 b, .int .i64 0, .int .i64 0, .string ⟨#[]⟩] rfl rfl)
  clear G2 HS2
  go_upto_region 16 with fail
  go_cut [8, 9] (fun sa sb wx => ∃ pa pb, sa = .pointer (some ⟨pa, 0, none⟩) ∧ sb = .pointer (some ⟨pb, 0, none⟩) ∧ Hid (AB W0 Pr p L W (3, x, a, 0, 0, ⟨#[]⟩) (3, y, b, 0, 0, ⟨#[]⟩) pa pb wx))
  case first =>
    have hne := World.new_ne w2 _ c0
    go_region_held3 (fun Z => Z.cell? ⟨g, 0, none⟩ = some (.int .i64 3) ∧ Z.cell? ⟨g, 1, none⟩ = some (.bool x) ∧ Z.cell? ⟨g, 2, none⟩ = some (.int .i64 a) ∧ Z.cell? ⟨g, 3, none⟩ = some (.int .i64 0) ∧ Z.cell? ⟨g, 4, none⟩ = some (.int .i64 0) ∧ Z.cell? ⟨g, 5, none⟩ = some (.string ⟨#[]⟩) ∧ Z.cell? ⟨g, 6, none⟩ = some (.int .i64 3) ∧ Z.cell? ⟨g, 7, none⟩ = some (.bool y) ∧ Z.cell? ⟨g, 8, none⟩ = some (.int .i64 b) ∧ Z.cell? ⟨g, 9, none⟩ = some (.int .i64 0) ∧ Z.cell? ⟨g, 10, none⟩ = some (.int .i64 0) ∧ Z.cell? ⟨g, 11, none⟩ = some (.string ⟨#[]⟩)) (go_keep) (fail)
    all_goals
      go_wp2_with fail
      go_meet
      case rel => first | exact ⟨_, _, rfl, rfl, X1⟩ | exact ⟨_, _, rfl, rfl, X2⟩
  case rest =>
    obtain ⟨pa, pb, rfl, rfl, HAB⟩ := hcut
    clear c0 c1 c2 c3 c4 c5 d0 d1 d2 d3 d4 d5 X1 X2
    obtain ⟨c0, c1, c2, c3, c4, c5⟩ := HAB.out.1.cells0
    obtain ⟨d0, d1, d2, d3, d4, d5⟩ := HAB.out.2.1.cells0
    go_wp2_with fail
    refine (WX.out _ HAB.out.2.2.2).mono ?_
    rintro e w4 ⟨rfl, hs, hf⟩
    have H4 := Lib.hid (And.intro hs ((Fr.of_grown _ HAB.out.2.2.1).trans hf))
    clear hs hf WX
    go_wp2_with fail
    go_ret
    exact ⟨rfl, H4.out⟩
theorem two_31_far (a b : Int) (x y : Bool) (ho1 : L.reverse[0]? = some (3, y, b, 0, 0, ⟨#[]⟩)) (ho0 : L.reverse[1]? = some (3, x, a, 0, 0, ⟨#[]⟩)) (h2 : 2 ≤ L.length) (hm0 : Pl.mayO (3, x, a, 0, 0, ⟨#[]⟩)) (hm1 : Pl.mayO (3, y, b, 0, 0, ⟨#[]⟩)) (hb : 31 < b) (ha : a ≠ 0) :
    Calls Tryz.prog 20 #[.pointer (some ⟨p, 0, none⟩), .int .i64 31] W fun e w' => e = .returned (.int .i64 (((2, L) : Int × List Pl.Ob)).1) ∧ Stk W0 Pr p (((2, L) : Int × List Pl.Ob)).2 w' ∧ FrS W0 Pr W w' := by
  have ia := (Pl.mayO_num hm0 (.inl rfl)).choose_spec.2.1 rfl
  have ib := (Pl.mayO_num hm1 (.inl rfl)).choose_spec.2.1 rfl
  unfold Pl.inInt at ia ib
  simp only at ia ib
  have ha0 : (a == 0) = false := beq_eq_false_iff_ne.2 ha
  have hb2 : (b < 0) = False := eq_false (by omega)
  clear ha
  have HS := Lib.hid (h.grown ((Grown.refl W).alloc #[.int .i64 8, .int .i64 8] 3))
  have TK := Lib.hid (take2_ok W0 Pr p L _ hlen HS.out _ _ ho1 ho0 (Pl.mayO_kind hm0) (Pl.mayO_kind hm1) W.heap.size 2 (Nat.le_refl _) 8 8 (by simp [go_sem]) (by simp [go_sem]) (show Pl.fits 8 3 = true by decide) (show Pl.fits 8 3 = true by decide))
  clear h hlen ho1 ho0 h2 hm0 hm1
  go_enter Tryz.func20, Tryz.ntmps20
  go_wp2_with fail
  refine TK.out.mono ?_
  rintro e w2 ⟨g2, g, B2, rfl⟩
  have G2 := Lib.hid (grown_trans ((Grown.refl W).alloc #[.int .i64 8, .int .i64 8] 3) g2)
  have HS2 := Lib.hid (HS.out.grown g2)
  obtain ⟨c0, c1, c2, c3, c4, c5, d0, d1, d2, d3, d4, d5⟩ := B2.at12
  clear TK g2 HS B2
  have X1 := Lib.hid (AB.one G2.out HS2.out (3, x, a, 0, 0, ⟨#[]⟩) (3, y, b, 0, 0, ⟨#[]⟩) #[.int .i64 3, .bool x, .int .i64 a, .int .i64 0, .int .i64 0, .string ⟨#[]⟩] #[.int .i64 3, .bool y, .int .i64 b, .int .i64 0, .int .i64 0, .string ⟨#[]⟩] rfl rfl)
  have X2 := Lib.hid (AB.two G2.out HS2.out (3, x, a, 0, 0, ⟨#[]⟩) (3, y, b, 0, 0, ⟨#[]⟩) #[.int .i64 3, .bool x, .int .i64 a, .int .i64 0, .int .i64 0, .string ⟨#[]⟩] #[.int .i64 3, .bool y, .int .i64 b, .int .i64 0, .int .i64 0, .string ⟨#[]⟩] rfl rfl)
  clear G2 HS2
  go_upto_region 16 with fail
  go_cut [8, 9] (fun sa sb wx => ∃ pa pb, sa = .pointer (some ⟨pa, 0, none⟩) ∧ sb = .pointer (some ⟨pb, 0, none⟩) ∧ Hid (AB W0 Pr p L W (3, x, a, 0, 0, ⟨#[]⟩) (3, y, b, 0, 0, ⟨#[]⟩) pa pb wx))
  case first =>
    have hne := World.new_ne w2 _ c0
    go_region_held3 (fun Z => Z.cell? ⟨g, 0, none⟩ = some (.int .i64 3) ∧ Z.cell? ⟨g, 1, none⟩ = some (.bool x) ∧ Z.cell? ⟨g, 2, none⟩ = some (.int .i64 a) ∧ Z.cell? ⟨g, 3, none⟩ = some (.int .i64 0) ∧ Z.cell? ⟨g, 4, none⟩ = some (.int .i64 0) ∧ Z.cell? ⟨g, 5, none⟩ = some (.string ⟨#[]⟩) ∧ Z.cell? ⟨g, 6, none⟩ = some (.int .i64 3) ∧ Z.cell? ⟨g, 7, none⟩ = some (.bool y) ∧ Z.cell? ⟨g, 8, none⟩ = some (.int .i64 b) ∧ Z.cell? ⟨g, 9, none⟩ = some (.int .i64 0) ∧ Z.cell? ⟨g, 10, none⟩ = some (.int .i64 0) ∧ Z.cell? ⟨g, 11, none⟩ = some (.string ⟨#[]⟩)) (go_keep) (fail)
    all_goals
      go_wp2_with fail
      go_meet
      case rel => first | exact ⟨_, _, rfl, rfl, X1⟩ | exact ⟨_, _, rfl, rfl, X2⟩
  case rest =>
    obtain ⟨pa, pb, rfl, rfl, HAB⟩ := hcut
    clear c0 c1 c2 c3 c4 c5 d0 d1 d2 d3 d4 d5 X1 X2
    obtain ⟨c0, c1, c2, c3, c4, c5⟩ := HAB.out.1.cells0
    obtain ⟨d0, d1, d2, d3, d4, d5⟩ := HAB.out.2.1.cells0
    go_wp2_with fail
    go_ret
    exact ⟨rfl, HAB.out.2.2.2, Fr.of_grown _ HAB.out.2.2.1⟩
theorem two_31_up (a b : Int) (x y : Bool) (ho1 : L.reverse[0]? = some (3, y, b, 0, 0, ⟨#[]⟩)) (ho0 : L.reverse[1]? = some (3, x, a, 0, 0, ⟨#[]⟩)) (h2 : 2 ≤ L.length) (hm0 : Pl.mayO (3, x, a, 0, 0, ⟨#[]⟩)) (hm1 : Pl.mayO (3, y, b, 0, 0, ⟨#[]⟩)) (hb : 0 ≤ b ∧ b ≤ 31) :
    Calls Tryz.prog 20 #[.pointer (some ⟨p, 0, none⟩), .int .i64 31] W fun e w' => e = .returned (.int .i64 (Pl.wholeR L 2 (a * 2 ^ b.toNat)).1) ∧ Stk W0 Pr p (Pl.wholeR L 2 (a * 2 ^ b.toNat)).2 w' ∧ FrS W0 Pr W w' := by
  have ia := (Pl.mayO_num hm0 (.inl rfl)).choose_spec.2.1 rfl
  have ib := (Pl.mayO_num hm1 (.inl rfl)).choose_spec.2.1 rfl
  unfold Pl.inInt at ia ib
  simp only at ia ib
  have hb2 : (b < 0) = False := eq_false (by omega)
  have hb3 : (31 < b) = False := eq_false (by omega)
  have hmin : (if 31 < b then 31 else b) = b := if_neg (by omega)
  obtain ⟨hb0, hb1⟩ := hb
  have hp : (2 : Int) ^ b.toNat ≤ 2147483648 := by
    have h1 : b.toNat ≤ 31 := by omega
    have := Nat.pow_le_pow_right (n := 2) (by decide) h1
    have h3 : (2 : Nat) ^ 31 = 2147483648 := by decide
    rw [h3] at this
    rw [show (2 : Int) ^ b.toNat = ((2 ^ b.toNat : Nat) : Int) from (Int.natCast_pow 2 b.toNat).symm]
    generalize (2 : Nat) ^ b.toNat = P at this
    omega
  have hp0 : (0 : Int) < 2 ^ b.toNat := Int.pow_pos (by decide)
  have bc : -4611686016279904256 ≤ a * 2 ^ b.toNat ∧ a * 2 ^ b.toNat ≤ 4611686016279904256 := by
    generalize (2 : Int) ^ b.toNat = P at hp hp0
    have h1 := Int.mul_le_mul_of_nonneg_right (show a ≤ 2147483647 by omega) (show 0 ≤ P by omega)
    have h2 := Int.mul_le_mul_of_nonneg_right (show -2147483647 ≤ a by omega) (show 0 ≤ P by omega)
    omega
  have WX := Lib.hid (fun Z (hS : Stk W0 Pr p L Z) => whole_any W0 Pr p L Z hlen hS 2 h2 (a * 2 ^ b.toNat))
  obtain ⟨c, hc⟩ : ∃ c, c = a * 2 ^ b.toNat := ⟨_, rfl⟩
  have hc' : a * 2 ^ b.toNat = c := hc.symm
  rw [← hc] at WX bc
  rw [← hc]
  clear hc hp hp0
  have HS := Lib.hid (h.grown ((Grown.refl W).alloc #[.int .i64 8, .int .i64 8] 3))
  have TK := Lib.hid (take2_ok W0 Pr p L _ hlen HS.out _ _ ho1 ho0 (Pl.mayO_kind hm0) (Pl.mayO_kind hm1) W.heap.size 2 (Nat.le_refl _) 8 8 (by simp [go_sem]) (by simp [go_sem]) (show Pl.fits 8 3 = true by decide) (show Pl.fits 8 3 = true by decide))
  clear h hlen ho1 ho0 h2 hm0 hm1
  go_enter Tryz.func20, Tryz.ntmps20
  go_wp2_with fail
  refine TK.out.mono ?_
  rintro e w2 ⟨g2, g, B2, rfl⟩
  have G2 := Lib.hid (grown_trans ((Grown.refl W).alloc #[.int .i64 8, .int .i64 8] 3) g2)
  have HS2 := Lib.hid (HS.out.grown g2)
  obtain ⟨c0, c1, c2, c3, c4, c5, d0, d1, d2, d3, d4, d5⟩ := B2.at12
  clear TK g2 HS B2
  have X1 := Lib.hid (AB.one G2.out HS2.out (3, x, a, 0, 0, ⟨#[]⟩) (3, y, b, 0, 0, ⟨#[]⟩) #[.int .i64 3, .bool x, .int .i64 a, .int .i64 0, .int .i64 0, .string ⟨#[]⟩] #[.int .i64 3, .bool y, .int .i64 b, .int .i64 0, .int .i64 0, .string ⟨#[]⟩] rfl rfl)
  have X2 := Lib.hid (AB.two G2.out HS2.out (3, x, a, 0, 0, ⟨#[]⟩) (3, y, b, 0, 0, ⟨#[]⟩) #[.int .i64 3, .bool x, .int .i64 a, .int .i64 0, .int .i64 0, .string ⟨#[]⟩] #[.int .i64 3, .bool y, .int .i64 b, .int .i64 0, .int .i64 0, .string ⟨#[]⟩] rfl rfl)
  clear G2 HS2
  go_upto_region 16 with fail
  go_cut [8, 9] (fun sa sb wx => ∃ pa pb, sa = .pointer (some ⟨pa, 0, none⟩) ∧ sb = .pointer (some ⟨pb, 0, none⟩) ∧ Hid (AB W0 Pr p L W (3, x, a, 0, 0, ⟨#[]⟩) (3, y, b, 0, 0, ⟨#[]⟩) pa pb wx))
  case first =>
    have hne := World.new_ne w2 _ c0
    go_region_held3 (fun Z => Z.cell? ⟨g, 0, none⟩ = some (.int .i64 3) ∧ Z.cell? ⟨g, 1, none⟩ = some (.bool x) ∧ Z.cell? ⟨g, 2, none⟩ = some (.int .i64 a) ∧ Z.cell? ⟨g, 3, none⟩ = some (.int .i64 0) ∧ Z.cell? ⟨g, 4, none⟩ = some (.int .i64 0) ∧ Z.cell? ⟨g, 5, none⟩ = some (.string ⟨#[]⟩) ∧ Z.cell? ⟨g, 6, none⟩ = some (.int .i64 3) ∧ Z.cell? ⟨g, 7, none⟩ = some (.bool y) ∧ Z.cell? ⟨g, 8, none⟩ = some (.int .i64 b) ∧ Z.cell? ⟨g, 9, none⟩ = some (.int .i64 0) ∧ Z.cell? ⟨g, 10, none⟩ = some (.int .i64 0) ∧ Z.cell? ⟨g, 11, none⟩ = some (.string ⟨#[]⟩)) (go_keep) (fail)
    all_goals
      go_wp2_with fail
      go_meet
      case rel => first | exact ⟨_, _, rfl, rfl, X1⟩ | exact ⟨_, _, rfl, rfl, X2⟩
  case rest =>
    obtain ⟨pa, pb, rfl, rfl, HAB⟩ := hcut
    clear c0 c1 c2 c3 c4 c5 d0 d1 d2 d3 d4 d5 X1 X2
    obtain ⟨c0, c1, c2, c3, c4, c5⟩ := HAB.out.1.cells0
    obtain ⟨d0, d1, d2, d3, d4, d5⟩ := HAB.out.2.1.cells0
    go_wp2_with fail
    refine (WX.out _ HAB.out.2.2.2).mono ?_
    rintro e w4 ⟨rfl, hs, hf⟩
    have H4 := Lib.hid (And.intro hs ((Fr.of_grown _ HAB.out.2.2.1).trans hf))
    clear hs hf WX
    go_wp2_with fail
    go_ret
    exact ⟨rfl, H4.out⟩
theorem two_31_none (b : Int) (x y : Bool) (ho1 : L.reverse[0]? = some (3, y, b, 0, 0, ⟨#[]⟩)) (ho0 : L.reverse[1]? = some (3, x, 0, 0, 0, ⟨#[]⟩)) (h2 : 2 ≤ L.length) (hm0 : Pl.mayO (3, x, 0, 0, 0, ⟨#[]⟩)) (hm1 : Pl.mayO (3, y, b, 0, 0, ⟨#[]⟩)) (hb : 31 < b) :
    Calls Tryz.prog 20 #[.pointer (some ⟨p, 0, none⟩), .int .i64 31] W fun e w' => e = .returned (.int .i64 (Pl.wholeR L 2 0).1) ∧ Stk W0 Pr p (Pl.wholeR L 2 0).2 w' ∧ FrS W0 Pr W w' := by
  have hb2 : (b < 0) = False := eq_false (by omega)
  have hmin : (if 31 < b then 31 else b) = 31 := if_pos hb
  have WX := Lib.hid (fun Z (hS : Stk W0 Pr p L Z) => whole_any W0 Pr p L Z hlen hS 2 h2 0)
  have HS := Lib.hid (h.grown ((Grown.refl W).alloc #[.int .i64 8, .int .i64 8] 3))
  have TK := Lib.hid (take2_ok W0 Pr p L _ hlen HS.out _ _ ho1 ho0 (Pl.mayO_kind hm0) (Pl.mayO_kind hm1) W.heap.size 2 (Nat.le_refl _) 8 8 (by simp [go_sem]) (by simp [go_sem]) (show Pl.fits 8 3 = true by decide) (show Pl.fits 8 3 = true by decide))
  clear h hlen ho1 ho0 h2 hm0 hm1
  go_enter Tryz.func20, Tryz.ntmps20
  go_wp2_with fail
  refine TK.out.mono ?_
  rintro e w2 ⟨g2, g, B2, rfl⟩
  have G2 := Lib.hid (grown_trans ((Grown.refl W).alloc #[.int .i64 8, .int .i64 8] 3) g2)
  have HS2 := Lib.hid (HS.out.grown g2)
  obtain ⟨c0, c1, c2, c3, c4, c5, d0, d1, d2, d3, d4, d5⟩ := B2.at12
  clear TK g2 HS B2
  have X1 := Lib.hid (AB.one G2.out HS2.out (3, x, 0, 0, 0, ⟨#[]⟩) (3, y, b, 0, 0, ⟨#[]⟩) #[.int .i64 3, .bool x, .int .i64 0, .int .i64 0, .int .i64 0, .string ⟨#[]⟩] #[.int .i64 3, .bool y, .int .i64 b, .int .i64 0, .int .i64 0, .string ⟨#[]⟩] rfl rfl)
  have X2 := Lib.hid (AB.two G2.out HS2.out (3, x, 0, 0, 0, ⟨#[]⟩) (3, y, b, 0, 0, ⟨#[]⟩) #[.int .i64 3, .bool x, .int .i64 0, .int .i64 0, .int .i64 0, .string ⟨#[]⟩] #[.int .i64 3, .bool y, .int .i64 b, .int .i64 0, .int .i64 0, .string ⟨#[]⟩] rfl rfl)
  clear G2 HS2
  go_upto_region 16 with fail
  go_cut [8, 9] (fun sa sb wx => ∃ pa pb, sa = .pointer (some ⟨pa, 0, none⟩) ∧ sb = .pointer (some ⟨pb, 0, none⟩) ∧ Hid (AB W0 Pr p L W (3, x, 0, 0, 0, ⟨#[]⟩) (3, y, b, 0, 0, ⟨#[]⟩) pa pb wx))
  case first =>
    have hne := World.new_ne w2 _ c0
    go_region_held3 (fun Z => Z.cell? ⟨g, 0, none⟩ = some (.int .i64 3) ∧ Z.cell? ⟨g, 1, none⟩ = some (.bool x) ∧ Z.cell? ⟨g, 2, none⟩ = some (.int .i64 0) ∧ Z.cell? ⟨g, 3, none⟩ = some (.int .i64 0) ∧ Z.cell? ⟨g, 4, none⟩ = some (.int .i64 0) ∧ Z.cell? ⟨g, 5, none⟩ = some (.string ⟨#[]⟩) ∧ Z.cell? ⟨g, 6, none⟩ = some (.int .i64 3) ∧ Z.cell? ⟨g, 7, none⟩ = some (.bool y) ∧ Z.cell? ⟨g, 8, none⟩ = some (.int .i64 b) ∧ Z.cell? ⟨g, 9, none⟩ = some (.int .i64 0) ∧ Z.cell? ⟨g, 10, none⟩ = some (.int .i64 0) ∧ Z.cell? ⟨g, 11, none⟩ = some (.string ⟨#[]⟩)) (go_keep) (fail)
    all_goals
      go_wp2_with fail
      go_meet
      case rel => first | exact ⟨_, _, rfl, rfl, X1⟩ | exact ⟨_, _, rfl, rfl, X2⟩
  case rest =>
    obtain ⟨pa, pb, rfl, rfl, HAB⟩ := hcut
    clear c0 c1 c2 c3 c4 c5 d0 d1 d2 d3 d4 d5 X1 X2
    obtain ⟨c0, c1, c2, c3, c4, c5⟩ := HAB.out.1.cells0
    obtain ⟨d0, d1, d2, d3, d4, d5⟩ := HAB.out.2.1.cells0
    go_wp2_with fail
    refine (WX.out _ HAB.out.2.2.2).mono ?_
    rintro e w4 ⟨rfl, hs, hf⟩
    have H4 := Lib.hid (And.intro hs ((Fr.of_grown _ HAB.out.2.2.1).trans hf))
    clear hs hf WX
    go_wp2_with fail
    go_ret
    exact ⟨rfl, H4.out⟩
end
end Go.Proofs.YtfmmomdmemcbbaaGreat
