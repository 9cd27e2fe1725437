/- The reference's operators of one number: those of fixes, roo -/
import Derived.Test.YtfmmomdmemcbbaaGreatZ6
import Derived.Test.YtfmmomdmemcbbaaGreatZ2
set_option maxHeartbeats 4000000
set_option maxRecDepth 100000
namespace Go.Proofs.YtfmmomdmemcbbaaGreat
set_option linter.unusedVariables false
open Go.RowKit
section
variable (base p : Nat) (L : List Pl.Ob) (W : World) (hlen : L.length ≤ 200) (h : RS base p L W) (hb : base ≤ W.heap.size)
include hlen h hb
theorem rone_fixes (NM : ByteArray) (n : Int) (a : Int) (x : Bool) (J : Nat) (hn : L.length = J + 1) (h0 : L[J + 0]? = some (4, x, a, 0, 0, ⟨#[]⟩)) (hN : (n = 19 ∧ NM = ⟨#[99, 101, 105, 108, 105, 110, 103]⟩) ∨ (n = 20 ∧ NM = ⟨#[102, 108, 111, 111, 114]⟩) ∨ (n = 21 ∧ NM = ⟨#[114, 111, 117, 110, 100]⟩) ∨ (n = 22 ∧ NM = ⟨#[116, 114, 117, 110, 99, 97, 116, 101]⟩)) :
    Calls Tryz.prog 65 #[.pointer (some ⟨p, 0, none⟩), .string NM] W fun e w' => RPost base p W (Pl.fixedR L 1 (Pl.f1 n a) true) e w' := by
  have Xceiling := Lib.hid (fun Z => rceil3_any a Z)
  have Xfloor := Lib.hid (fun Z => rfloor3_any a Z)
  have Xround := Lib.hid (fun Z => rround3_any a Z)
  have Xtruncate := Lib.hid (fun Z => rtrunc3_any a Z)
  have CG := Lib.hid (fun Z (hZ : RS base p L Z) (hbZ : base ≤ Z.heap.size) r => rgivefix_any base p L Z (by omega) hZ hbZ 1 (by omega) r true)
  have HS := Lib.hid h
  have HB := Lib.hid hb
  have TK := Lib.hid (rtake1_ok base p L (W.alloc (.cells #[.int .i64 101] 3)) (by omega) (h.fresh (Fr.alloc _ _ _)) (4, x, a, 0, 0, ⟨#[]⟩) J hn h0 W.heap.size 1 (Nat.le_refl _) 101 (.inr (.inl rfl)) (by simp [go_sem]) (by rfl))
  clear hlen h hn h0 hb
  rcases hN with ⟨rfl, rfl⟩ | ⟨rfl, rfl⟩ | ⟨rfl, rfl⟩ | ⟨rfl, rfl⟩
  all_goals
    go_enter Tryz.func65, Tryz.ntmps65
    go_wp2_with fail
    refine TK.out.mono ?_
    rintro e w2 ⟨f2, g, cap, hgp, hl, hcap, rfl⟩
    have F2 := Lib.hid ((Fr.alloc (fun _ => False) W (.cells #[.int .i64 101] 3)).trans f2)
    have HL := Lib.hid (And.intro hgp hl)
    have ecap : (1 : Int) ≤ (cap : Int) := by omega
    have c0 : w2.cell? ⟨g, J * 6, none⟩ = some (.int .i64 4) := hl.2 0 _ rfl
    have c1 : w2.cell? ⟨g, J * 6 + 1, none⟩ = some (.bool x) := hl.2 1 _ rfl
    have c2 : w2.cell? ⟨g, J * 6 + 2, none⟩ = some (.int .i64 a) := hl.2 2 _ rfl
    have c3 : w2.cell? ⟨g, J * 6 + 3, none⟩ = some (.int .i64 0) := hl.2 3 _ rfl
    have c4 : w2.cell? ⟨g, J * 6 + 4, none⟩ = some (.int .i64 0) := hl.2 4 _ rfl
    have c5 : w2.cell? ⟨g, J * 6 + 5, none⟩ = some (.string ⟨#[]⟩) := hl.2 5 _ rfl
    clear TK f2 hl hgp hcap
    have X1 := Lib.hid (And.intro (Blk.new (W := w2) (Z := w2) #[.int .i64 4, .bool x, .int .i64 a, .int .i64 0, .int .i64 0, .string ⟨#[]⟩] 25 (Nat.le_refl _)) (Fr.alloc (fun _ => False) w2 (.cells #[.int .i64 4, .bool x, .int .i64 a, .int .i64 0, .int .i64 0, .string ⟨#[]⟩] 25)))
    go_upto_region 4 with fail
    go_cut [7] (fun sa wx => ∃ pa, sa = .pointer (some ⟨pa, 0, none⟩) ∧ Hid (Blk w2 pa [.int .i64 4, .bool x, .int .i64 a, .int .i64 0, .int .i64 0, .string ⟨#[]⟩] wx ∧ Fr (fun _ => False) w2 wx))
    case first =>
      go_wp2_with fail
      go_meet
      case rel => exact ⟨_, rfl, X1⟩
    case rest =>
      obtain ⟨pa, rfl, HAB⟩ := hcut
      rename World => wa
      clear X1 c0 c1 c2 c3 c4 c5
      obtain ⟨a0, a1, a2, a3, a4, a5⟩ := HAB.out.1.at6
      have fa := HAB.out.1.2.2.2
      have FZ := Lib.hid (F2.out.trans HAB.out.2)
      clear HAB F2 HL fa
      go_wp2_with fail
      refine (Xtruncate.out _).mono ?_
      rintro e w5 ⟨rfl, rfl⟩
      go_wp2_with fail
      try
        first
          | refine (Xceiling.out _).mono ?_
          | refine (Xfloor.out _).mono ?_
          | refine (Xround.out _).mono ?_
        rintro e w6 ⟨rfl, rfl⟩
        go_wp2_with fail
      clear Xceiling Xfloor Xround Xtruncate
      refine (CG.out _ (HS.out.fresh (FZ.out)) (Nat.le_trans HB.out (FZ.out).2.2.1) _).mono ?_
      rintro e w8 ⟨rfl, hs, hf⟩
      have H8 := Lib.hid (And.intro hs ((Fr.weaken (FZ.out) (fun _ f => f.elim)).trans hf))
      clear hs hf CG
      go_wp2_with fail
      go_ret
      exact ⟨rfl, fun _ => H8.out.1, H8.out.2⟩
theorem rone_num (NM : ByteArray) (k0 : Int) (q0 : k0 = 3 ∨ k0 = 4) (a : Int) (x : Bool) (J : Nat) (hn : L.length = J + 1) (h0 : L[J + 0]? = some (k0, x, a, 0, 0, ⟨#[]⟩)) (hm0 : Pl.mayO (k0, x, a, 0, 0, ⟨#[]⟩)) (hN : NM = ⟨#[115, 113, 114, 116]⟩ ∨ NM = ⟨#[115, 105, 110]⟩ ∨ NM = ⟨#[99, 111, 115]⟩) (u : Int) (hA : Pl.numv (k0, x, a, 0, 0, ⟨#[]⟩) = (u, false)) :
    Calls Tryz.prog 65 #[.pointer (some ⟨p, 0, none⟩), .string NM] W fun e w' => RPost base p W (((2, L) : Int × List Pl.Ob)) e w' := by
  have NA : Hid (∀ Z, Calls Tryz.prog 90 #[.agg #[.int .i64 k0, .bool x, .int .i64 a, .int .i64 0, .int .i64 0, .string ⟨#[]⟩]] Z fun e w' => e = .returned (.tuple #[.int .i64 u, .bool false]) ∧ Grown Z w') := Lib.hid (fun Z => by have := rnum_obj (k0, x, a, 0, 0, ⟨#[]⟩) hm0 q0 Z; rw [hA] at this; exact this)
  have hk3 : (k0 == 3) = true ∨ (k0 == 3) = false := by cases (k0 == 3) <;> simp
  have HS := Lib.hid h
  have HB := Lib.hid hb
  have TK := Lib.hid (rtake1_ok base p L (W.alloc (.cells #[.int .i64 101] 3)) (by omega) (h.fresh (Fr.alloc _ _ _)) (k0, x, a, 0, 0, ⟨#[]⟩) J hn h0 W.heap.size 1 (Nat.le_refl _) 101 (.inr (.inl rfl)) (by simp [go_sem]) (by rcases q0 with rfl | rfl <;> rfl))
  clear hlen h hn h0 hb q0 hm0 hA
  rcases hN with rfl | rfl | rfl <;> rcases hk3 with e0 | e0
  all_goals
    go_enter Tryz.func65, Tryz.ntmps65
    go_wp2_with fail
    refine TK.out.mono ?_
    rintro e w2 ⟨f2, g, cap, hgp, hl, hcap, rfl⟩
    have F2 := Lib.hid ((Fr.alloc (fun _ => False) W (.cells #[.int .i64 101] 3)).trans f2)
    have HL := Lib.hid (And.intro hgp hl)
    have ecap : (1 : Int) ≤ (cap : Int) := by omega
    have c0 : w2.cell? ⟨g, J * 6, none⟩ = some (.int .i64 k0) := hl.2 0 _ rfl
    have c1 : w2.cell? ⟨g, J * 6 + 1, none⟩ = some (.bool x) := hl.2 1 _ rfl
    have c2 : w2.cell? ⟨g, J * 6 + 2, none⟩ = some (.int .i64 a) := hl.2 2 _ rfl
    have c3 : w2.cell? ⟨g, J * 6 + 3, none⟩ = some (.int .i64 0) := hl.2 3 _ rfl
    have c4 : w2.cell? ⟨g, J * 6 + 4, none⟩ = some (.int .i64 0) := hl.2 4 _ rfl
    have c5 : w2.cell? ⟨g, J * 6 + 5, none⟩ = some (.string ⟨#[]⟩) := hl.2 5 _ rfl
    clear TK f2 hl hgp hcap
    have X1 := Lib.hid (And.intro (Blk.new (W := w2) (Z := w2) #[.int .i64 k0, .bool x, .int .i64 a, .int .i64 0, .int .i64 0, .string ⟨#[]⟩] 25 (Nat.le_refl _)) (Fr.alloc (fun _ => False) w2 (.cells #[.int .i64 k0, .bool x, .int .i64 a, .int .i64 0, .int .i64 0, .string ⟨#[]⟩] 25)))
    go_upto_region 4 with fail
    go_cut [7] (fun sa wx => ∃ pa, sa = .pointer (some ⟨pa, 0, none⟩) ∧ Hid (Blk w2 pa [.int .i64 k0, .bool x, .int .i64 a, .int .i64 0, .int .i64 0, .string ⟨#[]⟩] wx ∧ Fr (fun _ => False) w2 wx))
    case first =>
      go_wp2_with fail
      go_meet
      case rel => exact ⟨_, rfl, X1⟩
    case rest =>
      obtain ⟨pa, rfl, HAB⟩ := hcut
      rename World => wa
      clear X1 c0 c1 c2 c3 c4 c5
      obtain ⟨a0, a1, a2, a3, a4, a5⟩ := HAB.out.1.at6
      have fa := HAB.out.1.2.2.2
      have FZ := Lib.hid (F2.out.trans HAB.out.2)
      clear HAB F2 HL fa
      go_wp2_with fail
      refine (NA.out _).mono ?_
      rintro e w3 ⟨rfl, g3⟩
      have F3 := Lib.hid (FZ.out.trans (Fr.of_grown _ g3))
      clear g3 NA FZ a0 a1 a2 a3 a4 a5
      go_wp2_with fail
      go_ret
      exact ⟨rfl, fun q => absurd q (by simp), F3.out.weaken (fun _ f => f.elim)⟩
theorem rone_sin (k0 : Int) (q0 : k0 = 3 ∨ k0 = 4) (a : Int) (x : Bool) (J : Nat) (hn : L.length = J + 1) (h0 : L[J + 0]? = some (k0, x, a, 0, 0, ⟨#[]⟩)) (hm0 : Pl.mayO (k0, x, a, 0, 0, ⟨#[]⟩)) (u : Int) (hA : Pl.numv (k0, x, a, 0, 0, ⟨#[]⟩) = (u, true)) (fu : Pl.fx u) :
    Calls Tryz.prog 65 #[.pointer (some ⟨p, 0, none⟩), .string ⟨#[115, 105, 110]⟩] W fun e w' => RPost base p W (Pl.fixedR L 1 (Pl.sin u) true) e w' := by
  have NA : Hid (∀ Z, Calls Tryz.prog 90 #[.agg #[.int .i64 k0, .bool x, .int .i64 a, .int .i64 0, .int .i64 0, .string ⟨#[]⟩]] Z fun e w' => e = .returned (.tuple #[.int .i64 u, .bool true]) ∧ Grown Z w') := Lib.hid (fun Z => by have := rnum_obj (k0, x, a, 0, 0, ⟨#[]⟩) hm0 q0 Z; rw [hA] at this; exact this)
  have hk3 : (k0 == 3) = true ∨ (k0 == 3) = false := by cases (k0 == 3) <;> simp
  have FX := Lib.hid (fun Z => sin4_any u Z)
  have CG := Lib.hid (fun Z (hZ : RS base p L Z) (hbZ : base ≤ Z.heap.size) => rgivefix_any base p L Z (by omega) hZ hbZ 1 (by omega) (Pl.sin u) true)
  have HS := Lib.hid h
  have HB := Lib.hid hb
  have TK := Lib.hid (rtake1_ok base p L (W.alloc (.cells #[.int .i64 101] 3)) (by omega) (h.fresh (Fr.alloc _ _ _)) (k0, x, a, 0, 0, ⟨#[]⟩) J hn h0 W.heap.size 1 (Nat.le_refl _) 101 (.inr (.inl rfl)) (by simp [go_sem]) (by rcases q0 with rfl | rfl <;> rfl))
  clear hlen h hn h0 hb q0 hm0 hA fu
  rcases hk3 with e0 | e0
  all_goals
    go_enter Tryz.func65, Tryz.ntmps65
    go_wp2_with fail
    refine TK.out.mono ?_
    rintro e w2 ⟨f2, g, cap, hgp, hl, hcap, rfl⟩
    have F2 := Lib.hid ((Fr.alloc (fun _ => False) W (.cells #[.int .i64 101] 3)).trans f2)
    have HL := Lib.hid (And.intro hgp hl)
    have ecap : (1 : Int) ≤ (cap : Int) := by omega
    have c0 : w2.cell? ⟨g, J * 6, none⟩ = some (.int .i64 k0) := hl.2 0 _ rfl
    have c1 : w2.cell? ⟨g, J * 6 + 1, none⟩ = some (.bool x) := hl.2 1 _ rfl
    have c2 : w2.cell? ⟨g, J * 6 + 2, none⟩ = some (.int .i64 a) := hl.2 2 _ rfl
    have c3 : w2.cell? ⟨g, J * 6 + 3, none⟩ = some (.int .i64 0) := hl.2 3 _ rfl
    have c4 : w2.cell? ⟨g, J * 6 + 4, none⟩ = some (.int .i64 0) := hl.2 4 _ rfl
    have c5 : w2.cell? ⟨g, J * 6 + 5, none⟩ = some (.string ⟨#[]⟩) := hl.2 5 _ rfl
    clear TK f2 hl hgp hcap
    have X1 := Lib.hid (And.intro (Blk.new (W := w2) (Z := w2) #[.int .i64 k0, .bool x, .int .i64 a, .int .i64 0, .int .i64 0, .string ⟨#[]⟩] 25 (Nat.le_refl _)) (Fr.alloc (fun _ => False) w2 (.cells #[.int .i64 k0, .bool x, .int .i64 a, .int .i64 0, .int .i64 0, .string ⟨#[]⟩] 25)))
    go_upto_region 4 with fail
    go_cut [7] (fun sa wx => ∃ pa, sa = .pointer (some ⟨pa, 0, none⟩) ∧ Hid (Blk w2 pa [.int .i64 k0, .bool x, .int .i64 a, .int .i64 0, .int .i64 0, .string ⟨#[]⟩] wx ∧ Fr (fun _ => False) w2 wx))
    case first =>
      go_wp2_with fail
      go_meet
      case rel => exact ⟨_, rfl, X1⟩
    case rest =>
      obtain ⟨pa, rfl, HAB⟩ := hcut
      rename World => wa
      clear X1 c0 c1 c2 c3 c4 c5
      obtain ⟨a0, a1, a2, a3, a4, a5⟩ := HAB.out.1.at6
      have fa := HAB.out.1.2.2.2
      have FZ := Lib.hid (F2.out.trans HAB.out.2)
      clear HAB F2 HL fa
      go_wp2_with fail
      refine (NA.out _).mono ?_
      rintro e w3 ⟨rfl, g3⟩
      have F3 := Lib.hid (FZ.out.trans (Fr.of_grown _ g3))
      clear g3 NA FZ a0 a1 a2 a3 a4 a5
      go_wp2_with fail
      refine (FX.out _).mono ?_
      rintro e w5 ⟨rfl, g5⟩
      have F5 := Lib.hid (F3.out.trans (Fr.of_grown _ g5))
      clear g5 FX F3
      go_wp2_with fail
      refine (CG.out _ (HS.out.fresh (F5.out)) (Nat.le_trans HB.out (F5.out).2.2.1)).mono ?_
      rintro e w8 ⟨rfl, hs, hf⟩
      have H8 := Lib.hid (And.intro hs ((Fr.weaken (F5.out) (fun _ f => f.elim)).trans hf))
      clear hs hf CG
      go_wp2_with fail
      go_ret
      exact ⟨rfl, fun _ => H8.out.1, H8.out.2⟩
theorem rone_cos (k0 : Int) (q0 : k0 = 3 ∨ k0 = 4) (a : Int) (x : Bool) (J : Nat) (hn : L.length = J + 1) (h0 : L[J + 0]? = some (k0, x, a, 0, 0, ⟨#[]⟩)) (hm0 : Pl.mayO (k0, x, a, 0, 0, ⟨#[]⟩)) (u : Int) (hA : Pl.numv (k0, x, a, 0, 0, ⟨#[]⟩) = (u, true)) (fu : Pl.fx u) :
    Calls Tryz.prog 65 #[.pointer (some ⟨p, 0, none⟩), .string ⟨#[99, 111, 115]⟩] W fun e w' => RPost base p W (Pl.fixedR L 1 (Pl.cos u) true) e w' := by
  have NA : Hid (∀ Z, Calls Tryz.prog 90 #[.agg #[.int .i64 k0, .bool x, .int .i64 a, .int .i64 0, .int .i64 0, .string ⟨#[]⟩]] Z fun e w' => e = .returned (.tuple #[.int .i64 u, .bool true]) ∧ Grown Z w') := Lib.hid (fun Z => by have := rnum_obj (k0, x, a, 0, 0, ⟨#[]⟩) hm0 q0 Z; rw [hA] at this; exact this)
  have hk3 : (k0 == 3) = true ∨ (k0 == 3) = false := by cases (k0 == 3) <;> simp
  have FX := Lib.hid (fun Z => cos4_any u Z)
  have CG := Lib.hid (fun Z (hZ : RS base p L Z) (hbZ : base ≤ Z.heap.size) => rgivefix_any base p L Z (by omega) hZ hbZ 1 (by omega) (Pl.cos u) true)
  have HS := Lib.hid h
  have HB := Lib.hid hb
  have TK := Lib.hid (rtake1_ok base p L (W.alloc (.cells #[.int .i64 101] 3)) (by omega) (h.fresh (Fr.alloc _ _ _)) (k0, x, a, 0, 0, ⟨#[]⟩) J hn h0 W.heap.size 1 (Nat.le_refl _) 101 (.inr (.inl rfl)) (by simp [go_sem]) (by rcases q0 with rfl | rfl <;> rfl))
  clear hlen h hn h0 hb q0 hm0 hA fu
  rcases hk3 with e0 | e0
  all_goals
    go_enter Tryz.func65, Tryz.ntmps65
    go_wp2_with fail
    refine TK.out.mono ?_
    rintro e w2 ⟨f2, g, cap, hgp, hl, hcap, rfl⟩
    have F2 := Lib.hid ((Fr.alloc (fun _ => False) W (.cells #[.int .i64 101] 3)).trans f2)
    have HL := Lib.hid (And.intro hgp hl)
    have ecap : (1 : Int) ≤ (cap : Int) := by omega
    have c0 : w2.cell? ⟨g, J * 6, none⟩ = some (.int .i64 k0) := hl.2 0 _ rfl
    have c1 : w2.cell? ⟨g, J * 6 + 1, none⟩ = some (.bool x) := hl.2 1 _ rfl
    have c2 : w2.cell? ⟨g, J * 6 + 2, none⟩ = some (.int .i64 a) := hl.2 2 _ rfl
    have c3 : w2.cell? ⟨g, J * 6 + 3, none⟩ = some (.int .i64 0) := hl.2 3 _ rfl
    have c4 : w2.cell? ⟨g, J * 6 + 4, none⟩ = some (.int .i64 0) := hl.2 4 _ rfl
    have c5 : w2.cell? ⟨g, J * 6 + 5, none⟩ = some (.string ⟨#[]⟩) := hl.2 5 _ rfl
    clear TK f2 hl hgp hcap
    have X1 := Lib.hid (And.intro (Blk.new (W := w2) (Z := w2) #[.int .i64 k0, .bool x, .int .i64 a, .int .i64 0, .int .i64 0, .string ⟨#[]⟩] 25 (Nat.le_refl _)) (Fr.alloc (fun _ => False) w2 (.cells #[.int .i64 k0, .bool x, .int .i64 a, .int .i64 0, .int .i64 0, .string ⟨#[]⟩] 25)))
    go_upto_region 4 with fail
    go_cut [7] (fun sa wx => ∃ pa, sa = .pointer (some ⟨pa, 0, none⟩) ∧ Hid (Blk w2 pa [.int .i64 k0, .bool x, .int .i64 a, .int .i64 0, .int .i64 0, .string ⟨#[]⟩] wx ∧ Fr (fun _ => False) w2 wx))
    case first =>
      go_wp2_with fail
      go_meet
      case rel => exact ⟨_, rfl, X1⟩
    case rest =>
      obtain ⟨pa, rfl, HAB⟩ := hcut
      rename World => wa
      clear X1 c0 c1 c2 c3 c4 c5
      obtain ⟨a0, a1, a2, a3, a4, a5⟩ := HAB.out.1.at6
      have fa := HAB.out.1.2.2.2
      have FZ := Lib.hid (F2.out.trans HAB.out.2)
      clear HAB F2 HL fa
      go_wp2_with fail
      refine (NA.out _).mono ?_
      rintro e w3 ⟨rfl, g3⟩
      have F3 := Lib.hid (FZ.out.trans (Fr.of_grown _ g3))
      clear g3 NA FZ a0 a1 a2 a3 a4 a5
      go_wp2_with fail
      refine (FX.out _).mono ?_
      rintro e w5 ⟨rfl, g5⟩
      have F5 := Lib.hid (F3.out.trans (Fr.of_grown _ g5))
      clear g5 FX F3
      go_wp2_with fail
      refine (CG.out _ (HS.out.fresh (F5.out)) (Nat.le_trans HB.out (F5.out).2.2.1)).mono ?_
      rintro e w8 ⟨rfl, hs, hf⟩
      have H8 := Lib.hid (And.intro hs ((Fr.weaken (F5.out) (fun _ f => f.elim)).trans hf))
      clear hs hf CG
      go_wp2_with fail
      go_ret
      exact ⟨rfl, fun _ => H8.out.1, H8.out.2⟩
theorem rone_sqrt_no (k0 : Int) (q0 : k0 = 3 ∨ k0 = 4) (a : Int) (x : Bool) (J : Nat) (hn : L.length = J + 1) (h0 : L[J + 0]? = some (k0, x, a, 0, 0, ⟨#[]⟩)) (hm0 : Pl.mayO (k0, x, a, 0, 0, ⟨#[]⟩)) (u : Int) (hA : Pl.numv (k0, x, a, 0, 0, ⟨#[]⟩) = (u, true)) (fu : Pl.fx u) (hz : u < 0) :
    Calls Tryz.prog 65 #[.pointer (some ⟨p, 0, none⟩), .string ⟨#[115, 113, 114, 116]⟩] W fun e w' => RPost base p W (((2, L) : Int × List Pl.Ob)) e w' := by
  have NA : Hid (∀ Z, Calls Tryz.prog 90 #[.agg #[.int .i64 k0, .bool x, .int .i64 a, .int .i64 0, .int .i64 0, .string ⟨#[]⟩]] Z fun e w' => e = .returned (.tuple #[.int .i64 u, .bool true]) ∧ Grown Z w') := Lib.hid (fun Z => by have := rnum_obj (k0, x, a, 0, 0, ⟨#[]⟩) hm0 q0 Z; rw [hA] at this; exact this)
  have hk3 : (k0 == 3) = true ∨ (k0 == 3) = false := by cases (k0 == 3) <;> simp
  have HS := Lib.hid h
  have HB := Lib.hid hb
  have TK := Lib.hid (rtake1_ok base p L (W.alloc (.cells #[.int .i64 101] 3)) (by omega) (h.fresh (Fr.alloc _ _ _)) (k0, x, a, 0, 0, ⟨#[]⟩) J hn h0 W.heap.size 1 (Nat.le_refl _) 101 (.inr (.inl rfl)) (by simp [go_sem]) (by rcases q0 with rfl | rfl <;> rfl))
  clear hlen h hn h0 hb q0 hm0 hA fu
  rcases hk3 with e0 | e0
  all_goals
    go_enter Tryz.func65, Tryz.ntmps65
    go_wp2_with fail
    refine TK.out.mono ?_
    rintro e w2 ⟨f2, g, cap, hgp, hl, hcap, rfl⟩
    have F2 := Lib.hid ((Fr.alloc (fun _ => False) W (.cells #[.int .i64 101] 3)).trans f2)
    have HL := Lib.hid (And.intro hgp hl)
    have ecap : (1 : Int) ≤ (cap : Int) := by omega
    have c0 : w2.cell? ⟨g, J * 6, none⟩ = some (.int .i64 k0) := hl.2 0 _ rfl
    have c1 : w2.cell? ⟨g, J * 6 + 1, none⟩ = some (.bool x) := hl.2 1 _ rfl
    have c2 : w2.cell? ⟨g, J * 6 + 2, none⟩ = some (.int .i64 a) := hl.2 2 _ rfl
    have c3 : w2.cell? ⟨g, J * 6 + 3, none⟩ = some (.int .i64 0) := hl.2 3 _ rfl
    have c4 : w2.cell? ⟨g, J * 6 + 4, none⟩ = some (.int .i64 0) := hl.2 4 _ rfl
    have c5 : w2.cell? ⟨g, J * 6 + 5, none⟩ = some (.string ⟨#[]⟩) := hl.2 5 _ rfl
    clear TK f2 hl hgp hcap
    have X1 := Lib.hid (And.intro (Blk.new (W := w2) (Z := w2) #[.int .i64 k0, .bool x, .int .i64 a, .int .i64 0, .int .i64 0, .string ⟨#[]⟩] 25 (Nat.le_refl _)) (Fr.alloc (fun _ => False) w2 (.cells #[.int .i64 k0, .bool x, .int .i64 a, .int .i64 0, .int .i64 0, .string ⟨#[]⟩] 25)))
    go_upto_region 4 with fail
    go_cut [7] (fun sa wx => ∃ pa, sa = .pointer (some ⟨pa, 0, none⟩) ∧ Hid (Blk w2 pa [.int .i64 k0, .bool x, .int .i64 a, .int .i64 0, .int .i64 0, .string ⟨#[]⟩] wx ∧ Fr (fun _ => False) w2 wx))
    case first =>
      go_wp2_with fail
      go_meet
      case rel => exact ⟨_, rfl, X1⟩
    case rest =>
      obtain ⟨pa, rfl, HAB⟩ := hcut
      rename World => wa
      clear X1 c0 c1 c2 c3 c4 c5
      obtain ⟨a0, a1, a2, a3, a4, a5⟩ := HAB.out.1.at6
      have fa := HAB.out.1.2.2.2
      have FZ := Lib.hid (F2.out.trans HAB.out.2)
      clear HAB F2 HL fa
      go_wp2_with fail
      refine (NA.out _).mono ?_
      rintro e w3 ⟨rfl, g3⟩
      have F3 := Lib.hid (FZ.out.trans (Fr.of_grown _ g3))
      clear g3 NA FZ a0 a1 a2 a3 a4 a5
      go_wp2_with fail
      go_ret
      exact ⟨rfl, fun q => absurd q (by simp), F3.out.weaken (fun _ f => f.elim)⟩
theorem rone_sqrt (k0 : Int) (q0 : k0 = 3 ∨ k0 = 4) (a : Int) (x : Bool) (J : Nat) (hn : L.length = J + 1) (h0 : L[J + 0]? = some (k0, x, a, 0, 0, ⟨#[]⟩)) (hm0 : Pl.mayO (k0, x, a, 0, 0, ⟨#[]⟩)) (u : Int) (hA : Pl.numv (k0, x, a, 0, 0, ⟨#[]⟩) = (u, true)) (fu : Pl.fx u) (hz : 0 ≤ u) :
    Calls Tryz.prog 65 #[.pointer (some ⟨p, 0, none⟩), .string ⟨#[115, 113, 114, 116]⟩] W fun e w' => RPost base p W (Pl.fixedR L 1 (Pl.root (u * 65536)) true) e w' := by
  have NA : Hid (∀ Z, Calls Tryz.prog 90 #[.agg #[.int .i64 k0, .bool x, .int .i64 a, .int .i64 0, .int .i64 0, .string ⟨#[]⟩]] Z fun e w' => e = .returned (.tuple #[.int .i64 u, .bool true]) ∧ Grown Z w') := Lib.hid (fun Z => by have := rnum_obj (k0, x, a, 0, 0, ⟨#[]⟩) hm0 q0 Z; rw [hA] at this; exact this)
  have hk3 : (k0 == 3) = true ∨ (k0 == 3) = false := by cases (k0 == 3) <;> simp
  unfold Pl.fx at fu
  have hr0 := Pl.root_spec (u * 65536) (by omega) (by omega)
  have hr : 0 ≤ Pl.root (u * 65536) ∧ Pl.root (u * 65536) ≤ 4294967295 := ⟨hr0.1, hr0.2.1⟩
  clear hr0
  have FX := Lib.hid (fun Z => root2_floor (u * 65536) (by omega) Z)
  obtain ⟨r, hre⟩ : ∃ r, Pl.root (u * 65536) = r := ⟨_, rfl⟩
  rw [hre] at hr FX ⊢
  obtain ⟨s, hse⟩ : ∃ s, u * 65536 = s := ⟨_, rfl⟩
  have hsb : 0 ≤ s ∧ s ≤ 70368744177664 := by omega
  rw [hse] at FX
  have CG := Lib.hid (fun Z (hZ : RS base p L Z) (hbZ : base ≤ Z.heap.size) => rgivefix_any base p L Z (by omega) hZ hbZ 1 (by omega) r true)
  have HS := Lib.hid h
  have HB := Lib.hid hb
  have TK := Lib.hid (rtake1_ok base p L (W.alloc (.cells #[.int .i64 101] 3)) (by omega) (h.fresh (Fr.alloc _ _ _)) (k0, x, a, 0, 0, ⟨#[]⟩) J hn h0 W.heap.size 1 (Nat.le_refl _) 101 (.inr (.inl rfl)) (by simp [go_sem]) (by rcases q0 with rfl | rfl <;> rfl))
  clear hlen h hn h0 hb q0 hm0 hA hre
  rcases hk3 with e0 | e0
  all_goals
    go_enter Tryz.func65, Tryz.ntmps65
    go_wp2_with fail
    refine TK.out.mono ?_
    rintro e w2 ⟨f2, g, cap, hgp, hl, hcap, rfl⟩
    have F2 := Lib.hid ((Fr.alloc (fun _ => False) W (.cells #[.int .i64 101] 3)).trans f2)
    have HL := Lib.hid (And.intro hgp hl)
    have ecap : (1 : Int) ≤ (cap : Int) := by omega
    have c0 : w2.cell? ⟨g, J * 6, none⟩ = some (.int .i64 k0) := hl.2 0 _ rfl
    have c1 : w2.cell? ⟨g, J * 6 + 1, none⟩ = some (.bool x) := hl.2 1 _ rfl
    have c2 : w2.cell? ⟨g, J * 6 + 2, none⟩ = some (.int .i64 a) := hl.2 2 _ rfl
    have c3 : w2.cell? ⟨g, J * 6 + 3, none⟩ = some (.int .i64 0) := hl.2 3 _ rfl
    have c4 : w2.cell? ⟨g, J * 6 + 4, none⟩ = some (.int .i64 0) := hl.2 4 _ rfl
    have c5 : w2.cell? ⟨g, J * 6 + 5, none⟩ = some (.string ⟨#[]⟩) := hl.2 5 _ rfl
    clear TK f2 hl hgp hcap
    have X1 := Lib.hid (And.intro (Blk.new (W := w2) (Z := w2) #[.int .i64 k0, .bool x, .int .i64 a, .int .i64 0, .int .i64 0, .string ⟨#[]⟩] 25 (Nat.le_refl _)) (Fr.alloc (fun _ => False) w2 (.cells #[.int .i64 k0, .bool x, .int .i64 a, .int .i64 0, .int .i64 0, .string ⟨#[]⟩] 25)))
    go_upto_region 4 with fail
    go_cut [7] (fun sa wx => ∃ pa, sa = .pointer (some ⟨pa, 0, none⟩) ∧ Hid (Blk w2 pa [.int .i64 k0, .bool x, .int .i64 a, .int .i64 0, .int .i64 0, .string ⟨#[]⟩] wx ∧ Fr (fun _ => False) w2 wx))
    case first =>
      go_wp2_with fail
      go_meet
      case rel => exact ⟨_, rfl, X1⟩
    case rest =>
      obtain ⟨pa, rfl, HAB⟩ := hcut
      rename World => wa
      clear X1 c0 c1 c2 c3 c4 c5
      obtain ⟨a0, a1, a2, a3, a4, a5⟩ := HAB.out.1.at6
      have fa := HAB.out.1.2.2.2
      have FZ := Lib.hid (F2.out.trans HAB.out.2)
      clear HAB F2 HL fa
      go_wp2_with fail
      refine (NA.out _).mono ?_
      rintro e w3 ⟨rfl, g3⟩
      have F3 := Lib.hid (FZ.out.trans (Fr.of_grown _ g3))
      clear g3 NA FZ a0 a1 a2 a3 a4 a5
      go_wp2_with fail
      refine (FX.out _).mono ?_
      rintro e w5 ⟨rfl, rfl⟩
      clear FX
      go_wp2_with fail
      refine (CG.out _ (HS.out.fresh (F3.out)) (Nat.le_trans HB.out (F3.out).2.2.1)).mono ?_
      rintro e w8 ⟨rfl, hs, hf⟩
      have H8 := Lib.hid (And.intro hs ((Fr.weaken (F3.out) (fun _ f => f.elim)).trans hf))
      clear hs hf CG
      go_wp2_with fail
      go_ret
      exact ⟨rfl, fun _ => H8.out.1, H8.out.2⟩
end
end Go.Proofs.YtfmmomdmemcbbaaGreat
