/- The reference's operators of one number: neg, abs, and those -/
import Derived.Test.YtfmmomdmemcbbaaGreatZ3
import Derived.Test.YtfmmomdmemcbbaaGreatZB
import Derived.Deep.DeepCutAuto
import Derived.Deep.RegionHeld3
set_option maxHeartbeats 4000000
set_option maxRecDepth 100000
namespace Go.Proofs.YtfmmomdmemcbbaaGreat
set_option linter.unusedVariables false
open Go.RowKit
section
variable (base p : Nat) (L : List Pl.Ob) (W : World) (hlen : L.length ≤ 200) (h : RS base p L W) (hb : base ≤ W.heap.size)
include hlen h hb
omit hb hlen in
theorem rone_under (NM : ByteArray) (hL : L.length < 1) :
    Calls Tryz.prog 65 #[.pointer (some ⟨p, 0, none⟩), .string NM] W fun e w' => RPost base p W (((7, L) : Int × List Pl.Ob)) e w' := by
  have TK := Lib.hid (rtake_under base p L (W.alloc (.cells #[.int .i64 101] 3)) (h.fresh (Fr.alloc _ _ _)) 1 (by omega) hL W.heap.size 1)
  clear h hL
  go_enter Tryz.func65, Tryz.ntmps65
  go_wp2_with fail
  refine TK.out.mono ?_
  rintro e w2 ⟨rfl, f2⟩
  have F2 := Lib.hid ((Fr.alloc (fun _ => False) W (.cells #[.int .i64 101] 3)).trans f2)
  clear TK f2
  go_wp2_with fail
  go_ret
  exact ⟨rfl, fun q => absurd q (by simp), F2.out.weaken (fun _ f => f.elim)⟩
omit hb in
theorem rone_bad (NM : ByteArray) (o0 : Pl.Ob) (J : Nat) (hn : L.length = J + 1) (h0 : L[J + 0]? = some o0) (f0 : Pl.rfits 101 o0.1 = false) :
    Calls Tryz.prog 65 #[.pointer (some ⟨p, 0, none⟩), .string NM] W fun e w' => RPost base p W (((6, L) : Int × List Pl.Ob)) e w' := by
  have TK := Lib.hid (rtake1_bad base p L (W.alloc (.cells #[.int .i64 101] 3)) (by omega) (h.fresh (Fr.alloc _ _ _)) o0 J hn h0 W.heap.size 1 (Nat.le_refl _) 101 (.inr (.inl rfl)) (by simp [go_sem]) f0)
  clear hlen h hn h0 f0
  go_enter Tryz.func65, Tryz.ntmps65
  go_wp2_with fail
  refine TK.out.mono ?_
  rintro e w2 ⟨rfl, f2⟩
  have F2 := Lib.hid ((Fr.alloc (fun _ => False) W (.cells #[.int .i64 101] 3)).trans f2)
  clear TK f2
  go_wp2_with fail
  go_ret
  exact ⟨rfl, fun q => absurd q (by simp), F2.out.weaken (fun _ f => f.elim)⟩
theorem rone_neg (k0 : Int) (q0 : k0 = 3 ∨ k0 = 4) (a : Int) (x : Bool) (J : Nat) (hn : L.length = J + 1) (h0 : L[J + 0]? = some (k0, x, a, 0, 0, ⟨#[]⟩)) (ia : -2147483647 ≤ a ∧ a ≤ 2147483647) :
    Calls Tryz.prog 65 #[.pointer (some ⟨p, 0, none⟩), .string ⟨#[110, 101, 103]⟩] W fun e w' => RPost base p W (Pl.giveR L 1 [(k0, false, (-a), 0, 0, ⟨#[]⟩)]) e w' := by
  have CG := Lib.hid (fun Z (hZ : RS base p L Z) (hbZ : base ≤ Z.heap.size) u (hR : RowV Z u [(k0, false, (-a), 0, 0, ⟨#[]⟩)]) => rgive_any base p L Z (by omega) hZ hbZ 1 (by omega) [(k0, false, (-a), 0, 0, ⟨#[]⟩)] (by simp) u hR)
  have RN := Lib.hid (fun Z => And.intro (row_new Z [(k0, false, (-a), 0, 0, ⟨#[]⟩)] #[.int .i64 k0, .bool false, .int .i64 (-a), .int .i64 0, .int .i64 0, .string ⟨#[]⟩] rfl 1 rfl) (Fr.alloc (fun _ => False) Z (.cells #[.int .i64 k0, .bool false, .int .i64 (-a), .int .i64 0, .int .i64 0, .string ⟨#[]⟩] 25)))
  have HS := Lib.hid h
  have HB := Lib.hid hb
  have TK := Lib.hid (rtake1_ok base p L (W.alloc (.cells #[.int .i64 101] 3)) (by omega) (h.fresh (Fr.alloc _ _ _)) (k0, x, a, 0, 0, ⟨#[]⟩) J hn h0 W.heap.size 1 (Nat.le_refl _) 101 (.inr (.inl rfl)) (by simp [go_sem]) (by rcases q0 with rfl | rfl <;> rfl))
  clear hlen h hn h0 hb q0
  go_enter Tryz.func65, Tryz.ntmps65
  go_wp2_with fail
  refine TK.out.mono ?_
  rintro e w2 ⟨f2, g, cap, hgp, hl, hcap, rfl⟩
  have F2 := Lib.hid ((Fr.alloc (fun _ => False) W (.cells #[.int .i64 101] 3)).trans f2)
  have HL := Lib.hid (And.intro hgp hl)
  have ecap : (1 : Int) ≤ (cap : Int) := by omega
  have c0 : w2.cell? ⟨g, J * 6, none⟩ = some (.int .i64 k0) := hl.2 0 _ rfl
  have c1 : w2.cell? ⟨g, J * 6 + 1, none⟩ = some (.bool x) := hl.2 1 _ rfl
  have c2 : w2.cell? ⟨g, J * 6 + 2, none⟩ = some (.int .i64 a) := hl.2 2 _ rfl
  have c3 : w2.cell? ⟨g, J * 6 + 3, none⟩ = some (.int .i64 0) := hl.2 3 _ rfl
  have c4 : w2.cell? ⟨g, J * 6 + 4, none⟩ = some (.int .i64 0) := hl.2 4 _ rfl
  have c5 : w2.cell? ⟨g, J * 6 + 5, none⟩ = some (.string ⟨#[]⟩) := hl.2 5 _ rfl
  clear TK f2 hl hgp hcap
  have X1 := Lib.hid (And.intro (Blk.new (W := w2) (Z := w2) #[.int .i64 k0, .bool x, .int .i64 a, .int .i64 0, .int .i64 0, .string ⟨#[]⟩] 25 (Nat.le_refl _)) (Fr.alloc (fun _ => False) w2 (.cells #[.int .i64 k0, .bool x, .int .i64 a, .int .i64 0, .int .i64 0, .string ⟨#[]⟩] 25)))
  go_upto_region 4 with fail
  go_cut [7] (fun sa wx => ∃ pa, sa = .pointer (some ⟨pa, 0, none⟩) ∧ Hid (Blk w2 pa [.int .i64 k0, .bool x, .int .i64 a, .int .i64 0, .int .i64 0, .string ⟨#[]⟩] wx ∧ Fr (fun _ => False) w2 wx))
  case first =>
    go_wp2_with fail
    go_meet
    case rel => exact ⟨_, rfl, X1⟩
  case rest =>
    obtain ⟨pa, rfl, HAB⟩ := hcut
    rename World => wa
    clear X1 c0 c1 c2 c3 c4 c5
    obtain ⟨a0, a1, a2, a3, a4, a5⟩ := HAB.out.1.at6
    have fa := HAB.out.1.2.2.2
    have FZ := Lib.hid (F2.out.trans HAB.out.2)
    go_upto_region 10 with fail
    generalize hZ : World.setCell _ _ _ = Z3
    have F3 := Lib.hid (show Fr (fun _ => False) W Z3 by
      rw [← hZ]
      exact F2.out.trans (Fr.setNew (Fr.setNew HAB.out.2 HAB.out.1.1 _) HAB.out.1.1 _))
    have B3 : Blk w2 pa [.int .i64 k0, .bool false, .int .i64 (-a), .int .i64 0, .int .i64 0, .string ⟨#[]⟩] Z3 := by
      rw [← hZ]
      exact (HAB.out.1.set 2 (by simp) _).set 1 (by simp) _
    clear hZ FZ HAB F2 HL a0 a1 a2 a3 a4 a5 fa
    obtain ⟨a0, a1, a2, a3, a4, a5⟩ := B3.at6
    clear B3
    have R5 := Lib.hid (RN.out Z3).1
    have F5 := Lib.hid (F3.out.trans (RN.out Z3).2)
    clear RN
    go_wp2_with fail
    refine (CG.out _ (HS.out.fresh (F5.out)) (Nat.le_trans HB.out (F5.out).2.2.1) _ R5.out).mono ?_
    rintro e w8 ⟨rfl, hs, hf⟩
    have H8 := Lib.hid (And.intro hs ((Fr.weaken (F5.out) (fun _ f => f.elim)).trans hf))
    clear hs hf CG
    go_wp2_with fail
    go_ret
    exact ⟨rfl, fun _ => H8.out.1, H8.out.2⟩
theorem rone_abs_neg (k0 : Int) (q0 : k0 = 3 ∨ k0 = 4) (a : Int) (x : Bool) (J : Nat) (hn : L.length = J + 1) (h0 : L[J + 0]? = some (k0, x, a, 0, 0, ⟨#[]⟩)) (ia : -2147483647 ≤ a ∧ a ≤ 2147483647) (hz : a < 0) :
    Calls Tryz.prog 65 #[.pointer (some ⟨p, 0, none⟩), .string ⟨#[97, 98, 115]⟩] W fun e w' => RPost base p W (Pl.giveR L 1 [(k0, false, (-a), 0, 0, ⟨#[]⟩)]) e w' := by
  have CG := Lib.hid (fun Z (hZ : RS base p L Z) (hbZ : base ≤ Z.heap.size) u (hR : RowV Z u [(k0, false, (-a), 0, 0, ⟨#[]⟩)]) => rgive_any base p L Z (by omega) hZ hbZ 1 (by omega) [(k0, false, (-a), 0, 0, ⟨#[]⟩)] (by simp) u hR)
  have RN := Lib.hid (fun Z => And.intro (row_new Z [(k0, false, (-a), 0, 0, ⟨#[]⟩)] #[.int .i64 k0, .bool false, .int .i64 (-a), .int .i64 0, .int .i64 0, .string ⟨#[]⟩] rfl 1 rfl) (Fr.alloc (fun _ => False) Z (.cells #[.int .i64 k0, .bool false, .int .i64 (-a), .int .i64 0, .int .i64 0, .string ⟨#[]⟩] 25)))
  have HS := Lib.hid h
  have HB := Lib.hid hb
  have TK := Lib.hid (rtake1_ok base p L (W.alloc (.cells #[.int .i64 101] 3)) (by omega) (h.fresh (Fr.alloc _ _ _)) (k0, x, a, 0, 0, ⟨#[]⟩) J hn h0 W.heap.size 1 (Nat.le_refl _) 101 (.inr (.inl rfl)) (by simp [go_sem]) (by rcases q0 with rfl | rfl <;> rfl))
  clear hlen h hn h0 hb q0
  go_enter Tryz.func65, Tryz.ntmps65
  go_wp2_with fail
  refine TK.out.mono ?_
  rintro e w2 ⟨f2, g, cap, hgp, hl, hcap, rfl⟩
  have F2 := Lib.hid ((Fr.alloc (fun _ => False) W (.cells #[.int .i64 101] 3)).trans f2)
  have HL := Lib.hid (And.intro hgp hl)
  have ecap : (1 : Int) ≤ (cap : Int) := by omega
  have c0 : w2.cell? ⟨g, J * 6, none⟩ = some (.int .i64 k0) := hl.2 0 _ rfl
  have c1 : w2.cell? ⟨g, J * 6 + 1, none⟩ = some (.bool x) := hl.2 1 _ rfl
  have c2 : w2.cell? ⟨g, J * 6 + 2, none⟩ = some (.int .i64 a) := hl.2 2 _ rfl
  have c3 : w2.cell? ⟨g, J * 6 + 3, none⟩ = some (.int .i64 0) := hl.2 3 _ rfl
  have c4 : w2.cell? ⟨g, J * 6 + 4, none⟩ = some (.int .i64 0) := hl.2 4 _ rfl
  have c5 : w2.cell? ⟨g, J * 6 + 5, none⟩ = some (.string ⟨#[]⟩) := hl.2 5 _ rfl
  clear TK f2 hl hgp hcap
  have X1 := Lib.hid (And.intro (Blk.new (W := w2) (Z := w2) #[.int .i64 k0, .bool x, .int .i64 a, .int .i64 0, .int .i64 0, .string ⟨#[]⟩] 25 (Nat.le_refl _)) (Fr.alloc (fun _ => False) w2 (.cells #[.int .i64 k0, .bool x, .int .i64 a, .int .i64 0, .int .i64 0, .string ⟨#[]⟩] 25)))
  go_upto_region 4 with fail
  go_cut [7] (fun sa wx => ∃ pa, sa = .pointer (some ⟨pa, 0, none⟩) ∧ Hid (Blk w2 pa [.int .i64 k0, .bool x, .int .i64 a, .int .i64 0, .int .i64 0, .string ⟨#[]⟩] wx ∧ Fr (fun _ => False) w2 wx))
  case first =>
    go_wp2_with fail
    go_meet
    case rel => exact ⟨_, rfl, X1⟩
  case rest =>
    obtain ⟨pa, rfl, HAB⟩ := hcut
    rename World => wa
    clear X1 c0 c1 c2 c3 c4 c5
    obtain ⟨a0, a1, a2, a3, a4, a5⟩ := HAB.out.1.at6
    have fa := HAB.out.1.2.2.2
    have FZ := Lib.hid (F2.out.trans HAB.out.2)
    go_upto_region 15 with fail
    generalize hZ : World.setCell _ _ _ = Z3
    have F3 := Lib.hid (show Fr (fun _ => False) W Z3 by
      rw [← hZ]
      exact F2.out.trans (Fr.setNew (Fr.setNew HAB.out.2 HAB.out.1.1 _) HAB.out.1.1 _))
    have B3 : Blk w2 pa [.int .i64 k0, .bool false, .int .i64 (-a), .int .i64 0, .int .i64 0, .string ⟨#[]⟩] Z3 := by
      rw [← hZ]
      exact (HAB.out.1.set 2 (by simp) _).set 1 (by simp) _
    clear hZ FZ HAB F2 HL a0 a1 a2 a3 a4 a5 fa
    obtain ⟨a0, a1, a2, a3, a4, a5⟩ := B3.at6
    clear B3
    have R5 := Lib.hid (RN.out Z3).1
    have F5 := Lib.hid (F3.out.trans (RN.out Z3).2)
    clear RN
    go_wp2_with fail
    refine (CG.out _ (HS.out.fresh (F5.out)) (Nat.le_trans HB.out (F5.out).2.2.1) _ R5.out).mono ?_
    rintro e w8 ⟨rfl, hs, hf⟩
    have H8 := Lib.hid (And.intro hs ((Fr.weaken (F5.out) (fun _ f => f.elim)).trans hf))
    clear hs hf CG
    go_wp2_with fail
    go_ret
    exact ⟨rfl, fun _ => H8.out.1, H8.out.2⟩
theorem rone_abs (k0 : Int) (q0 : k0 = 3 ∨ k0 = 4) (a : Int) (x : Bool) (J : Nat) (hn : L.length = J + 1) (h0 : L[J + 0]? = some (k0, x, a, 0, 0, ⟨#[]⟩)) (hz : 0 ≤ a) :
    Calls Tryz.prog 65 #[.pointer (some ⟨p, 0, none⟩), .string ⟨#[97, 98, 115]⟩] W fun e w' => RPost base p W (Pl.giveR L 1 [(k0, x, a, 0, 0, ⟨#[]⟩)]) e w' := by
  have CG := Lib.hid (fun Z (hZ : RS base p L Z) (hbZ : base ≤ Z.heap.size) u (hR : RowV Z u [(k0, x, a, 0, 0, ⟨#[]⟩)]) => rgive_any base p L Z (by omega) hZ hbZ 1 (by omega) [(k0, x, a, 0, 0, ⟨#[]⟩)] (by simp) u hR)
  have RN := Lib.hid (fun Z => And.intro (row_new Z [(k0, x, a, 0, 0, ⟨#[]⟩)] #[.int .i64 k0, .bool x, .int .i64 a, .int .i64 0, .int .i64 0, .string ⟨#[]⟩] rfl 1 rfl) (Fr.alloc (fun _ => False) Z (.cells #[.int .i64 k0, .bool x, .int .i64 a, .int .i64 0, .int .i64 0, .string ⟨#[]⟩] 25)))
  have HS := Lib.hid h
  have HB := Lib.hid hb
  have TK := Lib.hid (rtake1_ok base p L (W.alloc (.cells #[.int .i64 101] 3)) (by omega) (h.fresh (Fr.alloc _ _ _)) (k0, x, a, 0, 0, ⟨#[]⟩) J hn h0 W.heap.size 1 (Nat.le_refl _) 101 (.inr (.inl rfl)) (by simp [go_sem]) (by rcases q0 with rfl | rfl <;> rfl))
  clear hlen h hn h0 hb q0
  go_enter Tryz.func65, Tryz.ntmps65
  go_wp2_with fail
  refine TK.out.mono ?_
  rintro e w2 ⟨f2, g, cap, hgp, hl, hcap, rfl⟩
  have F2 := Lib.hid ((Fr.alloc (fun _ => False) W (.cells #[.int .i64 101] 3)).trans f2)
  have HL := Lib.hid (And.intro hgp hl)
  have ecap : (1 : Int) ≤ (cap : Int) := by omega
  have c0 : w2.cell? ⟨g, J * 6, none⟩ = some (.int .i64 k0) := hl.2 0 _ rfl
  have c1 : w2.cell? ⟨g, J * 6 + 1, none⟩ = some (.bool x) := hl.2 1 _ rfl
  have c2 : w2.cell? ⟨g, J * 6 + 2, none⟩ = some (.int .i64 a) := hl.2 2 _ rfl
  have c3 : w2.cell? ⟨g, J * 6 + 3, none⟩ = some (.int .i64 0) := hl.2 3 _ rfl
  have c4 : w2.cell? ⟨g, J * 6 + 4, none⟩ = some (.int .i64 0) := hl.2 4 _ rfl
  have c5 : w2.cell? ⟨g, J * 6 + 5, none⟩ = some (.string ⟨#[]⟩) := hl.2 5 _ rfl
  clear TK f2 hl hgp hcap
  have X1 := Lib.hid (And.intro (Blk.new (W := w2) (Z := w2) #[.int .i64 k0, .bool x, .int .i64 a, .int .i64 0, .int .i64 0, .string ⟨#[]⟩] 25 (Nat.le_refl _)) (Fr.alloc (fun _ => False) w2 (.cells #[.int .i64 k0, .bool x, .int .i64 a, .int .i64 0, .int .i64 0, .string ⟨#[]⟩] 25)))
  go_upto_region 4 with fail
  go_cut [7] (fun sa wx => ∃ pa, sa = .pointer (some ⟨pa, 0, none⟩) ∧ Hid (Blk w2 pa [.int .i64 k0, .bool x, .int .i64 a, .int .i64 0, .int .i64 0, .string ⟨#[]⟩] wx ∧ Fr (fun _ => False) w2 wx))
  case first =>
    go_wp2_with fail
    go_meet
    case rel => exact ⟨_, rfl, X1⟩
  case rest =>
    obtain ⟨pa, rfl, HAB⟩ := hcut
    rename World => wa
    clear X1 c0 c1 c2 c3 c4 c5
    obtain ⟨a0, a1, a2, a3, a4, a5⟩ := HAB.out.1.at6
    have fa := HAB.out.1.2.2.2
    have FZ := Lib.hid (F2.out.trans HAB.out.2)
    clear HAB F2 HL fa
    have R5 := Lib.hid (RN.out wa).1
    have F5 := Lib.hid (FZ.out.trans (RN.out wa).2)
    clear RN
    go_wp2_with fail
    refine (CG.out _ (HS.out.fresh (F5.out)) (Nat.le_trans HB.out (F5.out).2.2.1) _ R5.out).mono ?_
    rintro e w8 ⟨rfl, hs, hf⟩
    have H8 := Lib.hid (And.intro hs ((Fr.weaken (F5.out) (fun _ f => f.elim)).trans hf))
    clear hs hf CG
    go_wp2_with fail
    go_ret
    exact ⟨rfl, fun _ => H8.out.1, H8.out.2⟩
theorem rone_whole (NM : ByteArray) (a : Int) (x : Bool) (J : Nat) (hn : L.length = J + 1) (h0 : L[J + 0]? = some (3, x, a, 0, 0, ⟨#[]⟩)) (hN : NM = ⟨#[99, 101, 105, 108, 105, 110, 103]⟩ ∨ NM = ⟨#[102, 108, 111, 111, 114]⟩ ∨ NM = ⟨#[114, 111, 117, 110, 100]⟩ ∨ NM = ⟨#[116, 114, 117, 110, 99, 97, 116, 101]⟩) :
    Calls Tryz.prog 65 #[.pointer (some ⟨p, 0, none⟩), .string NM] W fun e w' => RPost base p W (Pl.giveR L 1 [(3, x, a, 0, 0, ⟨#[]⟩)]) e w' := by
  have CG := Lib.hid (fun Z (hZ : RS base p L Z) (hbZ : base ≤ Z.heap.size) u (hR : RowV Z u [(3, x, a, 0, 0, ⟨#[]⟩)]) => rgive_any base p L Z (by omega) hZ hbZ 1 (by omega) [(3, x, a, 0, 0, ⟨#[]⟩)] (by simp) u hR)
  have RN := Lib.hid (fun Z => And.intro (row_new Z [(3, x, a, 0, 0, ⟨#[]⟩)] #[.int .i64 3, .bool x, .int .i64 a, .int .i64 0, .int .i64 0, .string ⟨#[]⟩] rfl 1 rfl) (Fr.alloc (fun _ => False) Z (.cells #[.int .i64 3, .bool x, .int .i64 a, .int .i64 0, .int .i64 0, .string ⟨#[]⟩] 25)))
  have HS := Lib.hid h
  have HB := Lib.hid hb
  have TK := Lib.hid (rtake1_ok base p L (W.alloc (.cells #[.int .i64 101] 3)) (by omega) (h.fresh (Fr.alloc _ _ _)) (3, x, a, 0, 0, ⟨#[]⟩) J hn h0 W.heap.size 1 (Nat.le_refl _) 101 (.inr (.inl rfl)) (by simp [go_sem]) (by rfl))
  clear hlen h hn h0 hb
  rcases hN with rfl | rfl | rfl | rfl
  all_goals
    go_enter Tryz.func65, Tryz.ntmps65
    go_wp2_with fail
    refine TK.out.mono ?_
    rintro e w2 ⟨f2, g, cap, hgp, hl, hcap, rfl⟩
    have F2 := Lib.hid ((Fr.alloc (fun _ => False) W (.cells #[.int .i64 101] 3)).trans f2)
    have HL := Lib.hid (And.intro hgp hl)
    have ecap : (1 : Int) ≤ (cap : Int) := by omega
    have c0 : w2.cell? ⟨g, J * 6, none⟩ = some (.int .i64 3) := hl.2 0 _ rfl
    have c1 : w2.cell? ⟨g, J * 6 + 1, none⟩ = some (.bool x) := hl.2 1 _ rfl
    have c2 : w2.cell? ⟨g, J * 6 + 2, none⟩ = some (.int .i64 a) := hl.2 2 _ rfl
    have c3 : w2.cell? ⟨g, J * 6 + 3, none⟩ = some (.int .i64 0) := hl.2 3 _ rfl
    have c4 : w2.cell? ⟨g, J * 6 + 4, none⟩ = some (.int .i64 0) := hl.2 4 _ rfl
    have c5 : w2.cell? ⟨g, J * 6 + 5, none⟩ = some (.string ⟨#[]⟩) := hl.2 5 _ rfl
    clear TK f2 hl hgp hcap
    have X1 := Lib.hid (And.intro (Blk.new (W := w2) (Z := w2) #[.int .i64 3, .bool x, .int .i64 a, .int .i64 0, .int .i64 0, .string ⟨#[]⟩] 25 (Nat.le_refl _)) (Fr.alloc (fun _ => False) w2 (.cells #[.int .i64 3, .bool x, .int .i64 a, .int .i64 0, .int .i64 0, .string ⟨#[]⟩] 25)))
    go_upto_region 4 with fail
    go_cut [7] (fun sa wx => ∃ pa, sa = .pointer (some ⟨pa, 0, none⟩) ∧ Hid (Blk w2 pa [.int .i64 3, .bool x, .int .i64 a, .int .i64 0, .int .i64 0, .string ⟨#[]⟩] wx ∧ Fr (fun _ => False) w2 wx))
    case first =>
      go_wp2_with fail
      go_meet
      case rel => exact ⟨_, rfl, X1⟩
    case rest =>
      obtain ⟨pa, rfl, HAB⟩ := hcut
      rename World => wa
      clear X1 c0 c1 c2 c3 c4 c5
      obtain ⟨a0, a1, a2, a3, a4, a5⟩ := HAB.out.1.at6
      have fa := HAB.out.1.2.2.2
      have FZ := Lib.hid (F2.out.trans HAB.out.2)
      clear HAB F2 HL fa
      have R5 := Lib.hid (RN.out wa).1
      have F5 := Lib.hid (FZ.out.trans (RN.out wa).2)
      clear RN
      go_wp2_with fail
      refine (CG.out _ (HS.out.fresh (F5.out)) (Nat.le_trans HB.out (F5.out).2.2.1) _ R5.out).mono ?_
      rintro e w8 ⟨rfl, hs, hf⟩
      have H8 := Lib.hid (And.intro hs ((Fr.weaken (F5.out) (fun _ f => f.elim)).trans hf))
      clear hs hf CG
      go_wp2_with fail
      go_ret
      exact ⟨rfl, fun _ => H8.out.1, H8.out.2⟩
end
end Go.Proofs.YtfmmomdmemcbbaaGreat
