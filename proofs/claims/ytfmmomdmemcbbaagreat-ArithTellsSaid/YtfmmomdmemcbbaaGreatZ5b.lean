/- The reference's logic: and, or, xor of truth values; not. -/
import Derived.Test.YtfmmomdmemcbbaaGreatZ3
import Derived.Test.YtfmmomdmemcbbaaGreatZB
import Derived.Deep.DeepCutAuto
import Derived.Deep.RegionHeld3
set_option maxHeartbeats 4000000
set_option maxRecDepth 100000
namespace Go.Proofs.YtfmmomdmemcbbaaGreat
set_option linter.unusedVariables false
open Go.RowKit
section
variable (base p : Nat) (L : List Pl.Ob) (W : World) (hlen : L.length ≤ 200) (h : RS base p L W) (hb : base ≤ W.heap.size)
include hlen h hb
theorem rlogic_bools_true (NM : ByteArray) (a b : Int) (x y : Bool) (J : Nat) (hn : L.length = J + 2) (h0 : L[J + 0]? = some (2, x, a, 0, 0, ⟨#[]⟩)) (h1 : L[J + 1]? = some (2, y, b, 0, 0, ⟨#[]⟩)) (v : Int) (hN : (NM = ⟨#[97, 110, 100]⟩ ∧ bits .and .i64 a b = v) ∨ (NM = ⟨#[111, 114]⟩ ∧ bits .or .i64 a b = v) ∨ (NM = ⟨#[120, 111, 114]⟩ ∧ bits .xor .i64 a b = v)) (ht : (v == 1) = true) :
    Calls Tryz.prog 64 #[.pointer (some ⟨p, 0, none⟩), .string NM] W fun e w' => RPost base p W (Pl.giveR L 2 [(2, false, 1, 0, 0, ⟨#[]⟩)]) e w' := by
  have CG := Lib.hid (fun Z (hZ : RS base p L Z) (hbZ : base ≤ Z.heap.size) u (hR : RowV Z u [(2, false, 1, 0, 0, ⟨#[]⟩)]) => rgive_any base p L Z (by omega) hZ hbZ 2 (by omega) [(2, false, 1, 0, 0, ⟨#[]⟩)] (by simp) u hR)
  have RB : Hid (∀ Z, Calls Tryz.prog 96 #[.bool true] Z fun e w' => e = .returned (.agg #[.int .i64 2, .bool false, .int .i64 1, .int .i64 0, .int .i64 0, .string ⟨#[]⟩]) ∧ Grown Z w') := Lib.hid (fun Z => rbool_any true Z)
  have RN := Lib.hid (fun Z => And.intro (row_new Z [(2, false, 1, 0, 0, ⟨#[]⟩)] #[.int .i64 2, .bool false, .int .i64 1, .int .i64 0, .int .i64 0, .string ⟨#[]⟩] rfl 1 rfl) (Fr.alloc (fun _ => False) Z (.cells #[.int .i64 2, .bool false, .int .i64 1, .int .i64 0, .int .i64 0, .string ⟨#[]⟩] 25)))
  have HS := Lib.hid h
  have HB := Lib.hid hb
  have TK := Lib.hid (rtake2_ok base p L (W.alloc (.cells #[.int .i64 102, .int .i64 102] 3)) (by omega) (h.fresh (Fr.alloc _ _ _)) (2, x, a, 0, 0, ⟨#[]⟩) (2, y, b, 0, 0, ⟨#[]⟩) J hn h0 h1 W.heap.size 2 (Nat.le_refl _) 102 102 (.inr (.inr (.inl rfl))) (.inr (.inr (.inl rfl))) (by simp [go_sem]) (by simp [go_sem]) (by rfl) (by rfl))
  clear hlen h hn h0 h1 hb
  rcases hN with ⟨rfl, hv⟩ | ⟨rfl, hv⟩ | ⟨rfl, hv⟩
  all_goals
    go_enter Tryz.func64, Tryz.ntmps64
    go_wp2_with fail
    refine TK.out.mono ?_
    rintro e w2 ⟨f2, g, cap, hgp, hl, hcap, rfl⟩
    have F2 := Lib.hid ((Fr.alloc (fun _ => False) W (.cells #[.int .i64 102, .int .i64 102] 3)).trans f2)
    have HL := Lib.hid (And.intro hgp hl)
    have ecap : (2 : Int) ≤ (cap : Int) := by omega
    have c0 : w2.cell? ⟨g, J * 6, none⟩ = some (.int .i64 2) := hl.2 0 _ rfl
    have c1 : w2.cell? ⟨g, J * 6 + 1, none⟩ = some (.bool x) := hl.2 1 _ rfl
    have c2 : w2.cell? ⟨g, J * 6 + 2, none⟩ = some (.int .i64 a) := hl.2 2 _ rfl
    have c3 : w2.cell? ⟨g, J * 6 + 3, none⟩ = some (.int .i64 0) := hl.2 3 _ rfl
    have c4 : w2.cell? ⟨g, J * 6 + 4, none⟩ = some (.int .i64 0) := hl.2 4 _ rfl
    have c5 : w2.cell? ⟨g, J * 6 + 5, none⟩ = some (.string ⟨#[]⟩) := hl.2 5 _ rfl
    have c6 : w2.cell? ⟨g, J * 6 + 6, none⟩ = some (.int .i64 2) := hl.2 6 _ rfl
    have c7 : w2.cell? ⟨g, J * 6 + 7, none⟩ = some (.bool y) := hl.2 7 _ rfl
    have c8 : w2.cell? ⟨g, J * 6 + 8, none⟩ = some (.int .i64 b) := hl.2 8 _ rfl
    have c9 : w2.cell? ⟨g, J * 6 + 9, none⟩ = some (.int .i64 0) := hl.2 9 _ rfl
    have c10 : w2.cell? ⟨g, J * 6 + 10, none⟩ = some (.int .i64 0) := hl.2 10 _ rfl
    have c11 : w2.cell? ⟨g, J * 6 + 11, none⟩ = some (.string ⟨#[]⟩) := hl.2 11 _ rfl
    clear TK f2 hl hgp hcap
    have X1 := Lib.hid (ABr.one w2 #[.int .i64 2, .bool x, .int .i64 a, .int .i64 0, .int .i64 0, .string ⟨#[]⟩] #[.int .i64 2, .bool y, .int .i64 b, .int .i64 0, .int .i64 0, .string ⟨#[]⟩])
    have X2 := Lib.hid (ABr.two w2 #[.int .i64 2, .bool x, .int .i64 a, .int .i64 0, .int .i64 0, .string ⟨#[]⟩] #[.int .i64 2, .bool y, .int .i64 b, .int .i64 0, .int .i64 0, .string ⟨#[]⟩])
    go_upto_region 11 with fail
    go_cut [9, 10] (fun sa sb wx => ∃ pa pb, sa = .pointer (some ⟨pa, 0, none⟩) ∧ sb = .pointer (some ⟨pb, 0, none⟩) ∧ Hid (ABr w2 [.int .i64 2, .bool x, .int .i64 a, .int .i64 0, .int .i64 0, .string ⟨#[]⟩] [.int .i64 2, .bool y, .int .i64 b, .int .i64 0, .int .i64 0, .string ⟨#[]⟩] pa pb wx))
    case first =>
      have hne := World.new_ne w2 _ c0
      go_region_held3 (fun Z => Z.cell? ⟨g, J * 6, none⟩ = some (.int .i64 2) ∧ Z.cell? ⟨g, J * 6 + 1, none⟩ = some (.bool x) ∧ Z.cell? ⟨g, J * 6 + 2, none⟩ = some (.int .i64 a) ∧ Z.cell? ⟨g, J * 6 + 3, none⟩ = some (.int .i64 0) ∧ Z.cell? ⟨g, J * 6 + 4, none⟩ = some (.int .i64 0) ∧ Z.cell? ⟨g, J * 6 + 5, none⟩ = some (.string ⟨#[]⟩) ∧ Z.cell? ⟨g, J * 6 + 6, none⟩ = some (.int .i64 2) ∧ Z.cell? ⟨g, J * 6 + 7, none⟩ = some (.bool y) ∧ Z.cell? ⟨g, J * 6 + 8, none⟩ = some (.int .i64 b) ∧ Z.cell? ⟨g, J * 6 + 9, none⟩ = some (.int .i64 0) ∧ Z.cell? ⟨g, J * 6 + 10, none⟩ = some (.int .i64 0) ∧ Z.cell? ⟨g, J * 6 + 11, none⟩ = some (.string ⟨#[]⟩)) (go_keep) (fail)
      all_goals
        go_wp2_with fail
        go_meet
        case rel => first | exact ⟨_, _, rfl, rfl, X1⟩ | exact ⟨_, _, rfl, rfl, X2⟩
    case rest =>
      obtain ⟨pa, pb, rfl, rfl, HAB⟩ := hcut
      clear X1 X2 c0 c1 c2 c3 c4 c5 c6 c7 c8 c9 c10 c11
      have a0 := HAB.out.1.at 0 _ rfl
      have b0 := HAB.out.2.1.at 0 _ rfl
      have a1 := HAB.out.1.at 1 _ rfl
      have b1 := HAB.out.2.1.at 1 _ rfl
      have a2 := HAB.out.1.at 2 _ rfl
      have b2 := HAB.out.2.1.at 2 _ rfl
      have a3 := HAB.out.1.at 3 _ rfl
      have b3 := HAB.out.2.1.at 3 _ rfl
      have a4 := HAB.out.1.at 4 _ rfl
      have b4 := HAB.out.2.1.at 4 _ rfl
      have a5 := HAB.out.1.at 5 _ rfl
      have b5 := HAB.out.2.1.at 5 _ rfl
      have FZ := Lib.hid (F2.out.trans HAB.out.2.2)
      clear HAB F2 HL
      go_wp2_with fail
      refine (RB.out _).mono ?_
      rintro e w5 ⟨rfl, g5⟩
      have R5 := Lib.hid (RN.out w5).1
      have F5 := Lib.hid ((FZ.out.trans (Fr.of_grown _ g5)).trans (RN.out w5).2)
      clear g5 RB RN FZ
      go_wp2_with fail
      refine (CG.out _ (HS.out.fresh (F5.out)) (Nat.le_trans HB.out (F5.out).2.2.1) _ R5.out).mono ?_
      rintro e w8 ⟨rfl, hs, hf⟩
      have H8 := Lib.hid (And.intro hs ((Fr.weaken (F5.out) (fun _ f => f.elim)).trans hf))
      clear hs hf CG
      go_wp2_with fail
      go_ret
      exact ⟨rfl, fun _ => H8.out.1, H8.out.2⟩
theorem rlogic_bools_false (NM : ByteArray) (a b : Int) (x y : Bool) (J : Nat) (hn : L.length = J + 2) (h0 : L[J + 0]? = some (2, x, a, 0, 0, ⟨#[]⟩)) (h1 : L[J + 1]? = some (2, y, b, 0, 0, ⟨#[]⟩)) (v : Int) (hN : (NM = ⟨#[97, 110, 100]⟩ ∧ bits .and .i64 a b = v) ∨ (NM = ⟨#[111, 114]⟩ ∧ bits .or .i64 a b = v) ∨ (NM = ⟨#[120, 111, 114]⟩ ∧ bits .xor .i64 a b = v)) (ht : (v == 1) = false) :
    Calls Tryz.prog 64 #[.pointer (some ⟨p, 0, none⟩), .string NM] W fun e w' => RPost base p W (Pl.giveR L 2 [(2, false, 0, 0, 0, ⟨#[]⟩)]) e w' := by
  have CG := Lib.hid (fun Z (hZ : RS base p L Z) (hbZ : base ≤ Z.heap.size) u (hR : RowV Z u [(2, false, 0, 0, 0, ⟨#[]⟩)]) => rgive_any base p L Z (by omega) hZ hbZ 2 (by omega) [(2, false, 0, 0, 0, ⟨#[]⟩)] (by simp) u hR)
  have RB : Hid (∀ Z, Calls Tryz.prog 96 #[.bool false] Z fun e w' => e = .returned (.agg #[.int .i64 2, .bool false, .int .i64 0, .int .i64 0, .int .i64 0, .string ⟨#[]⟩]) ∧ Grown Z w') := Lib.hid (fun Z => rbool_any false Z)
  have RN := Lib.hid (fun Z => And.intro (row_new Z [(2, false, 0, 0, 0, ⟨#[]⟩)] #[.int .i64 2, .bool false, .int .i64 0, .int .i64 0, .int .i64 0, .string ⟨#[]⟩] rfl 1 rfl) (Fr.alloc (fun _ => False) Z (.cells #[.int .i64 2, .bool false, .int .i64 0, .int .i64 0, .int .i64 0, .string ⟨#[]⟩] 25)))
  have HS := Lib.hid h
  have HB := Lib.hid hb
  have TK := Lib.hid (rtake2_ok base p L (W.alloc (.cells #[.int .i64 102, .int .i64 102] 3)) (by omega) (h.fresh (Fr.alloc _ _ _)) (2, x, a, 0, 0, ⟨#[]⟩) (2, y, b, 0, 0, ⟨#[]⟩) J hn h0 h1 W.heap.size 2 (Nat.le_refl _) 102 102 (.inr (.inr (.inl rfl))) (.inr (.inr (.inl rfl))) (by simp [go_sem]) (by simp [go_sem]) (by rfl) (by rfl))
  clear hlen h hn h0 h1 hb
  rcases hN with ⟨rfl, hv⟩ | ⟨rfl, hv⟩ | ⟨rfl, hv⟩
  all_goals
    go_enter Tryz.func64, Tryz.ntmps64
    go_wp2_with fail
    refine TK.out.mono ?_
    rintro e w2 ⟨f2, g, cap, hgp, hl, hcap, rfl⟩
    have F2 := Lib.hid ((Fr.alloc (fun _ => False) W (.cells #[.int .i64 102, .int .i64 102] 3)).trans f2)
    have HL := Lib.hid (And.intro hgp hl)
    have ecap : (2 : Int) ≤ (cap : Int) := by omega
    have c0 : w2.cell? ⟨g, J * 6, none⟩ = some (.int .i64 2) := hl.2 0 _ rfl
    have c1 : w2.cell? ⟨g, J * 6 + 1, none⟩ = some (.bool x) := hl.2 1 _ rfl
    have c2 : w2.cell? ⟨g, J * 6 + 2, none⟩ = some (.int .i64 a) := hl.2 2 _ rfl
    have c3 : w2.cell? ⟨g, J * 6 + 3, none⟩ = some (.int .i64 0) := hl.2 3 _ rfl
    have c4 : w2.cell? ⟨g, J * 6 + 4, none⟩ = some (.int .i64 0) := hl.2 4 _ rfl
    have c5 : w2.cell? ⟨g, J * 6 + 5, none⟩ = some (.string ⟨#[]⟩) := hl.2 5 _ rfl
    have c6 : w2.cell? ⟨g, J * 6 + 6, none⟩ = some (.int .i64 2) := hl.2 6 _ rfl
    have c7 : w2.cell? ⟨g, J * 6 + 7, none⟩ = some (.bool y) := hl.2 7 _ rfl
    have c8 : w2.cell? ⟨g, J * 6 + 8, none⟩ = some (.int .i64 b) := hl.2 8 _ rfl
    have c9 : w2.cell? ⟨g, J * 6 + 9, none⟩ = some (.int .i64 0) := hl.2 9 _ rfl
    have c10 : w2.cell? ⟨g, J * 6 + 10, none⟩ = some (.int .i64 0) := hl.2 10 _ rfl
    have c11 : w2.cell? ⟨g, J * 6 + 11, none⟩ = some (.string ⟨#[]⟩) := hl.2 11 _ rfl
    clear TK f2 hl hgp hcap
    have X1 := Lib.hid (ABr.one w2 #[.int .i64 2, .bool x, .int .i64 a, .int .i64 0, .int .i64 0, .string ⟨#[]⟩] #[.int .i64 2, .bool y, .int .i64 b, .int .i64 0, .int .i64 0, .string ⟨#[]⟩])
    have X2 := Lib.hid (ABr.two w2 #[.int .i64 2, .bool x, .int .i64 a, .int .i64 0, .int .i64 0, .string ⟨#[]⟩] #[.int .i64 2, .bool y, .int .i64 b, .int .i64 0, .int .i64 0, .string ⟨#[]⟩])
    go_upto_region 11 with fail
    go_cut [9, 10] (fun sa sb wx => ∃ pa pb, sa = .pointer (some ⟨pa, 0, none⟩) ∧ sb = .pointer (some ⟨pb, 0, none⟩) ∧ Hid (ABr w2 [.int .i64 2, .bool x, .int .i64 a, .int .i64 0, .int .i64 0, .string ⟨#[]⟩] [.int .i64 2, .bool y, .int .i64 b, .int .i64 0, .int .i64 0, .string ⟨#[]⟩] pa pb wx))
    case first =>
      have hne := World.new_ne w2 _ c0
      go_region_held3 (fun Z => Z.cell? ⟨g, J * 6, none⟩ = some (.int .i64 2) ∧ Z.cell? ⟨g, J * 6 + 1, none⟩ = some (.bool x) ∧ Z.cell? ⟨g, J * 6 + 2, none⟩ = some (.int .i64 a) ∧ Z.cell? ⟨g, J * 6 + 3, none⟩ = some (.int .i64 0) ∧ Z.cell? ⟨g, J * 6 + 4, none⟩ = some (.int .i64 0) ∧ Z.cell? ⟨g, J * 6 + 5, none⟩ = some (.string ⟨#[]⟩) ∧ Z.cell? ⟨g, J * 6 + 6, none⟩ = some (.int .i64 2) ∧ Z.cell? ⟨g, J * 6 + 7, none⟩ = some (.bool y) ∧ Z.cell? ⟨g, J * 6 + 8, none⟩ = some (.int .i64 b) ∧ Z.cell? ⟨g, J * 6 + 9, none⟩ = some (.int .i64 0) ∧ Z.cell? ⟨g, J * 6 + 10, none⟩ = some (.int .i64 0) ∧ Z.cell? ⟨g, J * 6 + 11, none⟩ = some (.string ⟨#[]⟩)) (go_keep) (fail)
      all_goals
        go_wp2_with fail
        go_meet
        case rel => first | exact ⟨_, _, rfl, rfl, X1⟩ | exact ⟨_, _, rfl, rfl, X2⟩
    case rest =>
      obtain ⟨pa, pb, rfl, rfl, HAB⟩ := hcut
      clear X1 X2 c0 c1 c2 c3 c4 c5 c6 c7 c8 c9 c10 c11
      have a0 := HAB.out.1.at 0 _ rfl
      have b0 := HAB.out.2.1.at 0 _ rfl
      have a1 := HAB.out.1.at 1 _ rfl
      have b1 := HAB.out.2.1.at 1 _ rfl
      have a2 := HAB.out.1.at 2 _ rfl
      have b2 := HAB.out.2.1.at 2 _ rfl
      have a3 := HAB.out.1.at 3 _ rfl
      have b3 := HAB.out.2.1.at 3 _ rfl
      have a4 := HAB.out.1.at 4 _ rfl
      have b4 := HAB.out.2.1.at 4 _ rfl
      have a5 := HAB.out.1.at 5 _ rfl
      have b5 := HAB.out.2.1.at 5 _ rfl
      have FZ := Lib.hid (F2.out.trans HAB.out.2.2)
      clear HAB F2 HL
      go_wp2_with fail
      refine (RB.out _).mono ?_
      rintro e w5 ⟨rfl, g5⟩
      have R5 := Lib.hid (RN.out w5).1
      have F5 := Lib.hid ((FZ.out.trans (Fr.of_grown _ g5)).trans (RN.out w5).2)
      clear g5 RB RN FZ
      go_wp2_with fail
      refine (CG.out _ (HS.out.fresh (F5.out)) (Nat.le_trans HB.out (F5.out).2.2.1) _ R5.out).mono ?_
      rintro e w8 ⟨rfl, hs, hf⟩
      have H8 := Lib.hid (And.intro hs ((Fr.weaken (F5.out) (fun _ f => f.elim)).trans hf))
      clear hs hf CG
      go_wp2_with fail
      go_ret
      exact ⟨rfl, fun _ => H8.out.1, H8.out.2⟩
omit hb hlen in
theorem rnot_under (hL : L.length < 1) :
    Calls Tryz.prog 64 #[.pointer (some ⟨p, 0, none⟩), .string ⟨#[110, 111, 116]⟩] W fun e w' => RPost base p W (((7, L) : Int × List Pl.Ob)) e w' := by
  have TK := Lib.hid (rtake_under base p L (W.alloc (.cells #[.int .i64 102] 3)) (h.fresh (Fr.alloc _ _ _)) 1 (by omega) hL W.heap.size 1)
  clear h hL
  go_enter Tryz.func64, Tryz.ntmps64
  go_wp2_with fail
  refine TK.out.mono ?_
  rintro e w2 ⟨rfl, f2⟩
  have F2 := Lib.hid ((Fr.alloc (fun _ => False) W (.cells #[.int .i64 102] 3)).trans f2)
  clear TK f2
  go_wp2_with fail
  go_ret
  exact ⟨rfl, fun q => absurd q (by simp), F2.out.weaken (fun _ f => f.elim)⟩
omit hb in
theorem rnot_bad (o0 : Pl.Ob) (J : Nat) (hn : L.length = J + 1) (h0 : L[J + 0]? = some o0) (f0 : Pl.rfits 102 o0.1 = false) :
    Calls Tryz.prog 64 #[.pointer (some ⟨p, 0, none⟩), .string ⟨#[110, 111, 116]⟩] W fun e w' => RPost base p W (((6, L) : Int × List Pl.Ob)) e w' := by
  have TK := Lib.hid (rtake1_bad base p L (W.alloc (.cells #[.int .i64 102] 3)) (by omega) (h.fresh (Fr.alloc _ _ _)) o0 J hn h0 W.heap.size 1 (Nat.le_refl _) 102 (.inr (.inr (.inl rfl))) (by simp [go_sem]) f0)
  clear hlen h hn h0 f0
  go_enter Tryz.func64, Tryz.ntmps64
  go_wp2_with fail
  refine TK.out.mono ?_
  rintro e w2 ⟨rfl, f2⟩
  have F2 := Lib.hid ((Fr.alloc (fun _ => False) W (.cells #[.int .i64 102] 3)).trans f2)
  clear TK f2
  go_wp2_with fail
  go_ret
  exact ⟨rfl, fun q => absurd q (by simp), F2.out.weaken (fun _ f => f.elim)⟩
theorem rnot_int (a : Int) (x : Bool) (J : Nat) (hn : L.length = J + 1) (h0 : L[J + 0]? = some (3, x, a, 0, 0, ⟨#[]⟩)) (ia : -2147483647 ≤ a ∧ a ≤ 2147483647) :
    Calls Tryz.prog 64 #[.pointer (some ⟨p, 0, none⟩), .string ⟨#[110, 111, 116]⟩] W fun e w' => RPost base p W (Pl.wholeR L 1 (-a - 1)) e w' := by
  have hx := Pl.not_i64 a (by omega)
  obtain ⟨c, hc⟩ : ∃ c, c = -a - 1 := ⟨_, rfl⟩
  rw [← hc] at hx ⊢
  clear hc
  have CG := Lib.hid (fun Z (hZ : RS base p L Z) (hbZ : base ≤ Z.heap.size) => rgiveint_any base p L Z (by omega) hZ hbZ 1 (by omega) (c))
  have HS := Lib.hid h
  have HB := Lib.hid hb
  have TK := Lib.hid (rtake1_ok base p L (W.alloc (.cells #[.int .i64 102] 3)) (by omega) (h.fresh (Fr.alloc _ _ _)) (3, x, a, 0, 0, ⟨#[]⟩) J hn h0 W.heap.size 1 (Nat.le_refl _) 102 (.inr (.inr (.inl rfl))) (by simp [go_sem]) (by rfl))
  clear hlen h hn h0 hb
  go_enter Tryz.func64, Tryz.ntmps64
  go_wp2_with fail
  refine TK.out.mono ?_
  rintro e w2 ⟨f2, g, cap, hgp, hl, hcap, rfl⟩
  have F2 := Lib.hid ((Fr.alloc (fun _ => False) W (.cells #[.int .i64 102] 3)).trans f2)
  have HL := Lib.hid (And.intro hgp hl)
  have ecap : (1 : Int) ≤ (cap : Int) := by omega
  have c0 : w2.cell? ⟨g, J * 6, none⟩ = some (.int .i64 3) := hl.2 0 _ rfl
  have c1 : w2.cell? ⟨g, J * 6 + 1, none⟩ = some (.bool x) := hl.2 1 _ rfl
  have c2 : w2.cell? ⟨g, J * 6 + 2, none⟩ = some (.int .i64 a) := hl.2 2 _ rfl
  have c3 : w2.cell? ⟨g, J * 6 + 3, none⟩ = some (.int .i64 0) := hl.2 3 _ rfl
  have c4 : w2.cell? ⟨g, J * 6 + 4, none⟩ = some (.int .i64 0) := hl.2 4 _ rfl
  have c5 : w2.cell? ⟨g, J * 6 + 5, none⟩ = some (.string ⟨#[]⟩) := hl.2 5 _ rfl
  clear TK f2 hl hgp hcap
  have FZ := F2
  clear F2 HL
  go_wp2_with fail
  refine (CG.out _ (HS.out.fresh (FZ.out)) (Nat.le_trans HB.out (FZ.out).2.2.1)).mono ?_
  rintro e w8 ⟨rfl, hs, hf⟩
  have H8 := Lib.hid (And.intro hs ((Fr.weaken (FZ.out) (fun _ f => f.elim)).trans hf))
  clear hs hf CG
  go_wp2_with fail
  go_ret
  exact ⟨rfl, fun _ => H8.out.1, H8.out.2⟩
theorem rnot_bool_true (a : Int) (x : Bool) (J : Nat) (hn : L.length = J + 1) (h0 : L[J + 0]? = some (2, x, a, 0, 0, ⟨#[]⟩)) (ht : (a == 0) = true) :
    Calls Tryz.prog 64 #[.pointer (some ⟨p, 0, none⟩), .string ⟨#[110, 111, 116]⟩] W fun e w' => RPost base p W (Pl.giveR L 1 [(2, false, 1, 0, 0, ⟨#[]⟩)]) e w' := by
  have CG := Lib.hid (fun Z (hZ : RS base p L Z) (hbZ : base ≤ Z.heap.size) u (hR : RowV Z u [(2, false, 1, 0, 0, ⟨#[]⟩)]) => rgive_any base p L Z (by omega) hZ hbZ 1 (by omega) [(2, false, 1, 0, 0, ⟨#[]⟩)] (by simp) u hR)
  have RB : Hid (∀ Z, Calls Tryz.prog 96 #[.bool true] Z fun e w' => e = .returned (.agg #[.int .i64 2, .bool false, .int .i64 1, .int .i64 0, .int .i64 0, .string ⟨#[]⟩]) ∧ Grown Z w') := Lib.hid (fun Z => rbool_any true Z)
  have RN := Lib.hid (fun Z => And.intro (row_new Z [(2, false, 1, 0, 0, ⟨#[]⟩)] #[.int .i64 2, .bool false, .int .i64 1, .int .i64 0, .int .i64 0, .string ⟨#[]⟩] rfl 1 rfl) (Fr.alloc (fun _ => False) Z (.cells #[.int .i64 2, .bool false, .int .i64 1, .int .i64 0, .int .i64 0, .string ⟨#[]⟩] 25)))
  have HS := Lib.hid h
  have HB := Lib.hid hb
  have TK := Lib.hid (rtake1_ok base p L (W.alloc (.cells #[.int .i64 102] 3)) (by omega) (h.fresh (Fr.alloc _ _ _)) (2, x, a, 0, 0, ⟨#[]⟩) J hn h0 W.heap.size 1 (Nat.le_refl _) 102 (.inr (.inr (.inl rfl))) (by simp [go_sem]) (by rfl))
  clear hlen h hn h0 hb
  go_enter Tryz.func64, Tryz.ntmps64
  go_wp2_with fail
  refine TK.out.mono ?_
  rintro e w2 ⟨f2, g, cap, hgp, hl, hcap, rfl⟩
  have F2 := Lib.hid ((Fr.alloc (fun _ => False) W (.cells #[.int .i64 102] 3)).trans f2)
  have HL := Lib.hid (And.intro hgp hl)
  have ecap : (1 : Int) ≤ (cap : Int) := by omega
  have c0 : w2.cell? ⟨g, J * 6, none⟩ = some (.int .i64 2) := hl.2 0 _ rfl
  have c1 : w2.cell? ⟨g, J * 6 + 1, none⟩ = some (.bool x) := hl.2 1 _ rfl
  have c2 : w2.cell? ⟨g, J * 6 + 2, none⟩ = some (.int .i64 a) := hl.2 2 _ rfl
  have c3 : w2.cell? ⟨g, J * 6 + 3, none⟩ = some (.int .i64 0) := hl.2 3 _ rfl
  have c4 : w2.cell? ⟨g, J * 6 + 4, none⟩ = some (.int .i64 0) := hl.2 4 _ rfl
  have c5 : w2.cell? ⟨g, J * 6 + 5, none⟩ = some (.string ⟨#[]⟩) := hl.2 5 _ rfl
  clear TK f2 hl hgp hcap
  have FZ := F2
  clear F2 HL
  go_wp2_with fail
  refine (RB.out _).mono ?_
  rintro e w5 ⟨rfl, g5⟩
  have R5 := Lib.hid (RN.out w5).1
  have F5 := Lib.hid ((FZ.out.trans (Fr.of_grown _ g5)).trans (RN.out w5).2)
  clear g5 RB RN FZ
  go_wp2_with fail
  refine (CG.out _ (HS.out.fresh (F5.out)) (Nat.le_trans HB.out (F5.out).2.2.1) _ R5.out).mono ?_
  rintro e w8 ⟨rfl, hs, hf⟩
  have H8 := Lib.hid (And.intro hs ((Fr.weaken (F5.out) (fun _ f => f.elim)).trans hf))
  clear hs hf CG
  go_wp2_with fail
  go_ret
  exact ⟨rfl, fun _ => H8.out.1, H8.out.2⟩
theorem rnot_bool_false (a : Int) (x : Bool) (J : Nat) (hn : L.length = J + 1) (h0 : L[J + 0]? = some (2, x, a, 0, 0, ⟨#[]⟩)) (ht : (a == 0) = false) :
    Calls Tryz.prog 64 #[.pointer (some ⟨p, 0, none⟩), .string ⟨#[110, 111, 116]⟩] W fun e w' => RPost base p W (Pl.giveR L 1 [(2, false, 0, 0, 0, ⟨#[]⟩)]) e w' := by
  have CG := Lib.hid (fun Z (hZ : RS base p L Z) (hbZ : base ≤ Z.heap.size) u (hR : RowV Z u [(2, false, 0, 0, 0, ⟨#[]⟩)]) => rgive_any base p L Z (by omega) hZ hbZ 1 (by omega) [(2, false, 0, 0, 0, ⟨#[]⟩)] (by simp) u hR)
  have RB : Hid (∀ Z, Calls Tryz.prog 96 #[.bool false] Z fun e w' => e = .returned (.agg #[.int .i64 2, .bool false, .int .i64 0, .int .i64 0, .int .i64 0, .string ⟨#[]⟩]) ∧ Grown Z w') := Lib.hid (fun Z => rbool_any false Z)
  have RN := Lib.hid (fun Z => And.intro (row_new Z [(2, false, 0, 0, 0, ⟨#[]⟩)] #[.int .i64 2, .bool false, .int .i64 0, .int .i64 0, .int .i64 0, .string ⟨#[]⟩] rfl 1 rfl) (Fr.alloc (fun _ => False) Z (.cells #[.int .i64 2, .bool false, .int .i64 0, .int .i64 0, .int .i64 0, .string ⟨#[]⟩] 25)))
  have HS := Lib.hid h
  have HB := Lib.hid hb
  have TK := Lib.hid (rtake1_ok base p L (W.alloc (.cells #[.int .i64 102] 3)) (by omega) (h.fresh (Fr.alloc _ _ _)) (2, x, a, 0, 0, ⟨#[]⟩) J hn h0 W.heap.size 1 (Nat.le_refl _) 102 (.inr (.inr (.inl rfl))) (by simp [go_sem]) (by rfl))
  clear hlen h hn h0 hb
  go_enter Tryz.func64, Tryz.ntmps64
  go_wp2_with fail
  refine TK.out.mono ?_
  rintro e w2 ⟨f2, g, cap, hgp, hl, hcap, rfl⟩
  have F2 := Lib.hid ((Fr.alloc (fun _ => False) W (.cells #[.int .i64 102] 3)).trans f2)
  have HL := Lib.hid (And.intro hgp hl)
  have ecap : (1 : Int) ≤ (cap : Int) := by omega
  have c0 : w2.cell? ⟨g, J * 6, none⟩ = some (.int .i64 2) := hl.2 0 _ rfl
  have c1 : w2.cell? ⟨g, J * 6 + 1, none⟩ = some (.bool x) := hl.2 1 _ rfl
  have c2 : w2.cell? ⟨g, J * 6 + 2, none⟩ = some (.int .i64 a) := hl.2 2 _ rfl
  have c3 : w2.cell? ⟨g, J * 6 + 3, none⟩ = some (.int .i64 0) := hl.2 3 _ rfl
  have c4 : w2.cell? ⟨g, J * 6 + 4, none⟩ = some (.int .i64 0) := hl.2 4 _ rfl
  have c5 : w2.cell? ⟨g, J * 6 + 5, none⟩ = some (.string ⟨#[]⟩) := hl.2 5 _ rfl
  clear TK f2 hl hgp hcap
  have FZ := F2
  clear F2 HL
  go_wp2_with fail
  refine (RB.out _).mono ?_
  rintro e w5 ⟨rfl, g5⟩
  have R5 := Lib.hid (RN.out w5).1
  have F5 := Lib.hid ((FZ.out.trans (Fr.of_grown _ g5)).trans (RN.out w5).2)
  clear g5 RB RN FZ
  go_wp2_with fail
  refine (CG.out _ (HS.out.fresh (F5.out)) (Nat.le_trans HB.out (F5.out).2.2.1) _ R5.out).mono ?_
  rintro e w8 ⟨rfl, hs, hf⟩
  have H8 := Lib.hid (And.intro hs ((Fr.weaken (F5.out) (fun _ f => f.elim)).trans hf))
  clear hs hf CG
  go_wp2_with fail
  go_ret
  exact ⟨rfl, fun _ => H8.out.1, H8.out.2⟩
end
end Go.Proofs.YtfmmomdmemcbbaaGreat
