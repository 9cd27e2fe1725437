/- The reference's two: add, sub, mul, div. -/
import Derived.Test.YtfmmomdmemcbbaaGreatZ3
import Derived.Test.YtfmmomdmemcbbaaGreatZ2
import Derived.Test.YtfmmomdmemcbbaaGreatZB
import Derived.Deep.DeepCutAuto
import Derived.Deep.RegionHeld3
set_option maxHeartbeats 4000000
set_option maxRecDepth 100000
namespace Go.Proofs.YtfmmomdmemcbbaaGreat
set_option linter.unusedVariables false
open Go.RowKit
theorem Pl.mul_bd (a b : Int) (ha : -2147483647 ≤ a ∧ a ≤ 2147483647) (hb : -2147483647 ≤ b ∧ b ≤ 2147483647) : -4611686018427387904 ≤ a * b ∧ a * b ≤ 4611686018427387904 := by
  have h1 := Int.natAbs_mul a b
  have h2 : a.natAbs * b.natAbs ≤ 2147483647 * 2147483647 := Nat.mul_le_mul (by omega) (by omega)
  omega
section
variable (base p : Nat) (L : List Pl.Ob) (W : World) (hlen : L.length ≤ 200) (h : RS base p L W) (hb : base ≤ W.heap.size)
include hlen h hb
omit hb hlen in
theorem rtwo_under (NM : ByteArray) (hL : L.length < 2) :
    Calls Tryz.prog 62 #[.pointer (some ⟨p, 0, none⟩), .string NM] W fun e w' => RPost base p W (((7, L) : Int × List Pl.Ob)) e w' := by
  have TK := Lib.hid (rtake_under base p L (W.alloc (.cells #[.int .i64 101, .int .i64 101] 3)) (h.fresh (Fr.alloc _ _ _)) 2 (by omega) hL W.heap.size 2)
  clear h hL
  go_enter Tryz.func62, Tryz.ntmps62
  go_wp2_with fail
  refine TK.out.mono ?_
  rintro e w2 ⟨rfl, f2⟩
  have F2 := Lib.hid ((Fr.alloc (fun _ => False) W (.cells #[.int .i64 101, .int .i64 101] 3)).trans f2)
  clear TK f2
  go_wp2_with fail
  go_ret
  exact ⟨rfl, fun q => absurd q (by simp), F2.out.weaken (fun _ f => f.elim)⟩
omit hb in
theorem rtwo_bad (NM : ByteArray) (o0 o1 : Pl.Ob) (J : Nat) (hn : L.length = J + 2) (h0 : L[J + 0]? = some o0) (h1 : L[J + 1]? = some o1) (f1 : Pl.rfits 101 o1.1 = false) :
    Calls Tryz.prog 62 #[.pointer (some ⟨p, 0, none⟩), .string NM] W fun e w' => RPost base p W (((6, L) : Int × List Pl.Ob)) e w' := by
  have TK := Lib.hid (rtake2_bad base p L (W.alloc (.cells #[.int .i64 101, .int .i64 101] 3)) (by omega) (h.fresh (Fr.alloc _ _ _)) o0 o1 J hn h0 h1 W.heap.size 2 (Nat.le_refl _) 101 101 (.inr (.inl rfl)) (.inr (.inl rfl)) (by simp [go_sem]) (by simp [go_sem]) f1)
  clear hlen h hn h0 h1 f1
  go_enter Tryz.func62, Tryz.ntmps62
  go_wp2_with fail
  refine TK.out.mono ?_
  rintro e w2 ⟨rfl, f2⟩
  have F2 := Lib.hid ((Fr.alloc (fun _ => False) W (.cells #[.int .i64 101, .int .i64 101] 3)).trans f2)
  clear TK f2
  go_wp2_with fail
  go_ret
  exact ⟨rfl, fun q => absurd q (by simp), F2.out.weaken (fun _ f => f.elim)⟩
omit hb in
theorem rtwo_bad0 (NM : ByteArray) (o0 o1 : Pl.Ob) (J : Nat) (hn : L.length = J + 2) (h0 : L[J + 0]? = some o0) (h1 : L[J + 1]? = some o1) (f1 : Pl.rfits 101 o1.1 = true) (f0 : Pl.rfits 101 o0.1 = false) :
    Calls Tryz.prog 62 #[.pointer (some ⟨p, 0, none⟩), .string NM] W fun e w' => RPost base p W (((6, L) : Int × List Pl.Ob)) e w' := by
  have TK := Lib.hid (rtake2_bad0 base p L (W.alloc (.cells #[.int .i64 101, .int .i64 101] 3)) (by omega) (h.fresh (Fr.alloc _ _ _)) o0 o1 J hn h0 h1 W.heap.size 2 (Nat.le_refl _) 101 101 (.inr (.inl rfl)) (.inr (.inl rfl)) (by simp [go_sem]) (by simp [go_sem]) f1 f0)
  clear hlen h hn h0 h1 f1 f0
  go_enter Tryz.func62, Tryz.ntmps62
  go_wp2_with fail
  refine TK.out.mono ?_
  rintro e w2 ⟨rfl, f2⟩
  have F2 := Lib.hid ((Fr.alloc (fun _ => False) W (.cells #[.int .i64 101, .int .i64 101] 3)).trans f2)
  clear TK f2
  go_wp2_with fail
  go_ret
  exact ⟨rfl, fun q => absurd q (by simp), F2.out.weaken (fun _ f => f.elim)⟩
theorem rtwo_ints (NM : ByteArray) (c : Int) (a b : Int) (x y : Bool) (J : Nat) (hn : L.length = J + 2) (h0 : L[J + 0]? = some (3, x, a, 0, 0, ⟨#[]⟩)) (h1 : L[J + 1]? = some (3, y, b, 0, 0, ⟨#[]⟩)) (ia : -2147483647 ≤ a ∧ a ≤ 2147483647) (ib : -2147483647 ≤ b ∧ b ≤ 2147483647) (hN : (NM = ⟨#[97, 100, 100]⟩ ∧ a + b = c) ∨ (NM = ⟨#[115, 117, 98]⟩ ∧ a - b = c) ∨ (NM = ⟨#[109, 117, 108]⟩ ∧ a * b = c)) :
    Calls Tryz.prog 62 #[.pointer (some ⟨p, 0, none⟩), .string NM] W fun e w' => RPost base p W (Pl.wholeR L 2 c) e w' := by
  have bc : -4611686018427387904 ≤ c ∧ c ≤ 4611686018427387904 := by
    have := Pl.mul_bd a b ia ib
    rcases hN with ⟨_, rfl⟩ | ⟨_, rfl⟩ | ⟨_, rfl⟩ <;> omega
  have CG := Lib.hid (fun Z (hZ : RS base p L Z) (hbZ : base ≤ Z.heap.size) => rgiveint_any base p L Z (by omega) hZ hbZ 2 (by omega) (c))
  have HS := Lib.hid h
  have HB := Lib.hid hb
  have TK := Lib.hid (rtake2_ok base p L (W.alloc (.cells #[.int .i64 101, .int .i64 101] 3)) (by omega) (h.fresh (Fr.alloc _ _ _)) (3, x, a, 0, 0, ⟨#[]⟩) (3, y, b, 0, 0, ⟨#[]⟩) J hn h0 h1 W.heap.size 2 (Nat.le_refl _) 101 101 (.inr (.inl rfl)) (.inr (.inl rfl)) (by simp [go_sem]) (by simp [go_sem]) (by rfl) (by rfl))
  clear hlen h hn h0 h1 hb
  rcases hN with ⟨rfl, hc⟩ | ⟨rfl, hc⟩ | ⟨rfl, hc⟩
  all_goals
    go_enter Tryz.func62, Tryz.ntmps62
    go_wp2_with fail
    refine TK.out.mono ?_
    rintro e w2 ⟨f2, g, cap, hgp, hl, hcap, rfl⟩
    have F2 := Lib.hid ((Fr.alloc (fun _ => False) W (.cells #[.int .i64 101, .int .i64 101] 3)).trans f2)
    have HL := Lib.hid (And.intro hgp hl)
    have ecap : (2 : Int) ≤ (cap : Int) := by omega
    have c0 : w2.cell? ⟨g, J * 6, none⟩ = some (.int .i64 3) := hl.2 0 _ rfl
    have c1 : w2.cell? ⟨g, J * 6 + 1, none⟩ = some (.bool x) := hl.2 1 _ rfl
    have c2 : w2.cell? ⟨g, J * 6 + 2, none⟩ = some (.int .i64 a) := hl.2 2 _ rfl
    have c3 : w2.cell? ⟨g, J * 6 + 3, none⟩ = some (.int .i64 0) := hl.2 3 _ rfl
    have c4 : w2.cell? ⟨g, J * 6 + 4, none⟩ = some (.int .i64 0) := hl.2 4 _ rfl
    have c5 : w2.cell? ⟨g, J * 6 + 5, none⟩ = some (.string ⟨#[]⟩) := hl.2 5 _ rfl
    have c6 : w2.cell? ⟨g, J * 6 + 6, none⟩ = some (.int .i64 3) := hl.2 6 _ rfl
    have c7 : w2.cell? ⟨g, J * 6 + 7, none⟩ = some (.bool y) := hl.2 7 _ rfl
    have c8 : w2.cell? ⟨g, J * 6 + 8, none⟩ = some (.int .i64 b) := hl.2 8 _ rfl
    have c9 : w2.cell? ⟨g, J * 6 + 9, none⟩ = some (.int .i64 0) := hl.2 9 _ rfl
    have c10 : w2.cell? ⟨g, J * 6 + 10, none⟩ = some (.int .i64 0) := hl.2 10 _ rfl
    have c11 : w2.cell? ⟨g, J * 6 + 11, none⟩ = some (.string ⟨#[]⟩) := hl.2 11 _ rfl
    clear TK f2 hl hgp hcap
    have X1 := Lib.hid (ABr.one w2 #[.int .i64 3, .bool x, .int .i64 a, .int .i64 0, .int .i64 0, .string ⟨#[]⟩] #[.int .i64 3, .bool y, .int .i64 b, .int .i64 0, .int .i64 0, .string ⟨#[]⟩])
    have X2 := Lib.hid (ABr.two w2 #[.int .i64 3, .bool x, .int .i64 a, .int .i64 0, .int .i64 0, .string ⟨#[]⟩] #[.int .i64 3, .bool y, .int .i64 b, .int .i64 0, .int .i64 0, .string ⟨#[]⟩])
    go_upto_region 4 with fail
    go_cut [7, 8] (fun sa sb wx => ∃ pa pb, sa = .pointer (some ⟨pa, 0, none⟩) ∧ sb = .pointer (some ⟨pb, 0, none⟩) ∧ Hid (ABr w2 [.int .i64 3, .bool x, .int .i64 a, .int .i64 0, .int .i64 0, .string ⟨#[]⟩] [.int .i64 3, .bool y, .int .i64 b, .int .i64 0, .int .i64 0, .string ⟨#[]⟩] pa pb wx))
    case first =>
      have hne := World.new_ne w2 _ c0
      go_region_held3 (fun Z => Z.cell? ⟨g, J * 6, none⟩ = some (.int .i64 3) ∧ Z.cell? ⟨g, J * 6 + 1, none⟩ = some (.bool x) ∧ Z.cell? ⟨g, J * 6 + 2, none⟩ = some (.int .i64 a) ∧ Z.cell? ⟨g, J * 6 + 3, none⟩ = some (.int .i64 0) ∧ Z.cell? ⟨g, J * 6 + 4, none⟩ = some (.int .i64 0) ∧ Z.cell? ⟨g, J * 6 + 5, none⟩ = some (.string ⟨#[]⟩) ∧ Z.cell? ⟨g, J * 6 + 6, none⟩ = some (.int .i64 3) ∧ Z.cell? ⟨g, J * 6 + 7, none⟩ = some (.bool y) ∧ Z.cell? ⟨g, J * 6 + 8, none⟩ = some (.int .i64 b) ∧ Z.cell? ⟨g, J * 6 + 9, none⟩ = some (.int .i64 0) ∧ Z.cell? ⟨g, J * 6 + 10, none⟩ = some (.int .i64 0) ∧ Z.cell? ⟨g, J * 6 + 11, none⟩ = some (.string ⟨#[]⟩)) (go_keep) (fail)
      all_goals
        go_wp2_with fail
        go_meet
        case rel => first | exact ⟨_, _, rfl, rfl, X1⟩ | exact ⟨_, _, rfl, rfl, X2⟩
    case rest =>
      obtain ⟨pa, pb, rfl, rfl, HAB⟩ := hcut
      clear X1 X2 c0 c1 c2 c3 c4 c5 c6 c7 c8 c9 c10 c11
      have a0 := HAB.out.1.at 0 _ rfl
      have b0 := HAB.out.2.1.at 0 _ rfl
      have a1 := HAB.out.1.at 1 _ rfl
      have b1 := HAB.out.2.1.at 1 _ rfl
      have a2 := HAB.out.1.at 2 _ rfl
      have b2 := HAB.out.2.1.at 2 _ rfl
      have a3 := HAB.out.1.at 3 _ rfl
      have b3 := HAB.out.2.1.at 3 _ rfl
      have a4 := HAB.out.1.at 4 _ rfl
      have b4 := HAB.out.2.1.at 4 _ rfl
      have a5 := HAB.out.1.at 5 _ rfl
      have b5 := HAB.out.2.1.at 5 _ rfl
      have FZ := Lib.hid (F2.out.trans HAB.out.2.2)
      clear HAB F2 HL
      go_wp2_with fail
      refine (CG.out _ (HS.out.fresh (FZ.out)) (Nat.le_trans HB.out (FZ.out).2.2.1)).mono ?_
      rintro e w8 ⟨rfl, hs, hf⟩
      have H8 := Lib.hid (And.intro hs ((Fr.weaken (FZ.out) (fun _ f => f.elim)).trans hf))
      clear hs hf CG
      go_wp2_with fail
      go_ret
      exact ⟨rfl, fun _ => H8.out.1, H8.out.2⟩
theorem rtwo_num (NM : ByteArray) (k0 k1 : Int) (q0 : k0 = 3 ∨ k0 = 4) (q1 : k1 = 3 ∨ k1 = 4) (a b : Int) (x y : Bool) (J : Nat) (hn : L.length = J + 2) (h0 : L[J + 0]? = some (k0, x, a, 0, 0, ⟨#[]⟩)) (h1 : L[J + 1]? = some (k1, y, b, 0, 0, ⟨#[]⟩)) (hm0 : Pl.mayO (k0, x, a, 0, 0, ⟨#[]⟩)) (hm1 : Pl.mayO (k1, y, b, 0, 0, ⟨#[]⟩)) (hk : k0 = 3 ∧ k1 = 3 → NM = ⟨#[100, 105, 118]⟩) (u v : Int) (ou ov : Bool) (hA : Pl.numv (k0, x, a, 0, 0, ⟨#[]⟩) = (u, ou)) (hB : Pl.numv (k1, y, b, 0, 0, ⟨#[]⟩) = (v, ov)) (hf : ou = false ∨ (ou = true ∧ ov = false)) :
    Calls Tryz.prog 62 #[.pointer (some ⟨p, 0, none⟩), .string NM] W fun e w' => RPost base p W (((2, L) : Int × List Pl.Ob)) e w' := by
  have hkk : ((k0 == 3) = true ∧ (k1 == 3) = false) ∨ (k0 == 3) = false ∨ ((k0 == 3) = true ∧ (k1 == 3) = true ∧ NM = ⟨#[100, 105, 118]⟩) := by
    rcases q0 with rfl | rfl
    · rcases q1 with rfl | rfl
      · exact .inr (.inr ⟨rfl, rfl, hk ⟨rfl, rfl⟩⟩)
      · exact .inl ⟨rfl, rfl⟩
    · exact .inr (.inl rfl)
  have NA : Hid (∀ Z, Calls Tryz.prog 90 #[.agg #[.int .i64 k0, .bool x, .int .i64 a, .int .i64 0, .int .i64 0, .string ⟨#[]⟩]] Z fun e w' => e = .returned (.tuple #[.int .i64 u, .bool ou]) ∧ Grown Z w') := Lib.hid (fun Z => by have := rnum_obj (k0, x, a, 0, 0, ⟨#[]⟩) hm0 q0 Z; rw [hA] at this; exact this)
  have NB : Hid (∀ Z, Calls Tryz.prog 90 #[.agg #[.int .i64 k1, .bool y, .int .i64 b, .int .i64 0, .int .i64 0, .string ⟨#[]⟩]] Z fun e w' => e = .returned (.tuple #[.int .i64 v, .bool ov]) ∧ Grown Z w') := Lib.hid (fun Z => by have := rnum_obj (k1, y, b, 0, 0, ⟨#[]⟩) hm1 q1 Z; rw [hB] at this; exact this)
  have HS := Lib.hid h
  have HB := Lib.hid hb
  have TK := Lib.hid (rtake2_ok base p L (W.alloc (.cells #[.int .i64 101, .int .i64 101] 3)) (by omega) (h.fresh (Fr.alloc _ _ _)) (k0, x, a, 0, 0, ⟨#[]⟩) (k1, y, b, 0, 0, ⟨#[]⟩) J hn h0 h1 W.heap.size 2 (Nat.le_refl _) 101 101 (.inr (.inl rfl)) (.inr (.inl rfl)) (by simp [go_sem]) (by simp [go_sem]) (by rcases q1 with rfl | rfl <;> rfl) (by rcases q0 with rfl | rfl <;> rfl))
  clear hlen h hn h0 h1 hb hm0 hm1 q0 q1 hA hB hk
  rcases hf with rfl | ⟨rfl, rfl⟩ <;> rcases hkk with ⟨e0, e1⟩ | e0 | ⟨e0, e1, rfl⟩
  all_goals
    go_enter Tryz.func62, Tryz.ntmps62
    go_wp2_with fail
    refine TK.out.mono ?_
    rintro e w2 ⟨f2, g, cap, hgp, hl, hcap, rfl⟩
    have F2 := Lib.hid ((Fr.alloc (fun _ => False) W (.cells #[.int .i64 101, .int .i64 101] 3)).trans f2)
    have HL := Lib.hid (And.intro hgp hl)
    have ecap : (2 : Int) ≤ (cap : Int) := by omega
    have c0 : w2.cell? ⟨g, J * 6, none⟩ = some (.int .i64 k0) := hl.2 0 _ rfl
    have c1 : w2.cell? ⟨g, J * 6 + 1, none⟩ = some (.bool x) := hl.2 1 _ rfl
    have c2 : w2.cell? ⟨g, J * 6 + 2, none⟩ = some (.int .i64 a) := hl.2 2 _ rfl
    have c3 : w2.cell? ⟨g, J * 6 + 3, none⟩ = some (.int .i64 0) := hl.2 3 _ rfl
    have c4 : w2.cell? ⟨g, J * 6 + 4, none⟩ = some (.int .i64 0) := hl.2 4 _ rfl
    have c5 : w2.cell? ⟨g, J * 6 + 5, none⟩ = some (.string ⟨#[]⟩) := hl.2 5 _ rfl
    have c6 : w2.cell? ⟨g, J * 6 + 6, none⟩ = some (.int .i64 k1) := hl.2 6 _ rfl
    have c7 : w2.cell? ⟨g, J * 6 + 7, none⟩ = some (.bool y) := hl.2 7 _ rfl
    have c8 : w2.cell? ⟨g, J * 6 + 8, none⟩ = some (.int .i64 b) := hl.2 8 _ rfl
    have c9 : w2.cell? ⟨g, J * 6 + 9, none⟩ = some (.int .i64 0) := hl.2 9 _ rfl
    have c10 : w2.cell? ⟨g, J * 6 + 10, none⟩ = some (.int .i64 0) := hl.2 10 _ rfl
    have c11 : w2.cell? ⟨g, J * 6 + 11, none⟩ = some (.string ⟨#[]⟩) := hl.2 11 _ rfl
    clear TK f2 hl hgp hcap
    have X1 := Lib.hid (ABr.one w2 #[.int .i64 k0, .bool x, .int .i64 a, .int .i64 0, .int .i64 0, .string ⟨#[]⟩] #[.int .i64 k1, .bool y, .int .i64 b, .int .i64 0, .int .i64 0, .string ⟨#[]⟩])
    have X2 := Lib.hid (ABr.two w2 #[.int .i64 k0, .bool x, .int .i64 a, .int .i64 0, .int .i64 0, .string ⟨#[]⟩] #[.int .i64 k1, .bool y, .int .i64 b, .int .i64 0, .int .i64 0, .string ⟨#[]⟩])
    go_upto_region 4 with fail
    go_cut [7, 8] (fun sa sb wx => ∃ pa pb, sa = .pointer (some ⟨pa, 0, none⟩) ∧ sb = .pointer (some ⟨pb, 0, none⟩) ∧ Hid (ABr w2 [.int .i64 k0, .bool x, .int .i64 a, .int .i64 0, .int .i64 0, .string ⟨#[]⟩] [.int .i64 k1, .bool y, .int .i64 b, .int .i64 0, .int .i64 0, .string ⟨#[]⟩] pa pb wx))
    case first =>
      have hne := World.new_ne w2 _ c0
      go_region_held3 (fun Z => Z.cell? ⟨g, J * 6, none⟩ = some (.int .i64 k0) ∧ Z.cell? ⟨g, J * 6 + 1, none⟩ = some (.bool x) ∧ Z.cell? ⟨g, J * 6 + 2, none⟩ = some (.int .i64 a) ∧ Z.cell? ⟨g, J * 6 + 3, none⟩ = some (.int .i64 0) ∧ Z.cell? ⟨g, J * 6 + 4, none⟩ = some (.int .i64 0) ∧ Z.cell? ⟨g, J * 6 + 5, none⟩ = some (.string ⟨#[]⟩) ∧ Z.cell? ⟨g, J * 6 + 6, none⟩ = some (.int .i64 k1) ∧ Z.cell? ⟨g, J * 6 + 7, none⟩ = some (.bool y) ∧ Z.cell? ⟨g, J * 6 + 8, none⟩ = some (.int .i64 b) ∧ Z.cell? ⟨g, J * 6 + 9, none⟩ = some (.int .i64 0) ∧ Z.cell? ⟨g, J * 6 + 10, none⟩ = some (.int .i64 0) ∧ Z.cell? ⟨g, J * 6 + 11, none⟩ = some (.string ⟨#[]⟩)) (go_keep) (fail)
      all_goals
        go_wp2_with fail
        go_meet
        case rel => first | exact ⟨_, _, rfl, rfl, X1⟩ | exact ⟨_, _, rfl, rfl, X2⟩
    case rest =>
      obtain ⟨pa, pb, rfl, rfl, HAB⟩ := hcut
      clear X1 X2 c0 c1 c2 c3 c4 c5 c6 c7 c8 c9 c10 c11
      have a0 := HAB.out.1.at 0 _ rfl
      have b0 := HAB.out.2.1.at 0 _ rfl
      have a1 := HAB.out.1.at 1 _ rfl
      have b1 := HAB.out.2.1.at 1 _ rfl
      have a2 := HAB.out.1.at 2 _ rfl
      have b2 := HAB.out.2.1.at 2 _ rfl
      have a3 := HAB.out.1.at 3 _ rfl
      have b3 := HAB.out.2.1.at 3 _ rfl
      have a4 := HAB.out.1.at 4 _ rfl
      have b4 := HAB.out.2.1.at 4 _ rfl
      have a5 := HAB.out.1.at 5 _ rfl
      have b5 := HAB.out.2.1.at 5 _ rfl
      have FZ := Lib.hid (F2.out.trans HAB.out.2.2)
      clear HAB F2 HL
      go_wp2_with fail
      refine (NA.out _).mono ?_
      rintro e w3 ⟨rfl, g3⟩
      have F3 := Lib.hid (FZ.out.trans (Fr.of_grown _ g3))
      have d0 := grown_cell g3 b0
      have d1 := grown_cell g3 b1
      have d2 := grown_cell g3 b2
      have d3 := grown_cell g3 b3
      have d4 := grown_cell g3 b4
      have d5 := grown_cell g3 b5
      clear g3 NA FZ a0 b0 a1 b1 a2 b2 a3 b3 a4 b4 a5 b5
      go_wp2_with fail
      refine (NB.out _).mono ?_
      rintro e w4 ⟨rfl, g4⟩
      have F4 := Lib.hid (F3.out.trans (Fr.of_grown _ g4))
      clear g4 NB F3 d0 d1 d2 d3 d4 d5
      go_wp2_with fail
      go_ret
      exact ⟨rfl, fun q => absurd q (by simp), F4.out.weaken (fun _ f => f.elim)⟩
theorem rtwo_fix (NM : ByteArray) (n : Int) (k0 k1 : Int) (q0 : k0 = 3 ∨ k0 = 4) (q1 : k1 = 3 ∨ k1 = 4) (a b : Int) (x y : Bool) (J : Nat) (hn : L.length = J + 2) (h0 : L[J + 0]? = some (k0, x, a, 0, 0, ⟨#[]⟩)) (h1 : L[J + 1]? = some (k1, y, b, 0, 0, ⟨#[]⟩)) (hm0 : Pl.mayO (k0, x, a, 0, 0, ⟨#[]⟩)) (hm1 : Pl.mayO (k1, y, b, 0, 0, ⟨#[]⟩)) (hk : k0 = 3 ∧ k1 = 3 → n = 14) (u v : Int) (hA : Pl.numv (k0, x, a, 0, 0, ⟨#[]⟩) = (u, true)) (hB : Pl.numv (k1, y, b, 0, 0, ⟨#[]⟩) = (v, true)) (fu : Pl.fx u) (fv : Pl.fx v) (hz : n = 14 → v ≠ 0) (hN : (n = 11 ∧ NM = ⟨#[97, 100, 100]⟩) ∨ (n = 12 ∧ NM = ⟨#[115, 117, 98]⟩) ∨ (n = 13 ∧ NM = ⟨#[109, 117, 108]⟩) ∨ (n = 14 ∧ NM = ⟨#[100, 105, 118]⟩)) :
    Calls Tryz.prog 62 #[.pointer (some ⟨p, 0, none⟩), .string NM] W fun e w' => RPost base p W (Pl.fixedR L 2 (Pl.f2 n u v).1 (Pl.f2 n u v).2) e w' := by
  have hkk : ((k0 == 3) = true ∧ (k1 == 3) = false) ∨ (k0 == 3) = false ∨ ((k0 == 3) = true ∧ (k1 == 3) = true ∧ n = 14) := by
    rcases q0 with rfl | rfl
    · rcases q1 with rfl | rfl
      · exact .inr (.inr ⟨rfl, rfl, hk ⟨rfl, rfl⟩⟩)
      · exact .inl ⟨rfl, rfl⟩
    · exact .inr (.inl rfl)
  have NA : Hid (∀ Z, Calls Tryz.prog 90 #[.agg #[.int .i64 k0, .bool x, .int .i64 a, .int .i64 0, .int .i64 0, .string ⟨#[]⟩]] Z fun e w' => e = .returned (.tuple #[.int .i64 u, .bool true]) ∧ Grown Z w') := Lib.hid (fun Z => by have := rnum_obj (k0, x, a, 0, 0, ⟨#[]⟩) hm0 q0 Z; rw [hA] at this; exact this)
  have NB : Hid (∀ Z, Calls Tryz.prog 90 #[.agg #[.int .i64 k1, .bool y, .int .i64 b, .int .i64 0, .int .i64 0, .string ⟨#[]⟩]] Z fun e w' => e = .returned (.tuple #[.int .i64 v, .bool true]) ∧ Grown Z w') := Lib.hid (fun Z => by have := rnum_obj (k1, y, b, 0, 0, ⟨#[]⟩) hm1 q1 Z; rw [hB] at this; exact this)
  have Xadd := Lib.hid (fun Z => rf2_add u v fu fv Z)
  have Xsub := Lib.hid (fun Z => rf2_sub u v fu fv Z)
  have Xmul := Lib.hid (fun Z => rf2_mul u v fu fv Z)
  have Xdiv := Lib.hid (fun Z (hz : v ≠ 0) => rf2_div u v fu fv Z hz)
  have HZ := Lib.hid hz
  have CG := Lib.hid (fun Z (hZ : RS base p L Z) (hbZ : base ≤ Z.heap.size) r ro => rgivefix_any base p L Z (by omega) hZ hbZ 2 (by omega) r ro)
  have HS := Lib.hid h
  have HB := Lib.hid hb
  have TK := Lib.hid (rtake2_ok base p L (W.alloc (.cells #[.int .i64 101, .int .i64 101] 3)) (by omega) (h.fresh (Fr.alloc _ _ _)) (k0, x, a, 0, 0, ⟨#[]⟩) (k1, y, b, 0, 0, ⟨#[]⟩) J hn h0 h1 W.heap.size 2 (Nat.le_refl _) 101 101 (.inr (.inl rfl)) (.inr (.inl rfl)) (by simp [go_sem]) (by simp [go_sem]) (by rcases q1 with rfl | rfl <;> rfl) (by rcases q0 with rfl | rfl <;> rfl))
  clear hlen h hn h0 h1 hb hm0 hm1 q0 q1 hA hB fu fv hk hz
  rcases hN with ⟨rfl, rfl⟩ | ⟨rfl, rfl⟩ | ⟨rfl, rfl⟩ | ⟨rfl, rfl⟩ <;> rcases hkk with ⟨e0, e1⟩ | e0 | ⟨e0, e1, e2⟩
  all_goals try exact absurd e2 (by decide)
  all_goals try (have hz0 : (v == 0) = false := beq_eq_false_iff_ne.2 (HZ.out rfl); have XD := Lib.hid (fun Z => Xdiv.out Z (HZ.out rfl)); clear Xdiv HZ)
  all_goals
    go_enter Tryz.func62, Tryz.ntmps62
    go_wp2_with fail
    refine TK.out.mono ?_
    rintro e w2 ⟨f2, g, cap, hgp, hl, hcap, rfl⟩
    have F2 := Lib.hid ((Fr.alloc (fun _ => False) W (.cells #[.int .i64 101, .int .i64 101] 3)).trans f2)
    have HL := Lib.hid (And.intro hgp hl)
    have ecap : (2 : Int) ≤ (cap : Int) := by omega
    have c0 : w2.cell? ⟨g, J * 6, none⟩ = some (.int .i64 k0) := hl.2 0 _ rfl
    have c1 : w2.cell? ⟨g, J * 6 + 1, none⟩ = some (.bool x) := hl.2 1 _ rfl
    have c2 : w2.cell? ⟨g, J * 6 + 2, none⟩ = some (.int .i64 a) := hl.2 2 _ rfl
    have c3 : w2.cell? ⟨g, J * 6 + 3, none⟩ = some (.int .i64 0) := hl.2 3 _ rfl
    have c4 : w2.cell? ⟨g, J * 6 + 4, none⟩ = some (.int .i64 0) := hl.2 4 _ rfl
    have c5 : w2.cell? ⟨g, J * 6 + 5, none⟩ = some (.string ⟨#[]⟩) := hl.2 5 _ rfl
    have c6 : w2.cell? ⟨g, J * 6 + 6, none⟩ = some (.int .i64 k1) := hl.2 6 _ rfl
    have c7 : w2.cell? ⟨g, J * 6 + 7, none⟩ = some (.bool y) := hl.2 7 _ rfl
    have c8 : w2.cell? ⟨g, J * 6 + 8, none⟩ = some (.int .i64 b) := hl.2 8 _ rfl
    have c9 : w2.cell? ⟨g, J * 6 + 9, none⟩ = some (.int .i64 0) := hl.2 9 _ rfl
    have c10 : w2.cell? ⟨g, J * 6 + 10, none⟩ = some (.int .i64 0) := hl.2 10 _ rfl
    have c11 : w2.cell? ⟨g, J * 6 + 11, none⟩ = some (.string ⟨#[]⟩) := hl.2 11 _ rfl
    clear TK f2 hl hgp hcap
    have X1 := Lib.hid (ABr.one w2 #[.int .i64 k0, .bool x, .int .i64 a, .int .i64 0, .int .i64 0, .string ⟨#[]⟩] #[.int .i64 k1, .bool y, .int .i64 b, .int .i64 0, .int .i64 0, .string ⟨#[]⟩])
    have X2 := Lib.hid (ABr.two w2 #[.int .i64 k0, .bool x, .int .i64 a, .int .i64 0, .int .i64 0, .string ⟨#[]⟩] #[.int .i64 k1, .bool y, .int .i64 b, .int .i64 0, .int .i64 0, .string ⟨#[]⟩])
    go_upto_region 4 with fail
    go_cut [7, 8] (fun sa sb wx => ∃ pa pb, sa = .pointer (some ⟨pa, 0, none⟩) ∧ sb = .pointer (some ⟨pb, 0, none⟩) ∧ Hid (ABr w2 [.int .i64 k0, .bool x, .int .i64 a, .int .i64 0, .int .i64 0, .string ⟨#[]⟩] [.int .i64 k1, .bool y, .int .i64 b, .int .i64 0, .int .i64 0, .string ⟨#[]⟩] pa pb wx))
    case first =>
      have hne := World.new_ne w2 _ c0
      go_region_held3 (fun Z => Z.cell? ⟨g, J * 6, none⟩ = some (.int .i64 k0) ∧ Z.cell? ⟨g, J * 6 + 1, none⟩ = some (.bool x) ∧ Z.cell? ⟨g, J * 6 + 2, none⟩ = some (.int .i64 a) ∧ Z.cell? ⟨g, J * 6 + 3, none⟩ = some (.int .i64 0) ∧ Z.cell? ⟨g, J * 6 + 4, none⟩ = some (.int .i64 0) ∧ Z.cell? ⟨g, J * 6 + 5, none⟩ = some (.string ⟨#[]⟩) ∧ Z.cell? ⟨g, J * 6 + 6, none⟩ = some (.int .i64 k1) ∧ Z.cell? ⟨g, J * 6 + 7, none⟩ = some (.bool y) ∧ Z.cell? ⟨g, J * 6 + 8, none⟩ = some (.int .i64 b) ∧ Z.cell? ⟨g, J * 6 + 9, none⟩ = some (.int .i64 0) ∧ Z.cell? ⟨g, J * 6 + 10, none⟩ = some (.int .i64 0) ∧ Z.cell? ⟨g, J * 6 + 11, none⟩ = some (.string ⟨#[]⟩)) (go_keep) (fail)
      all_goals
        go_wp2_with fail
        go_meet
        case rel => first | exact ⟨_, _, rfl, rfl, X1⟩ | exact ⟨_, _, rfl, rfl, X2⟩
    case rest =>
      obtain ⟨pa, pb, rfl, rfl, HAB⟩ := hcut
      clear X1 X2 c0 c1 c2 c3 c4 c5 c6 c7 c8 c9 c10 c11
      have a0 := HAB.out.1.at 0 _ rfl
      have b0 := HAB.out.2.1.at 0 _ rfl
      have a1 := HAB.out.1.at 1 _ rfl
      have b1 := HAB.out.2.1.at 1 _ rfl
      have a2 := HAB.out.1.at 2 _ rfl
      have b2 := HAB.out.2.1.at 2 _ rfl
      have a3 := HAB.out.1.at 3 _ rfl
      have b3 := HAB.out.2.1.at 3 _ rfl
      have a4 := HAB.out.1.at 4 _ rfl
      have b4 := HAB.out.2.1.at 4 _ rfl
      have a5 := HAB.out.1.at 5 _ rfl
      have b5 := HAB.out.2.1.at 5 _ rfl
      have FZ := Lib.hid (F2.out.trans HAB.out.2.2)
      clear HAB F2 HL
      go_wp2_with fail
      refine (NA.out _).mono ?_
      rintro e w3 ⟨rfl, g3⟩
      have F3 := Lib.hid (FZ.out.trans (Fr.of_grown _ g3))
      have d0 := grown_cell g3 b0
      have d1 := grown_cell g3 b1
      have d2 := grown_cell g3 b2
      have d3 := grown_cell g3 b3
      have d4 := grown_cell g3 b4
      have d5 := grown_cell g3 b5
      clear g3 NA FZ a0 b0 a1 b1 a2 b2 a3 b3 a4 b4 a5 b5
      go_wp2_with fail
      refine (NB.out _).mono ?_
      rintro e w4 ⟨rfl, g4⟩
      have F4 := Lib.hid (F3.out.trans (Fr.of_grown _ g4))
      clear g4 NB F3 d0 d1 d2 d3 d4 d5
      go_wp2_with fail
      first
        | refine (Xadd.out _).mono ?_
        | refine (Xsub.out _).mono ?_
        | refine (Xmul.out _).mono ?_
        | refine (XD.out _).mono ?_
      rintro e w5 ⟨rfl, g5⟩
      have F5 := Lib.hid (F4.out.trans (Fr.of_grown _ g5))
      clear g5 F4 Xadd Xsub Xmul
      go_wp2_with fail
      refine (CG.out _ (HS.out.fresh (F5.out)) (Nat.le_trans HB.out (F5.out).2.2.1) _ _).mono ?_
      rintro e w8 ⟨rfl, hs, hf⟩
      have H8 := Lib.hid (And.intro hs ((Fr.weaken (F5.out) (fun _ f => f.elim)).trans hf))
      clear hs hf CG
      go_wp2_with fail
      go_ret
      exact ⟨rfl, fun _ => H8.out.1, H8.out.2⟩
theorem rtwo_div_zero (k0 k1 : Int) (q0 : k0 = 3 ∨ k0 = 4) (q1 : k1 = 3 ∨ k1 = 4) (a b : Int) (x y : Bool) (J : Nat) (hn : L.length = J + 2) (h0 : L[J + 0]? = some (k0, x, a, 0, 0, ⟨#[]⟩)) (h1 : L[J + 1]? = some (k1, y, b, 0, 0, ⟨#[]⟩)) (hm0 : Pl.mayO (k0, x, a, 0, 0, ⟨#[]⟩)) (hm1 : Pl.mayO (k1, y, b, 0, 0, ⟨#[]⟩)) (u v : Int) (hA : Pl.numv (k0, x, a, 0, 0, ⟨#[]⟩) = (u, true)) (hB : Pl.numv (k1, y, b, 0, 0, ⟨#[]⟩) = (v, true)) (hz : v = 0) :
    Calls Tryz.prog 62 #[.pointer (some ⟨p, 0, none⟩), .string ⟨#[100, 105, 118]⟩] W fun e w' => RPost base p W (((19, L) : Int × List Pl.Ob)) e w' := by
  have hk : k0 = 3 ∧ k1 = 3 → True := fun _ => trivial
  have hkk : ((k0 == 3) = true ∧ (k1 == 3) = false) ∨ (k0 == 3) = false ∨ ((k0 == 3) = true ∧ (k1 == 3) = true ∧ True) := by
    rcases q0 with rfl | rfl
    · rcases q1 with rfl | rfl
      · exact .inr (.inr ⟨rfl, rfl, hk ⟨rfl, rfl⟩⟩)
      · exact .inl ⟨rfl, rfl⟩
    · exact .inr (.inl rfl)
  have NA : Hid (∀ Z, Calls Tryz.prog 90 #[.agg #[.int .i64 k0, .bool x, .int .i64 a, .int .i64 0, .int .i64 0, .string ⟨#[]⟩]] Z fun e w' => e = .returned (.tuple #[.int .i64 u, .bool true]) ∧ Grown Z w') := Lib.hid (fun Z => by have := rnum_obj (k0, x, a, 0, 0, ⟨#[]⟩) hm0 q0 Z; rw [hA] at this; exact this)
  have NB : Hid (∀ Z, Calls Tryz.prog 90 #[.agg #[.int .i64 k1, .bool y, .int .i64 b, .int .i64 0, .int .i64 0, .string ⟨#[]⟩]] Z fun e w' => e = .returned (.tuple #[.int .i64 v, .bool true]) ∧ Grown Z w') := Lib.hid (fun Z => by have := rnum_obj (k1, y, b, 0, 0, ⟨#[]⟩) hm1 q1 Z; rw [hB] at this; exact this)
  have hz0 : (v == 0) = true := beq_iff_eq.2 hz
  have HS := Lib.hid h
  have HB := Lib.hid hb
  have TK := Lib.hid (rtake2_ok base p L (W.alloc (.cells #[.int .i64 101, .int .i64 101] 3)) (by omega) (h.fresh (Fr.alloc _ _ _)) (k0, x, a, 0, 0, ⟨#[]⟩) (k1, y, b, 0, 0, ⟨#[]⟩) J hn h0 h1 W.heap.size 2 (Nat.le_refl _) 101 101 (.inr (.inl rfl)) (.inr (.inl rfl)) (by simp [go_sem]) (by simp [go_sem]) (by rcases q1 with rfl | rfl <;> rfl) (by rcases q0 with rfl | rfl <;> rfl))
  clear hlen h hn h0 h1 hb hm0 hm1 q0 q1 hA hB hz hk
  rcases hkk with ⟨e0, e1⟩ | e0 | ⟨e0, e1, _⟩
  all_goals
    go_enter Tryz.func62, Tryz.ntmps62
    go_wp2_with fail
    refine TK.out.mono ?_
    rintro e w2 ⟨f2, g, cap, hgp, hl, hcap, rfl⟩
    have F2 := Lib.hid ((Fr.alloc (fun _ => False) W (.cells #[.int .i64 101, .int .i64 101] 3)).trans f2)
    have HL := Lib.hid (And.intro hgp hl)
    have ecap : (2 : Int) ≤ (cap : Int) := by omega
    have c0 : w2.cell? ⟨g, J * 6, none⟩ = some (.int .i64 k0) := hl.2 0 _ rfl
    have c1 : w2.cell? ⟨g, J * 6 + 1, none⟩ = some (.bool x) := hl.2 1 _ rfl
    have c2 : w2.cell? ⟨g, J * 6 + 2, none⟩ = some (.int .i64 a) := hl.2 2 _ rfl
    have c3 : w2.cell? ⟨g, J * 6 + 3, none⟩ = some (.int .i64 0) := hl.2 3 _ rfl
    have c4 : w2.cell? ⟨g, J * 6 + 4, none⟩ = some (.int .i64 0) := hl.2 4 _ rfl
    have c5 : w2.cell? ⟨g, J * 6 + 5, none⟩ = some (.string ⟨#[]⟩) := hl.2 5 _ rfl
    have c6 : w2.cell? ⟨g, J * 6 + 6, none⟩ = some (.int .i64 k1) := hl.2 6 _ rfl
    have c7 : w2.cell? ⟨g, J * 6 + 7, none⟩ = some (.bool y) := hl.2 7 _ rfl
    have c8 : w2.cell? ⟨g, J * 6 + 8, none⟩ = some (.int .i64 b) := hl.2 8 _ rfl
    have c9 : w2.cell? ⟨g, J * 6 + 9, none⟩ = some (.int .i64 0) := hl.2 9 _ rfl
    have c10 : w2.cell? ⟨g, J * 6 + 10, none⟩ = some (.int .i64 0) := hl.2 10 _ rfl
    have c11 : w2.cell? ⟨g, J * 6 + 11, none⟩ = some (.string ⟨#[]⟩) := hl.2 11 _ rfl
    clear TK f2 hl hgp hcap
    have X1 := Lib.hid (ABr.one w2 #[.int .i64 k0, .bool x, .int .i64 a, .int .i64 0, .int .i64 0, .string ⟨#[]⟩] #[.int .i64 k1, .bool y, .int .i64 b, .int .i64 0, .int .i64 0, .string ⟨#[]⟩])
    have X2 := Lib.hid (ABr.two w2 #[.int .i64 k0, .bool x, .int .i64 a, .int .i64 0, .int .i64 0, .string ⟨#[]⟩] #[.int .i64 k1, .bool y, .int .i64 b, .int .i64 0, .int .i64 0, .string ⟨#[]⟩])
    go_upto_region 4 with fail
    go_cut [7, 8] (fun sa sb wx => ∃ pa pb, sa = .pointer (some ⟨pa, 0, none⟩) ∧ sb = .pointer (some ⟨pb, 0, none⟩) ∧ Hid (ABr w2 [.int .i64 k0, .bool x, .int .i64 a, .int .i64 0, .int .i64 0, .string ⟨#[]⟩] [.int .i64 k1, .bool y, .int .i64 b, .int .i64 0, .int .i64 0, .string ⟨#[]⟩] pa pb wx))
    case first =>
      have hne := World.new_ne w2 _ c0
      go_region_held3 (fun Z => Z.cell? ⟨g, J * 6, none⟩ = some (.int .i64 k0) ∧ Z.cell? ⟨g, J * 6 + 1, none⟩ = some (.bool x) ∧ Z.cell? ⟨g, J * 6 + 2, none⟩ = some (.int .i64 a) ∧ Z.cell? ⟨g, J * 6 + 3, none⟩ = some (.int .i64 0) ∧ Z.cell? ⟨g, J * 6 + 4, none⟩ = some (.int .i64 0) ∧ Z.cell? ⟨g, J * 6 + 5, none⟩ = some (.string ⟨#[]⟩) ∧ Z.cell? ⟨g, J * 6 + 6, none⟩ = some (.int .i64 k1) ∧ Z.cell? ⟨g, J * 6 + 7, none⟩ = some (.bool y) ∧ Z.cell? ⟨g, J * 6 + 8, none⟩ = some (.int .i64 b) ∧ Z.cell? ⟨g, J * 6 + 9, none⟩ = some (.int .i64 0) ∧ Z.cell? ⟨g, J * 6 + 10, none⟩ = some (.int .i64 0) ∧ Z.cell? ⟨g, J * 6 + 11, none⟩ = some (.string ⟨#[]⟩)) (go_keep) (fail)
      all_goals
        go_wp2_with fail
        go_meet
        case rel => first | exact ⟨_, _, rfl, rfl, X1⟩ | exact ⟨_, _, rfl, rfl, X2⟩
    case rest =>
      obtain ⟨pa, pb, rfl, rfl, HAB⟩ := hcut
      clear X1 X2 c0 c1 c2 c3 c4 c5 c6 c7 c8 c9 c10 c11
      have a0 := HAB.out.1.at 0 _ rfl
      have b0 := HAB.out.2.1.at 0 _ rfl
      have a1 := HAB.out.1.at 1 _ rfl
      have b1 := HAB.out.2.1.at 1 _ rfl
      have a2 := HAB.out.1.at 2 _ rfl
      have b2 := HAB.out.2.1.at 2 _ rfl
      have a3 := HAB.out.1.at 3 _ rfl
      have b3 := HAB.out.2.1.at 3 _ rfl
      have a4 := HAB.out.1.at 4 _ rfl
      have b4 := HAB.out.2.1.at 4 _ rfl
      have a5 := HAB.out.1.at 5 _ rfl
      have b5 := HAB.out.2.1.at 5 _ rfl
      have FZ := Lib.hid (F2.out.trans HAB.out.2.2)
      clear HAB F2 HL
      go_wp2_with fail
      refine (NA.out _).mono ?_
      rintro e w3 ⟨rfl, g3⟩
      have F3 := Lib.hid (FZ.out.trans (Fr.of_grown _ g3))
      have d0 := grown_cell g3 b0
      have d1 := grown_cell g3 b1
      have d2 := grown_cell g3 b2
      have d3 := grown_cell g3 b3
      have d4 := grown_cell g3 b4
      have d5 := grown_cell g3 b5
      clear g3 NA FZ a0 b0 a1 b1 a2 b2 a3 b3 a4 b4 a5 b5
      go_wp2_with fail
      refine (NB.out _).mono ?_
      rintro e w4 ⟨rfl, g4⟩
      have F4 := Lib.hid (F3.out.trans (Fr.of_grown _ g4))
      clear g4 NB F3 d0 d1 d2 d3 d4 d5
      go_wp2_with fail
      go_ret
      exact ⟨rfl, fun q => absurd q (by simp), F4.out.weaken (fun _ f => f.elim)⟩
end
end Go.Proofs.YtfmmomdmemcbbaaGreat
