/- The reference's most: min, max, atan. -/
import Derived.Test.YtfmmomdmemcbbaaGreatZ3
import Derived.Test.YtfmmomdmemcbbaaGreatZ2
set_option maxHeartbeats 4000000
set_option maxRecDepth 100000
namespace Go.Proofs.YtfmmomdmemcbbaaGreat
set_option linter.unusedVariables false
open Go.RowKit
section
variable (base p : Nat) (L : List Pl.Ob) (W : World) (hlen : L.length ≤ 200) (h : RS base p L W) (hb : base ≤ W.heap.size)
include hlen h hb
omit hb hlen in
theorem rmost_under (NM : ByteArray) (hL : L.length < 2) :
    Calls Tryz.prog 66 #[.pointer (some ⟨p, 0, none⟩), .string NM] W fun e w' => RPost base p W (((7, L) : Int × List Pl.Ob)) e w' := by
  have TK := Lib.hid (rtake_under base p L (W.alloc (.cells #[.int .i64 101, .int .i64 101] 3)) (h.fresh (Fr.alloc _ _ _)) 2 (by omega) hL W.heap.size 2)
  clear h hL
  go_enter Tryz.func66, Tryz.ntmps66
  go_wp2_with fail
  refine TK.out.mono ?_
  rintro e w2 ⟨rfl, f2⟩
  have F2 := Lib.hid ((Fr.alloc (fun _ => False) W (.cells #[.int .i64 101, .int .i64 101] 3)).trans f2)
  clear TK f2
  go_wp2_with fail
  go_ret
  exact ⟨rfl, fun q => absurd q (by simp), F2.out.weaken (fun _ f => f.elim)⟩
omit hb in
theorem rmost_bad (NM : ByteArray) (o0 o1 : Pl.Ob) (J : Nat) (hn : L.length = J + 2) (h0 : L[J + 0]? = some o0) (h1 : L[J + 1]? = some o1) (f1 : Pl.rfits 101 o1.1 = false) :
    Calls Tryz.prog 66 #[.pointer (some ⟨p, 0, none⟩), .string NM] W fun e w' => RPost base p W (((6, L) : Int × List Pl.Ob)) e w' := by
  have TK := Lib.hid (rtake2_bad base p L (W.alloc (.cells #[.int .i64 101, .int .i64 101] 3)) (by omega) (h.fresh (Fr.alloc _ _ _)) o0 o1 J hn h0 h1 W.heap.size 2 (Nat.le_refl _) 101 101 (.inr (.inl rfl)) (.inr (.inl rfl)) (by simp [go_sem]) (by simp [go_sem]) f1)
  clear hlen h hn h0 h1 f1
  go_enter Tryz.func66, Tryz.ntmps66
  go_wp2_with fail
  refine TK.out.mono ?_
  rintro e w2 ⟨rfl, f2⟩
  have F2 := Lib.hid ((Fr.alloc (fun _ => False) W (.cells #[.int .i64 101, .int .i64 101] 3)).trans f2)
  clear TK f2
  go_wp2_with fail
  go_ret
  exact ⟨rfl, fun q => absurd q (by simp), F2.out.weaken (fun _ f => f.elim)⟩
omit hb in
theorem rmost_bad0 (NM : ByteArray) (o0 o1 : Pl.Ob) (J : Nat) (hn : L.length = J + 2) (h0 : L[J + 0]? = some o0) (h1 : L[J + 1]? = some o1) (f1 : Pl.rfits 101 o1.1 = true) (f0 : Pl.rfits 101 o0.1 = false) :
    Calls Tryz.prog 66 #[.pointer (some ⟨p, 0, none⟩), .string NM] W fun e w' => RPost base p W (((6, L) : Int × List Pl.Ob)) e w' := by
  have TK := Lib.hid (rtake2_bad0 base p L (W.alloc (.cells #[.int .i64 101, .int .i64 101] 3)) (by omega) (h.fresh (Fr.alloc _ _ _)) o0 o1 J hn h0 h1 W.heap.size 2 (Nat.le_refl _) 101 101 (.inr (.inl rfl)) (.inr (.inl rfl)) (by simp [go_sem]) (by simp [go_sem]) f1 f0)
  clear hlen h hn h0 h1 f1 f0
  go_enter Tryz.func66, Tryz.ntmps66
  go_wp2_with fail
  refine TK.out.mono ?_
  rintro e w2 ⟨rfl, f2⟩
  have F2 := Lib.hid ((Fr.alloc (fun _ => False) W (.cells #[.int .i64 101, .int .i64 101] 3)).trans f2)
  clear TK f2
  go_wp2_with fail
  go_ret
  exact ⟨rfl, fun q => absurd q (by simp), F2.out.weaken (fun _ f => f.elim)⟩
theorem rmost_num (k0 k1 : Int) (q0 : k0 = 3 ∨ k0 = 4) (q1 : k1 = 3 ∨ k1 = 4) (a b : Int) (x y : Bool) (J : Nat) (hn : L.length = J + 2) (h0 : L[J + 0]? = some (k0, x, a, 0, 0, ⟨#[]⟩)) (h1 : L[J + 1]? = some (k1, y, b, 0, 0, ⟨#[]⟩)) (hm0 : Pl.mayO (k0, x, a, 0, 0, ⟨#[]⟩)) (hm1 : Pl.mayO (k1, y, b, 0, 0, ⟨#[]⟩)) (u v : Int) (ou ov : Bool) (hA : Pl.numv (k0, x, a, 0, 0, ⟨#[]⟩) = (u, ou)) (hB : Pl.numv (k1, y, b, 0, 0, ⟨#[]⟩) = (v, ov)) (hf : ou = false ∨ (ou = true ∧ ov = false)) :
    Calls Tryz.prog 66 #[.pointer (some ⟨p, 0, none⟩), .string ⟨#[97, 116, 97, 110]⟩] W fun e w' => RPost base p W (((2, L) : Int × List Pl.Ob)) e w' := by
  have NA : Hid (∀ Z, Calls Tryz.prog 90 #[.agg #[.int .i64 k0, .bool x, .int .i64 a, .int .i64 0, .int .i64 0, .string ⟨#[]⟩]] Z fun e w' => e = .returned (.tuple #[.int .i64 u, .bool ou]) ∧ Grown Z w') := Lib.hid (fun Z => by have := rnum_obj (k0, x, a, 0, 0, ⟨#[]⟩) hm0 q0 Z; rw [hA] at this; exact this)
  have NB : Hid (∀ Z, Calls Tryz.prog 90 #[.agg #[.int .i64 k1, .bool y, .int .i64 b, .int .i64 0, .int .i64 0, .string ⟨#[]⟩]] Z fun e w' => e = .returned (.tuple #[.int .i64 v, .bool ov]) ∧ Grown Z w') := Lib.hid (fun Z => by have := rnum_obj (k1, y, b, 0, 0, ⟨#[]⟩) hm1 q1 Z; rw [hB] at this; exact this)
  have HS := Lib.hid h
  have HB := Lib.hid hb
  have TK := Lib.hid (rtake2_ok base p L (W.alloc (.cells #[.int .i64 101, .int .i64 101] 3)) (by omega) (h.fresh (Fr.alloc _ _ _)) (k0, x, a, 0, 0, ⟨#[]⟩) (k1, y, b, 0, 0, ⟨#[]⟩) J hn h0 h1 W.heap.size 2 (Nat.le_refl _) 101 101 (.inr (.inl rfl)) (.inr (.inl rfl)) (by simp [go_sem]) (by simp [go_sem]) (by rcases q1 with rfl | rfl <;> rfl) (by rcases q0 with rfl | rfl <;> rfl))
  clear hlen h hn h0 h1 hb hm0 hm1 q0 q1 hA hB
  rcases hf with rfl | ⟨rfl, rfl⟩
  all_goals
    go_enter Tryz.func66, Tryz.ntmps66
    go_wp2_with fail
    refine TK.out.mono ?_
    rintro e w2 ⟨f2, g, cap, hgp, hl, hcap, rfl⟩
    have F2 := Lib.hid ((Fr.alloc (fun _ => False) W (.cells #[.int .i64 101, .int .i64 101] 3)).trans f2)
    have HL := Lib.hid (And.intro hgp hl)
    have ecap : (2 : Int) ≤ (cap : Int) := by omega
    have c0 : w2.cell? ⟨g, J * 6, none⟩ = some (.int .i64 k0) := hl.2 0 _ rfl
    have c1 : w2.cell? ⟨g, J * 6 + 1, none⟩ = some (.bool x) := hl.2 1 _ rfl
    have c2 : w2.cell? ⟨g, J * 6 + 2, none⟩ = some (.int .i64 a) := hl.2 2 _ rfl
    have c3 : w2.cell? ⟨g, J * 6 + 3, none⟩ = some (.int .i64 0) := hl.2 3 _ rfl
    have c4 : w2.cell? ⟨g, J * 6 + 4, none⟩ = some (.int .i64 0) := hl.2 4 _ rfl
    have c5 : w2.cell? ⟨g, J * 6 + 5, none⟩ = some (.string ⟨#[]⟩) := hl.2 5 _ rfl
    have c6 : w2.cell? ⟨g, J * 6 + 6, none⟩ = some (.int .i64 k1) := hl.2 6 _ rfl
    have c7 : w2.cell? ⟨g, J * 6 + 7, none⟩ = some (.bool y) := hl.2 7 _ rfl
    have c8 : w2.cell? ⟨g, J * 6 + 8, none⟩ = some (.int .i64 b) := hl.2 8 _ rfl
    have c9 : w2.cell? ⟨g, J * 6 + 9, none⟩ = some (.int .i64 0) := hl.2 9 _ rfl
    have c10 : w2.cell? ⟨g, J * 6 + 10, none⟩ = some (.int .i64 0) := hl.2 10 _ rfl
    have c11 : w2.cell? ⟨g, J * 6 + 11, none⟩ = some (.string ⟨#[]⟩) := hl.2 11 _ rfl
    clear TK f2 hl hgp hcap
    go_wp2_with fail
    refine (NA.out _).mono ?_
    rintro e w3 ⟨rfl, g3⟩
    have F3 := Lib.hid (F2.out.trans (Fr.of_grown _ g3))
    have d6 := grown_cell g3 c6
    have d7 := grown_cell g3 c7
    have d8 := grown_cell g3 c8
    have d9 := grown_cell g3 c9
    have d10 := grown_cell g3 c10
    have d11 := grown_cell g3 c11
    clear g3 NA F2 HL c0 c1 c2 c3 c4 c5 c6 c7 c8 c9 c10 c11
    go_wp2_with fail
    refine (NB.out _).mono ?_
    rintro e w4 ⟨rfl, g4⟩
    have F4 := Lib.hid (F3.out.trans (Fr.of_grown _ g4))
    clear g4 NB F3 d6 d7 d8 d9 d10 d11
    go_wp2_with fail
    go_ret
    exact ⟨rfl, fun q => absurd q (by simp), F4.out.weaken (fun _ f => f.elim)⟩
theorem rmost_atan (k0 k1 : Int) (q0 : k0 = 3 ∨ k0 = 4) (q1 : k1 = 3 ∨ k1 = 4) (a b : Int) (x y : Bool) (J : Nat) (hn : L.length = J + 2) (h0 : L[J + 0]? = some (k0, x, a, 0, 0, ⟨#[]⟩)) (h1 : L[J + 1]? = some (k1, y, b, 0, 0, ⟨#[]⟩)) (hm0 : Pl.mayO (k0, x, a, 0, 0, ⟨#[]⟩)) (hm1 : Pl.mayO (k1, y, b, 0, 0, ⟨#[]⟩)) (u v : Int) (hA : Pl.numv (k0, x, a, 0, 0, ⟨#[]⟩) = (u, true)) (hB : Pl.numv (k1, y, b, 0, 0, ⟨#[]⟩) = (v, true)) (fu : Pl.fx u) (fv : Pl.fx v) :
    Calls Tryz.prog 66 #[.pointer (some ⟨p, 0, none⟩), .string ⟨#[97, 116, 97, 110]⟩] W fun e w' => RPost base p W (Pl.fixedR L 2 (Pl.f2 26 u v).1 (Pl.f2 26 u v).2) e w' := by
  have NA : Hid (∀ Z, Calls Tryz.prog 90 #[.agg #[.int .i64 k0, .bool x, .int .i64 a, .int .i64 0, .int .i64 0, .string ⟨#[]⟩]] Z fun e w' => e = .returned (.tuple #[.int .i64 u, .bool true]) ∧ Grown Z w') := Lib.hid (fun Z => by have := rnum_obj (k0, x, a, 0, 0, ⟨#[]⟩) hm0 q0 Z; rw [hA] at this; exact this)
  have NB : Hid (∀ Z, Calls Tryz.prog 90 #[.agg #[.int .i64 k1, .bool y, .int .i64 b, .int .i64 0, .int .i64 0, .string ⟨#[]⟩]] Z fun e w' => e = .returned (.tuple #[.int .i64 v, .bool true]) ∧ Grown Z w') := Lib.hid (fun Z => by have := rnum_obj (k1, y, b, 0, 0, ⟨#[]⟩) hm1 q1 Z; rw [hB] at this; exact this)
  have FX := Lib.hid (fun Z => rf2_dir u v fu fv Z)
  obtain ⟨r, ro, hr⟩ : ∃ r ro, Pl.f2 26 u v = (r, ro) := ⟨_, _, rfl⟩
  rw [hr] at FX ⊢
  have CG := Lib.hid (fun Z (hZ : RS base p L Z) (hbZ : base ≤ Z.heap.size) => rgivefix_any base p L Z (by omega) hZ hbZ 2 (by omega) (r) ro)
  have HS := Lib.hid h
  have HB := Lib.hid hb
  have TK := Lib.hid (rtake2_ok base p L (W.alloc (.cells #[.int .i64 101, .int .i64 101] 3)) (by omega) (h.fresh (Fr.alloc _ _ _)) (k0, x, a, 0, 0, ⟨#[]⟩) (k1, y, b, 0, 0, ⟨#[]⟩) J hn h0 h1 W.heap.size 2 (Nat.le_refl _) 101 101 (.inr (.inl rfl)) (.inr (.inl rfl)) (by simp [go_sem]) (by simp [go_sem]) (by rcases q1 with rfl | rfl <;> rfl) (by rcases q0 with rfl | rfl <;> rfl))
  clear hlen h hn h0 h1 hb hm0 hm1 q0 q1 hA hB fu fv hr
  go_enter Tryz.func66, Tryz.ntmps66
  go_wp2_with fail
  refine TK.out.mono ?_
  rintro e w2 ⟨f2, g, cap, hgp, hl, hcap, rfl⟩
  have F2 := Lib.hid ((Fr.alloc (fun _ => False) W (.cells #[.int .i64 101, .int .i64 101] 3)).trans f2)
  have HL := Lib.hid (And.intro hgp hl)
  have ecap : (2 : Int) ≤ (cap : Int) := by omega
  have c0 : w2.cell? ⟨g, J * 6, none⟩ = some (.int .i64 k0) := hl.2 0 _ rfl
  have c1 : w2.cell? ⟨g, J * 6 + 1, none⟩ = some (.bool x) := hl.2 1 _ rfl
  have c2 : w2.cell? ⟨g, J * 6 + 2, none⟩ = some (.int .i64 a) := hl.2 2 _ rfl
  have c3 : w2.cell? ⟨g, J * 6 + 3, none⟩ = some (.int .i64 0) := hl.2 3 _ rfl
  have c4 : w2.cell? ⟨g, J * 6 + 4, none⟩ = some (.int .i64 0) := hl.2 4 _ rfl
  have c5 : w2.cell? ⟨g, J * 6 + 5, none⟩ = some (.string ⟨#[]⟩) := hl.2 5 _ rfl
  have c6 : w2.cell? ⟨g, J * 6 + 6, none⟩ = some (.int .i64 k1) := hl.2 6 _ rfl
  have c7 : w2.cell? ⟨g, J * 6 + 7, none⟩ = some (.bool y) := hl.2 7 _ rfl
  have c8 : w2.cell? ⟨g, J * 6 + 8, none⟩ = some (.int .i64 b) := hl.2 8 _ rfl
  have c9 : w2.cell? ⟨g, J * 6 + 9, none⟩ = some (.int .i64 0) := hl.2 9 _ rfl
  have c10 : w2.cell? ⟨g, J * 6 + 10, none⟩ = some (.int .i64 0) := hl.2 10 _ rfl
  have c11 : w2.cell? ⟨g, J * 6 + 11, none⟩ = some (.string ⟨#[]⟩) := hl.2 11 _ rfl
  clear TK f2 hl hgp hcap
  go_wp2_with fail
  refine (NA.out _).mono ?_
  rintro e w3 ⟨rfl, g3⟩
  have F3 := Lib.hid (F2.out.trans (Fr.of_grown _ g3))
  have d6 := grown_cell g3 c6
  have d7 := grown_cell g3 c7
  have d8 := grown_cell g3 c8
  have d9 := grown_cell g3 c9
  have d10 := grown_cell g3 c10
  have d11 := grown_cell g3 c11
  clear g3 NA F2 HL c0 c1 c2 c3 c4 c5 c6 c7 c8 c9 c10 c11
  go_wp2_with fail
  refine (NB.out _).mono ?_
  rintro e w4 ⟨rfl, g4⟩
  have F4 := Lib.hid (F3.out.trans (Fr.of_grown _ g4))
  clear g4 NB F3 d6 d7 d8 d9 d10 d11
  go_wp2_with fail
  refine (FX.out _).mono ?_
  rintro e w5 ⟨rfl, g5⟩
  have F5 := Lib.hid (F4.out.trans (Fr.of_grown _ g5))
  clear g5 FX F4
  go_wp2_with fail
  refine (CG.out _ (HS.out.fresh (F5.out)) (Nat.le_trans HB.out (F5.out).2.2.1)).mono ?_
  rintro e w8 ⟨rfl, hs, hf⟩
  have H8 := Lib.hid (And.intro hs ((Fr.weaken (F5.out) (fun _ f => f.elim)).trans hf))
  clear hs hf CG
  go_wp2_with fail
  go_ret
  exact ⟨rfl, fun _ => H8.out.1, H8.out.2⟩
theorem rmost_second (NM : ByteArray) (k0 k1 : Int) (q0 : k0 = 3 ∨ k0 = 4) (q1 : k1 = 3 ∨ k1 = 4) (a b : Int) (x y : Bool) (J : Nat) (hn : L.length = J + 2) (h0 : L[J + 0]? = some (k0, x, a, 0, 0, ⟨#[]⟩)) (h1 : L[J + 1]? = some (k1, y, b, 0, 0, ⟨#[]⟩)) (hm0 : Pl.mayO (k0, x, a, 0, 0, ⟨#[]⟩)) (hm1 : Pl.mayO (k1, y, b, 0, 0, ⟨#[]⟩)) (i0 : Pl.isn k0 a) (i1 : Pl.isn k1 b) (t s : Bool) (ht : decide (Pl.sz k1 b < Pl.sz k0 a) = t) (hs : decide (Pl.sz k0 a < Pl.sz k1 b) = s) (hN : (NM = ⟨#[109, 105, 110]⟩ ∧ t = true) ∨ (NM = ⟨#[109, 97, 120]⟩ ∧ s = true)) :
    Calls Tryz.prog 66 #[.pointer (some ⟨p, 0, none⟩), .string NM] W fun e w' => RPost base p W (Pl.giveR L 2 [(k1, y, b, 0, 0, ⟨#[]⟩)]) e w' := by
  have LA : Hid (∀ Z, Calls Tryz.prog 105 #[.agg #[.int .i64 k1, .bool y, .int .i64 b, .int .i64 0, .int .i64 0, .string ⟨#[]⟩], .agg #[.int .i64 k0, .bool x, .int .i64 a, .int .i64 0, .int .i64 0, .string ⟨#[]⟩]] Z fun e w' => e = .returned (.tuple #[.bool t, .bool true]) ∧ Grown Z w') := Lib.hid (fun Z => by have := rless_num k1 y b i1 k0 x a i0 Z; rw [ht] at this; exact this)
  have LB : Hid (∀ Z, Calls Tryz.prog 105 #[.agg #[.int .i64 k0, .bool x, .int .i64 a, .int .i64 0, .int .i64 0, .string ⟨#[]⟩], .agg #[.int .i64 k1, .bool y, .int .i64 b, .int .i64 0, .int .i64 0, .string ⟨#[]⟩]] Z fun e w' => e = .returned (.tuple #[.bool s, .bool true]) ∧ Grown Z w') := Lib.hid (fun Z => by have := rless_num k0 x a i0 k1 y b i1 Z; rw [hs] at this; exact this)
  have CG := Lib.hid (fun Z (hZ : RS base p L Z) (hbZ : base ≤ Z.heap.size) u (hR : RowV Z u [(k1, y, b, 0, 0, ⟨#[]⟩)]) => rgive_any base p L Z (by omega) hZ hbZ 2 (by omega) [(k1, y, b, 0, 0, ⟨#[]⟩)] (by simp) u hR)
  have RN := Lib.hid (fun Z => And.intro (row_new Z [(k1, y, b, 0, 0, ⟨#[]⟩)] #[.int .i64 k1, .bool y, .int .i64 b, .int .i64 0, .int .i64 0, .string ⟨#[]⟩] rfl 1 rfl) (Fr.alloc (fun _ => False) Z (.cells #[.int .i64 k1, .bool y, .int .i64 b, .int .i64 0, .int .i64 0, .string ⟨#[]⟩] 25)))
  have HS := Lib.hid h
  have HB := Lib.hid hb
  have TK := Lib.hid (rtake2_ok base p L (W.alloc (.cells #[.int .i64 101, .int .i64 101] 3)) (by omega) (h.fresh (Fr.alloc _ _ _)) (k0, x, a, 0, 0, ⟨#[]⟩) (k1, y, b, 0, 0, ⟨#[]⟩) J hn h0 h1 W.heap.size 2 (Nat.le_refl _) 101 101 (.inr (.inl rfl)) (.inr (.inl rfl)) (by simp [go_sem]) (by simp [go_sem]) (by rcases q1 with rfl | rfl <;> rfl) (by rcases q0 with rfl | rfl <;> rfl))
  clear hlen h hn h0 h1 hb hm0 hm1 q0 q1 i0 i1 ht hs
  rcases hN with ⟨rfl, rfl⟩ | ⟨rfl, rfl⟩
  all_goals
    go_enter Tryz.func66, Tryz.ntmps66
    go_wp2_with fail
    refine TK.out.mono ?_
    rintro e w2 ⟨f2, g, cap, hgp, hl, hcap, rfl⟩
    have F2 := Lib.hid ((Fr.alloc (fun _ => False) W (.cells #[.int .i64 101, .int .i64 101] 3)).trans f2)
    have HL := Lib.hid (And.intro hgp hl)
    have ecap : (2 : Int) ≤ (cap : Int) := by omega
    obtain ⟨C, hC⟩ : ∃ C : World → Prop, C = Cells w2 [((⟨g, J * 6, none⟩ : Addr), (.int .i64 k0 : Value)), ((⟨g, J * 6 + 1, none⟩ : Addr), (.bool x : Value)), ((⟨g, J * 6 + 2, none⟩ : Addr), (.int .i64 a : Value)), ((⟨g, J * 6 + 3, none⟩ : Addr), (.int .i64 0 : Value)), ((⟨g, J * 6 + 4, none⟩ : Addr), (.int .i64 0 : Value)), ((⟨g, J * 6 + 5, none⟩ : Addr), (.string ⟨#[]⟩ : Value)), ((⟨g, J * 6 + 6, none⟩ : Addr), (.int .i64 k1 : Value)), ((⟨g, J * 6 + 7, none⟩ : Addr), (.bool y : Value)), ((⟨g, J * 6 + 8, none⟩ : Addr), (.int .i64 b : Value)), ((⟨g, J * 6 + 9, none⟩ : Addr), (.int .i64 0 : Value)), ((⟨g, J * 6 + 10, none⟩ : Addr), (.int .i64 0 : Value)), ((⟨g, J * 6 + 11, none⟩ : Addr), (.string ⟨#[]⟩ : Value))] := ⟨_, rfl⟩
    have HC0 : Hid (C w2) := Lib.hid (by rw [hC]; exact ⟨(hl.2 0 _ rfl), (hl.2 1 _ rfl), (hl.2 2 _ rfl), (hl.2 3 _ rfl), (hl.2 4 _ rfl), (hl.2 5 _ rfl), (hl.2 6 _ rfl), (hl.2 7 _ rfl), (hl.2 8 _ rfl), (hl.2 9 _ rfl), (hl.2 10 _ rfl), (hl.2 11 _ rfl), Fr.refl _ _⟩)
    have T0 : ∀ Z, C Z → Z.cell? ⟨g, J * 6, none⟩ = some (.int .i64 k0) := fun Z h => by rw [hC] at h; exact h.1
    have T1 : ∀ Z, C Z → Z.cell? ⟨g, J * 6 + 1, none⟩ = some (.bool x) := fun Z h => by rw [hC] at h; exact h.2.1
    have T2 : ∀ Z, C Z → Z.cell? ⟨g, J * 6 + 2, none⟩ = some (.int .i64 a) := fun Z h => by rw [hC] at h; exact h.2.2.1
    have T3 : ∀ Z, C Z → Z.cell? ⟨g, J * 6 + 3, none⟩ = some (.int .i64 0) := fun Z h => by rw [hC] at h; exact h.2.2.2.1
    have T4 : ∀ Z, C Z → Z.cell? ⟨g, J * 6 + 4, none⟩ = some (.int .i64 0) := fun Z h => by rw [hC] at h; exact h.2.2.2.2.1
    have T5 : ∀ Z, C Z → Z.cell? ⟨g, J * 6 + 5, none⟩ = some (.string ⟨#[]⟩) := fun Z h => by rw [hC] at h; exact h.2.2.2.2.2.1
    have T6 : ∀ Z, C Z → Z.cell? ⟨g, J * 6 + 6, none⟩ = some (.int .i64 k1) := fun Z h => by rw [hC] at h; exact h.2.2.2.2.2.2.1
    have T7 : ∀ Z, C Z → Z.cell? ⟨g, J * 6 + 7, none⟩ = some (.bool y) := fun Z h => by rw [hC] at h; exact h.2.2.2.2.2.2.2.1
    have T8 : ∀ Z, C Z → Z.cell? ⟨g, J * 6 + 8, none⟩ = some (.int .i64 b) := fun Z h => by rw [hC] at h; exact h.2.2.2.2.2.2.2.2.1
    have T9 : ∀ Z, C Z → Z.cell? ⟨g, J * 6 + 9, none⟩ = some (.int .i64 0) := fun Z h => by rw [hC] at h; exact h.2.2.2.2.2.2.2.2.2.1
    have T10 : ∀ Z, C Z → Z.cell? ⟨g, J * 6 + 10, none⟩ = some (.int .i64 0) := fun Z h => by rw [hC] at h; exact h.2.2.2.2.2.2.2.2.2.2.1
    have T11 : ∀ Z, C Z → Z.cell? ⟨g, J * 6 + 11, none⟩ = some (.string ⟨#[]⟩) := fun Z h => by rw [hC] at h; exact h.2.2.2.2.2.2.2.2.2.2.2.1
    have CF : Hid (∀ Z Z', C Z → Fr (fun _ => False) Z Z' → C Z') := Lib.hid (fun Z Z' h k => by rw [hC] at h ⊢; exact h.fr k)
    have TF : Hid (∀ Z, C Z → Fr (fun _ => False) w2 Z) := Lib.hid (fun Z h => by rw [hC] at h; exact h.frame)
    clear hC
    clear TK f2 hl hgp hcap
    have KA := Lib.hid (fun Z (h : C Z) => (LA.out Z).mono fun en w' hh => (⟨hh.1, CF.out _ _ h (Fr.of_grown _ hh.2)⟩ : _ ∧ C w'))
    have KB := Lib.hid (fun Z (h : C Z) => (LB.out Z).mono fun en w' hh => (⟨hh.1, CF.out _ _ h (Fr.of_grown _ hh.2)⟩ : _ ∧ C w'))
    clear LA LB
    go_wp2_with fail
    refine wp_region_class (C := C) (by kernel_rfl) (by kernel_rfl) (CF.out _ _ HC0.out ((Fr.refl _ _).drew)) ?_
    repeat
      first
        | (refine quiet_no (by rfl) ?_
           try simp only [Act.put, List.setIfInBounds_toArray, List.set_cons_zero, List.set_cons_succ])
        | (refine quiet_yes ?_ (by rfl) (fun Z hZ => ?_) ?_
           rotate_left
           · unfold qAt Oper.quietAt
             first
               | (go_simp
                  (all_goals first | with_reducible rfl | (with_reducible exact KA.out Z hZ))
                  done)
               | (have t0 := T0 Z hZ; have t1 := T1 Z hZ; have t2 := T2 Z hZ; have t3 := T3 Z hZ; have t4 := T4 Z hZ; have t5 := T5 Z hZ; have t6 := T6 Z hZ; have t7 := T7 Z hZ; have t8 := T8 Z hZ; have t9 := T9 Z hZ; have t10 := T10 Z hZ; have t11 := T11 Z hZ
                  go_simp
                  (all_goals with_reducible rfl)
                  done)
           try simp only [Act.put, List.setIfInBounds_toArray, List.set_cons_zero, List.set_cons_succ])
    refine quiet_nil ?_
    intro Z1 hZ1
    go_wp2_with fail
    refine wp_region_class (C := C) (by kernel_rfl) (by kernel_rfl) (CF.out _ _ hZ1 ((Fr.refl _ _).drew)) ?_
    repeat
      first
        | (refine quiet_no (by rfl) ?_
           try simp only [Act.put, List.setIfInBounds_toArray, List.set_cons_zero, List.set_cons_succ])
        | (refine quiet_yes ?_ (by rfl) (fun Z hZ => ?_) ?_
           rotate_left
           · unfold qAt Oper.quietAt
             first
               | (go_simp
                  (all_goals first | with_reducible rfl | (with_reducible exact KB.out Z hZ))
                  done)
               | (have t0 := T0 Z hZ; have t1 := T1 Z hZ; have t2 := T2 Z hZ; have t3 := T3 Z hZ; have t4 := T4 Z hZ; have t5 := T5 Z hZ; have t6 := T6 Z hZ; have t7 := T7 Z hZ; have t8 := T8 Z hZ; have t9 := T9 Z hZ; have t10 := T10 Z hZ; have t11 := T11 Z hZ
                  go_simp
                  (all_goals with_reducible rfl)
                  done)
           try simp only [Act.put, List.setIfInBounds_toArray, List.set_cons_zero, List.set_cons_succ])
    refine quiet_nil ?_
    intro Z2 hZ2
    have FZ := Lib.hid (F2.out.trans (TF.out _ hZ2))
    have c6 := T6 _ hZ2
    have c7 := T7 _ hZ2
    have c8 := T8 _ hZ2
    have c9 := T9 _ hZ2
    have c10 := T10 _ hZ2
    have c11 := T11 _ hZ2
    clear hZ1 hZ2 HC0 CF TF F2 HL KA KB T0 T1 T2 T3 T4 T5 T6 T7 T8 T9 T10 T11
    clear C
    go_wp2_with fail
    have R5 := Lib.hid (RN.out Z2).1
    have F5 := Lib.hid (FZ.out.trans (RN.out Z2).2)
    clear RN
    refine (CG.out _ (HS.out.fresh (F5.out)) (Nat.le_trans HB.out (F5.out).2.2.1) _ R5.out).mono ?_
    rintro e w8 ⟨rfl, hs, hf⟩
    have H8 := Lib.hid (And.intro hs ((Fr.weaken (F5.out) (fun _ f => f.elim)).trans hf))
    clear hs hf CG
    go_wp2_with fail
    go_ret
    exact ⟨rfl, fun _ => H8.out.1, H8.out.2⟩
theorem rmost_first (NM : ByteArray) (k0 k1 : Int) (q0 : k0 = 3 ∨ k0 = 4) (q1 : k1 = 3 ∨ k1 = 4) (a b : Int) (x y : Bool) (J : Nat) (hn : L.length = J + 2) (h0 : L[J + 0]? = some (k0, x, a, 0, 0, ⟨#[]⟩)) (h1 : L[J + 1]? = some (k1, y, b, 0, 0, ⟨#[]⟩)) (hm0 : Pl.mayO (k0, x, a, 0, 0, ⟨#[]⟩)) (hm1 : Pl.mayO (k1, y, b, 0, 0, ⟨#[]⟩)) (i0 : Pl.isn k0 a) (i1 : Pl.isn k1 b) (t s : Bool) (ht : decide (Pl.sz k1 b < Pl.sz k0 a) = t) (hs : decide (Pl.sz k0 a < Pl.sz k1 b) = s) (hN : (NM = ⟨#[109, 105, 110]⟩ ∧ t = false) ∨ (NM = ⟨#[109, 97, 120]⟩ ∧ s = false)) :
    Calls Tryz.prog 66 #[.pointer (some ⟨p, 0, none⟩), .string NM] W fun e w' => RPost base p W (Pl.giveR L 2 [(k0, x, a, 0, 0, ⟨#[]⟩)]) e w' := by
  have LA : Hid (∀ Z, Calls Tryz.prog 105 #[.agg #[.int .i64 k1, .bool y, .int .i64 b, .int .i64 0, .int .i64 0, .string ⟨#[]⟩], .agg #[.int .i64 k0, .bool x, .int .i64 a, .int .i64 0, .int .i64 0, .string ⟨#[]⟩]] Z fun e w' => e = .returned (.tuple #[.bool t, .bool true]) ∧ Grown Z w') := Lib.hid (fun Z => by have := rless_num k1 y b i1 k0 x a i0 Z; rw [ht] at this; exact this)
  have LB : Hid (∀ Z, Calls Tryz.prog 105 #[.agg #[.int .i64 k0, .bool x, .int .i64 a, .int .i64 0, .int .i64 0, .string ⟨#[]⟩], .agg #[.int .i64 k1, .bool y, .int .i64 b, .int .i64 0, .int .i64 0, .string ⟨#[]⟩]] Z fun e w' => e = .returned (.tuple #[.bool s, .bool true]) ∧ Grown Z w') := Lib.hid (fun Z => by have := rless_num k0 x a i0 k1 y b i1 Z; rw [hs] at this; exact this)
  have CG := Lib.hid (fun Z (hZ : RS base p L Z) (hbZ : base ≤ Z.heap.size) u (hR : RowV Z u [(k0, x, a, 0, 0, ⟨#[]⟩)]) => rgive_any base p L Z (by omega) hZ hbZ 2 (by omega) [(k0, x, a, 0, 0, ⟨#[]⟩)] (by simp) u hR)
  have RN := Lib.hid (fun Z => And.intro (row_new Z [(k0, x, a, 0, 0, ⟨#[]⟩)] #[.int .i64 k0, .bool x, .int .i64 a, .int .i64 0, .int .i64 0, .string ⟨#[]⟩] rfl 1 rfl) (Fr.alloc (fun _ => False) Z (.cells #[.int .i64 k0, .bool x, .int .i64 a, .int .i64 0, .int .i64 0, .string ⟨#[]⟩] 25)))
  have HS := Lib.hid h
  have HB := Lib.hid hb
  have TK := Lib.hid (rtake2_ok base p L (W.alloc (.cells #[.int .i64 101, .int .i64 101] 3)) (by omega) (h.fresh (Fr.alloc _ _ _)) (k0, x, a, 0, 0, ⟨#[]⟩) (k1, y, b, 0, 0, ⟨#[]⟩) J hn h0 h1 W.heap.size 2 (Nat.le_refl _) 101 101 (.inr (.inl rfl)) (.inr (.inl rfl)) (by simp [go_sem]) (by simp [go_sem]) (by rcases q1 with rfl | rfl <;> rfl) (by rcases q0 with rfl | rfl <;> rfl))
  clear hlen h hn h0 h1 hb hm0 hm1 q0 q1 i0 i1 ht hs
  rcases hN with ⟨rfl, rfl⟩ | ⟨rfl, rfl⟩
  all_goals
    go_enter Tryz.func66, Tryz.ntmps66
    go_wp2_with fail
    refine TK.out.mono ?_
    rintro e w2 ⟨f2, g, cap, hgp, hl, hcap, rfl⟩
    have F2 := Lib.hid ((Fr.alloc (fun _ => False) W (.cells #[.int .i64 101, .int .i64 101] 3)).trans f2)
    have HL := Lib.hid (And.intro hgp hl)
    have ecap : (2 : Int) ≤ (cap : Int) := by omega
    obtain ⟨C, hC⟩ : ∃ C : World → Prop, C = Cells w2 [((⟨g, J * 6, none⟩ : Addr), (.int .i64 k0 : Value)), ((⟨g, J * 6 + 1, none⟩ : Addr), (.bool x : Value)), ((⟨g, J * 6 + 2, none⟩ : Addr), (.int .i64 a : Value)), ((⟨g, J * 6 + 3, none⟩ : Addr), (.int .i64 0 : Value)), ((⟨g, J * 6 + 4, none⟩ : Addr), (.int .i64 0 : Value)), ((⟨g, J * 6 + 5, none⟩ : Addr), (.string ⟨#[]⟩ : Value)), ((⟨g, J * 6 + 6, none⟩ : Addr), (.int .i64 k1 : Value)), ((⟨g, J * 6 + 7, none⟩ : Addr), (.bool y : Value)), ((⟨g, J * 6 + 8, none⟩ : Addr), (.int .i64 b : Value)), ((⟨g, J * 6 + 9, none⟩ : Addr), (.int .i64 0 : Value)), ((⟨g, J * 6 + 10, none⟩ : Addr), (.int .i64 0 : Value)), ((⟨g, J * 6 + 11, none⟩ : Addr), (.string ⟨#[]⟩ : Value))] := ⟨_, rfl⟩
    have HC0 : Hid (C w2) := Lib.hid (by rw [hC]; exact ⟨(hl.2 0 _ rfl), (hl.2 1 _ rfl), (hl.2 2 _ rfl), (hl.2 3 _ rfl), (hl.2 4 _ rfl), (hl.2 5 _ rfl), (hl.2 6 _ rfl), (hl.2 7 _ rfl), (hl.2 8 _ rfl), (hl.2 9 _ rfl), (hl.2 10 _ rfl), (hl.2 11 _ rfl), Fr.refl _ _⟩)
    have T0 : ∀ Z, C Z → Z.cell? ⟨g, J * 6, none⟩ = some (.int .i64 k0) := fun Z h => by rw [hC] at h; exact h.1
    have T1 : ∀ Z, C Z → Z.cell? ⟨g, J * 6 + 1, none⟩ = some (.bool x) := fun Z h => by rw [hC] at h; exact h.2.1
    have T2 : ∀ Z, C Z → Z.cell? ⟨g, J * 6 + 2, none⟩ = some (.int .i64 a) := fun Z h => by rw [hC] at h; exact h.2.2.1
    have T3 : ∀ Z, C Z → Z.cell? ⟨g, J * 6 + 3, none⟩ = some (.int .i64 0) := fun Z h => by rw [hC] at h; exact h.2.2.2.1
    have T4 : ∀ Z, C Z → Z.cell? ⟨g, J * 6 + 4, none⟩ = some (.int .i64 0) := fun Z h => by rw [hC] at h; exact h.2.2.2.2.1
    have T5 : ∀ Z, C Z → Z.cell? ⟨g, J * 6 + 5, none⟩ = some (.string ⟨#[]⟩) := fun Z h => by rw [hC] at h; exact h.2.2.2.2.2.1
    have T6 : ∀ Z, C Z → Z.cell? ⟨g, J * 6 + 6, none⟩ = some (.int .i64 k1) := fun Z h => by rw [hC] at h; exact h.2.2.2.2.2.2.1
    have T7 : ∀ Z, C Z → Z.cell? ⟨g, J * 6 + 7, none⟩ = some (.bool y) := fun Z h => by rw [hC] at h; exact h.2.2.2.2.2.2.2.1
    have T8 : ∀ Z, C Z → Z.cell? ⟨g, J * 6 + 8, none⟩ = some (.int .i64 b) := fun Z h => by rw [hC] at h; exact h.2.2.2.2.2.2.2.2.1
    have T9 : ∀ Z, C Z → Z.cell? ⟨g, J * 6 + 9, none⟩ = some (.int .i64 0) := fun Z h => by rw [hC] at h; exact h.2.2.2.2.2.2.2.2.2.1
    have T10 : ∀ Z, C Z → Z.cell? ⟨g, J * 6 + 10, none⟩ = some (.int .i64 0) := fun Z h => by rw [hC] at h; exact h.2.2.2.2.2.2.2.2.2.2.1
    have T11 : ∀ Z, C Z → Z.cell? ⟨g, J * 6 + 11, none⟩ = some (.string ⟨#[]⟩) := fun Z h => by rw [hC] at h; exact h.2.2.2.2.2.2.2.2.2.2.2.1
    have CF : Hid (∀ Z Z', C Z → Fr (fun _ => False) Z Z' → C Z') := Lib.hid (fun Z Z' h k => by rw [hC] at h ⊢; exact h.fr k)
    have TF : Hid (∀ Z, C Z → Fr (fun _ => False) w2 Z) := Lib.hid (fun Z h => by rw [hC] at h; exact h.frame)
    clear hC
    clear TK f2 hl hgp hcap
    have KA := Lib.hid (fun Z (h : C Z) => (LA.out Z).mono fun en w' hh => (⟨hh.1, CF.out _ _ h (Fr.of_grown _ hh.2)⟩ : _ ∧ C w'))
    have KB := Lib.hid (fun Z (h : C Z) => (LB.out Z).mono fun en w' hh => (⟨hh.1, CF.out _ _ h (Fr.of_grown _ hh.2)⟩ : _ ∧ C w'))
    clear LA LB
    go_wp2_with fail
    refine wp_region_class (C := C) (by kernel_rfl) (by kernel_rfl) (CF.out _ _ HC0.out ((Fr.refl _ _).drew)) ?_
    repeat
      first
        | (refine quiet_no (by rfl) ?_
           try simp only [Act.put, List.setIfInBounds_toArray, List.set_cons_zero, List.set_cons_succ])
        | (refine quiet_yes ?_ (by rfl) (fun Z hZ => ?_) ?_
           rotate_left
           · unfold qAt Oper.quietAt
             first
               | (go_simp
                  (all_goals first | with_reducible rfl | (with_reducible exact KA.out Z hZ))
                  done)
               | (have t0 := T0 Z hZ; have t1 := T1 Z hZ; have t2 := T2 Z hZ; have t3 := T3 Z hZ; have t4 := T4 Z hZ; have t5 := T5 Z hZ; have t6 := T6 Z hZ; have t7 := T7 Z hZ; have t8 := T8 Z hZ; have t9 := T9 Z hZ; have t10 := T10 Z hZ; have t11 := T11 Z hZ
                  go_simp
                  (all_goals with_reducible rfl)
                  done)
           try simp only [Act.put, List.setIfInBounds_toArray, List.set_cons_zero, List.set_cons_succ])
    refine quiet_nil ?_
    intro Z1 hZ1
    go_wp2_with fail
    refine wp_region_class (C := C) (by kernel_rfl) (by kernel_rfl) (CF.out _ _ hZ1 ((Fr.refl _ _).drew)) ?_
    repeat
      first
        | (refine quiet_no (by rfl) ?_
           try simp only [Act.put, List.setIfInBounds_toArray, List.set_cons_zero, List.set_cons_succ])
        | (refine quiet_yes ?_ (by rfl) (fun Z hZ => ?_) ?_
           rotate_left
           · unfold qAt Oper.quietAt
             first
               | (go_simp
                  (all_goals first | with_reducible rfl | (with_reducible exact KB.out Z hZ))
                  done)
               | (have t0 := T0 Z hZ; have t1 := T1 Z hZ; have t2 := T2 Z hZ; have t3 := T3 Z hZ; have t4 := T4 Z hZ; have t5 := T5 Z hZ; have t6 := T6 Z hZ; have t7 := T7 Z hZ; have t8 := T8 Z hZ; have t9 := T9 Z hZ; have t10 := T10 Z hZ; have t11 := T11 Z hZ
                  go_simp
                  (all_goals with_reducible rfl)
                  done)
           try simp only [Act.put, List.setIfInBounds_toArray, List.set_cons_zero, List.set_cons_succ])
    refine quiet_nil ?_
    intro Z2 hZ2
    have FZ := Lib.hid (F2.out.trans (TF.out _ hZ2))
    have c0 := T0 _ hZ2
    have c1 := T1 _ hZ2
    have c2 := T2 _ hZ2
    have c3 := T3 _ hZ2
    have c4 := T4 _ hZ2
    have c5 := T5 _ hZ2
    clear hZ1 hZ2 HC0 CF TF F2 HL KA KB T0 T1 T2 T3 T4 T5 T6 T7 T8 T9 T10 T11
    clear C
    go_wp2_with fail
    have R5 := Lib.hid (RN.out Z2).1
    have F5 := Lib.hid (FZ.out.trans (RN.out Z2).2)
    clear RN
    refine (CG.out _ (HS.out.fresh (F5.out)) (Nat.le_trans HB.out (F5.out).2.2.1) _ R5.out).mono ?_
    rintro e w8 ⟨rfl, hs, hf⟩
    have H8 := Lib.hid (And.intro hs ((Fr.weaken (F5.out) (fun _ f => f.elim)).trans hf))
    clear hs hf CG
    go_wp2_with fail
    go_ret
    exact ⟨rfl, fun _ => H8.out.1, H8.out.2⟩
end
end Go.Proofs.YtfmmomdmemcbbaaGreat
