/- The reference's marks: clear, count, counttomark, cleartomar -/
import Derived.Test.YtfmmomdmemcbbaaGreatZ9
import Derived.Test.YtfmmomdmemcbbaaGreatA13
set_option maxHeartbeats 4000000
set_option maxRecDepth 100000
namespace Go.Proofs.YtfmmomdmemcbbaaGreat
set_option linter.unusedVariables false
open Go.RowKit
section
variable (base p : Nat) (L : List Pl.Ob) (W : World) (hlen : L.length ≤ 200) (h : RS base p L W) (hb : base ≤ W.heap.size)
include hlen h hb
omit hlen hb in
theorem rmarks_clear :
    Calls Tryz.prog 67 #[.pointer (some ⟨p, 0, none⟩), .string ⟨#[99, 108, 101, 97, 114]⟩] W fun e w' => RPost base p W (((0, []) : Int × List Pl.Ob)) e w' := by
  obtain ⟨v, hS⟩ := h
  obtain ⟨ao, cap, rfl⟩ := hS.slice
  obtain ⟨h0, h1, hown, hne, hp⟩ := hS
  go_enter Tryz.func67, Tryz.ntmps67
  go_wp2_with fail
  go_ret
  exact ⟨rfl, fun _ => ⟨.slice none 0 0, World.cell?_setCell_same' _ _ _ (by rw [h0]; rfl), by simpa using h1, World.ownsRow_nil _ _ _ _, by simp [Value.ownBlock], by simpa using hp⟩, Fr.setCell _ _ _ _ rfl⟩
theorem rmarks_count :
    Calls Tryz.prog 67 #[.pointer (some ⟨p, 0, none⟩), .string ⟨#[99, 111, 117, 110, 116]⟩] W fun e w' => RPost base p W (Pl.wholeR L 0 (L.length : Int)) e w' := by
  obtain ⟨M, hM⟩ : ∃ M, M = L.length := ⟨_, rfl⟩
  have CG := Lib.hid (fun Z (hZ : RS base p L Z) (hbZ : base ≤ Z.heap.size) => rgiveint_any base p L Z (by omega) hZ hbZ 0 (by omega) ((L.length : Int)))
  obtain ⟨v, hS⟩ := id h
  obtain ⟨ao, cap, rfl⟩ := hS.slice
  have h0 := hS.1
  have HS := Lib.hid h
  have HB := Lib.hid hb
  rw [← hM] at h0 CG ⊢
  have FZ := Lib.hid (Fr.refl (fun _ => False) W)
  clear hM h hb hlen hS
  go_enter Tryz.func67, Tryz.ntmps67
  go_wp2_with fail
  refine (CG.out _ (HS.out.fresh (FZ.out)) (Nat.le_trans HB.out (FZ.out).2.2.1)).mono ?_
  rintro e w8 ⟨rfl, hs, hf⟩
  have H8 := Lib.hid (And.intro hs ((Fr.weaken (FZ.out) (fun _ f => f.elim)).trans hf))
  clear hs hf CG
  go_wp2_with fail
  go_ret
  exact ⟨rfl, fun _ => H8.out.1, H8.out.2⟩
omit hb in
theorem rmarks_none (NM : ByteArray) (hN : NM = ⟨#[99, 111, 117, 110, 116, 116, 111, 109, 97, 114, 107]⟩ ∨ NM = ⟨#[99, 108, 101, 97, 114, 116, 111, 109, 97, 114, 107]⟩) (hi : L.reverse.findIdx? (fun q => q.1 == 6) = none) :
    Calls Tryz.prog 67 #[.pointer (some ⟨p, 0, none⟩), .string NM] W fun e w' => RPost base p W (((10, L) : Int × List Pl.Ob)) e w' := by
  have CT := Lib.hid (show Calls Tryz.prog 106 #[.pointer (some ⟨p, 0, none⟩)] W fun e w' => e = .returned (.tuple #[.int .i64 (Pl.toMark L).1, .int .i64 (Pl.toMark L).2]) ∧ Grown W w' from by
    obtain ⟨v, hS⟩ := h
    exact rtomark_any base p v L (by omega) W hS)
  unfold Pl.toMark at CT
  rw [hi] at CT
  clear hi h hlen
  rcases hN with rfl | rfl
  all_goals
    go_enter Tryz.func67, Tryz.ntmps67
    go_wp2_with fail
    refine CT.out.mono ?_
    rintro e w2 ⟨rfl, g2⟩
    have F2 := Lib.hid (Fr.of_grown (fun c => c = p) g2)
    clear g2 CT
    go_wp2_with fail
    go_ret
    exact ⟨rfl, fun q => absurd q (by simp), F2.out⟩
theorem rmarks_counttomark (i : Nat) (hi : L.reverse.findIdx? (fun q => q.1 == 6) = some i) :
    Calls Tryz.prog 67 #[.pointer (some ⟨p, 0, none⟩), .string ⟨#[99, 111, 117, 110, 116, 116, 111, 109, 97, 114, 107]⟩] W fun e w' => RPost base p W (Pl.wholeR L 0 (i : Int)) e w' := by
  have HS := Lib.hid h
  have HB := Lib.hid hb
  have hil := Pl.toMark_lt L i hi
  have CG := Lib.hid (fun Z (hZ : RS base p L Z) (hbZ : base ≤ Z.heap.size) => rgiveint_any base p L Z (by omega) hZ hbZ 0 (by omega) ((i : Int)))
  have CT := Lib.hid (show Calls Tryz.prog 106 #[.pointer (some ⟨p, 0, none⟩)] W fun e w' => e = .returned (.tuple #[.int .i64 (Pl.toMark L).1, .int .i64 (Pl.toMark L).2]) ∧ Grown W w' from by
    obtain ⟨v, hS⟩ := h
    exact rtomark_any base p v L (by omega) W hS)
  unfold Pl.toMark at CT
  rw [hi] at CT
  clear hi h hlen hb
  go_enter Tryz.func67, Tryz.ntmps67
  go_wp2_with fail
  refine CT.out.mono ?_
  rintro e w2 ⟨rfl, g2⟩
  have FZ := Lib.hid (Fr.of_grown (fun _ => False) g2)
  clear g2 CT
  go_wp2_with fail
  refine (CG.out _ (HS.out.fresh (FZ.out)) (Nat.le_trans HB.out (FZ.out).2.2.1)).mono ?_
  rintro e w8 ⟨rfl, hs, hf⟩
  have H8 := Lib.hid (And.intro hs ((Fr.weaken (FZ.out) (fun _ f => f.elim)).trans hf))
  clear hs hf CG
  go_wp2_with fail
  go_ret
  exact ⟨rfl, fun _ => H8.out.1, H8.out.2⟩
theorem rmarks_cleartomark (i : Nat) (hi : L.reverse.findIdx? (fun q => q.1 == 6) = some i) :
    Calls Tryz.prog 67 #[.pointer (some ⟨p, 0, none⟩), .string ⟨#[99, 108, 101, 97, 114, 116, 111, 109, 97, 114, 107]⟩] W fun e w' => RPost base p W (Pl.giveR L (i + 1) []) e w' := by
  have HS := Lib.hid h
  have HB := Lib.hid hb
  have hil := Pl.toMark_lt L i hi
  have CG := Lib.hid (fun Z (hZ : RS base p L Z) (hbZ : base ≤ Z.heap.size) => rgive_any base p L Z (by omega) hZ hbZ (i + 1) (by omega) [] (by simp) _ (RowV.nil Z))
  rw [show ((i + 1 : Nat) : Int) = (i : Int) + 1 by omega] at CG
  have ib : (i : Int) ≤ 200 := by omega
  have ib0 : (0 : Int) ≤ (i : Int) := by omega
  have CT := Lib.hid (show Calls Tryz.prog 106 #[.pointer (some ⟨p, 0, none⟩)] W fun e w' => e = .returned (.tuple #[.int .i64 (Pl.toMark L).1, .int .i64 (Pl.toMark L).2]) ∧ Grown W w' from by
    obtain ⟨v, hS⟩ := h
    exact rtomark_any base p v L (by omega) W hS)
  unfold Pl.toMark at CT
  rw [hi] at CT
  clear hi h hlen hb hil
  go_enter Tryz.func67, Tryz.ntmps67
  go_wp2_with fail
  refine CT.out.mono ?_
  rintro e w2 ⟨rfl, g2⟩
  have FZ := Lib.hid (Fr.of_grown (fun _ => False) g2)
  clear g2 CT
  go_wp2_with fail
  refine (CG.out _ (HS.out.fresh (FZ.out)) (Nat.le_trans HB.out (FZ.out).2.2.1)).mono ?_
  rintro e w8 ⟨rfl, hs, hf⟩
  have H8 := Lib.hid (And.intro hs ((Fr.weaken (FZ.out) (fun _ f => f.elim)).trans hf))
  clear hs hf CG
  go_wp2_with fail
  go_ret
  exact ⟨rfl, fun _ => H8.out.1, H8.out.2⟩
theorem rmarks_true :
    Calls Tryz.prog 67 #[.pointer (some ⟨p, 0, none⟩), .string ⟨#[116, 114, 117, 101]⟩] W fun e w' => RPost base p W (Pl.giveR L 0 [(2, false, 1, 0, 0, ⟨#[]⟩)]) e w' := by
  have CG := Lib.hid (fun Z (hZ : RS base p L Z) (hbZ : base ≤ Z.heap.size) u (hR : RowV Z u [(2, false, 1, 0, 0, ⟨#[]⟩)]) => rgive_any base p L Z (by omega) hZ hbZ 0 (by omega) [(2, false, 1, 0, 0, ⟨#[]⟩)] (by simp) u hR)
  have RN := Lib.hid (fun Z => And.intro (row_new Z [(2, false, 1, 0, 0, ⟨#[]⟩)] #[.int .i64 2, .bool false, .int .i64 1, .int .i64 0, .int .i64 0, .string ⟨#[]⟩] rfl 1 rfl) (Fr.alloc (fun _ => False) Z (.cells #[.int .i64 2, .bool false, .int .i64 1, .int .i64 0, .int .i64 0, .string ⟨#[]⟩] 25)))
  have HS := Lib.hid h
  have HB := Lib.hid hb
  have RB : Hid (∀ Z, Calls Tryz.prog 96 #[.bool true] Z fun e w' => e = .returned (.agg #[.int .i64 2, .bool false, .int .i64 1, .int .i64 0, .int .i64 0, .string ⟨#[]⟩]) ∧ Grown Z w') := Lib.hid (fun Z => rbool_any true Z)
  clear h hlen hb
  go_enter Tryz.func67, Tryz.ntmps67
  go_wp2_with fail
  refine (RB.out _).mono ?_
  rintro e w5 ⟨rfl, g5⟩
  have R5 := Lib.hid (RN.out w5).1
  have F5 := Lib.hid ((Fr.of_grown (fun _ => False) g5).trans (RN.out w5).2)
  clear g5 RB RN
  go_wp2_with fail
  refine (CG.out _ (HS.out.fresh (F5.out)) (Nat.le_trans HB.out (F5.out).2.2.1) _ R5.out).mono ?_
  rintro e w8 ⟨rfl, hs, hf⟩
  have H8 := Lib.hid (And.intro hs ((Fr.weaken (F5.out) (fun _ f => f.elim)).trans hf))
  clear hs hf CG
  go_wp2_with fail
  go_ret
  exact ⟨rfl, fun _ => H8.out.1, H8.out.2⟩
theorem rmarks_false :
    Calls Tryz.prog 67 #[.pointer (some ⟨p, 0, none⟩), .string ⟨#[102, 97, 108, 115, 101]⟩] W fun e w' => RPost base p W (Pl.giveR L 0 [(2, false, 0, 0, 0, ⟨#[]⟩)]) e w' := by
  have CG := Lib.hid (fun Z (hZ : RS base p L Z) (hbZ : base ≤ Z.heap.size) u (hR : RowV Z u [(2, false, 0, 0, 0, ⟨#[]⟩)]) => rgive_any base p L Z (by omega) hZ hbZ 0 (by omega) [(2, false, 0, 0, 0, ⟨#[]⟩)] (by simp) u hR)
  have RN := Lib.hid (fun Z => And.intro (row_new Z [(2, false, 0, 0, 0, ⟨#[]⟩)] #[.int .i64 2, .bool false, .int .i64 0, .int .i64 0, .int .i64 0, .string ⟨#[]⟩] rfl 1 rfl) (Fr.alloc (fun _ => False) Z (.cells #[.int .i64 2, .bool false, .int .i64 0, .int .i64 0, .int .i64 0, .string ⟨#[]⟩] 25)))
  have HS := Lib.hid h
  have HB := Lib.hid hb
  have RB : Hid (∀ Z, Calls Tryz.prog 96 #[.bool false] Z fun e w' => e = .returned (.agg #[.int .i64 2, .bool false, .int .i64 0, .int .i64 0, .int .i64 0, .string ⟨#[]⟩]) ∧ Grown Z w') := Lib.hid (fun Z => rbool_any false Z)
  clear h hlen hb
  go_enter Tryz.func67, Tryz.ntmps67
  go_wp2_with fail
  refine (RB.out _).mono ?_
  rintro e w5 ⟨rfl, g5⟩
  have R5 := Lib.hid (RN.out w5).1
  have F5 := Lib.hid ((Fr.of_grown (fun _ => False) g5).trans (RN.out w5).2)
  clear g5 RB RN
  go_wp2_with fail
  refine (CG.out _ (HS.out.fresh (F5.out)) (Nat.le_trans HB.out (F5.out).2.2.1) _ R5.out).mono ?_
  rintro e w8 ⟨rfl, hs, hf⟩
  have H8 := Lib.hid (And.intro hs ((Fr.weaken (F5.out) (fun _ f => f.elim)).trans hf))
  clear hs hf CG
  go_wp2_with fail
  go_ret
  exact ⟨rfl, fun _ => H8.out.1, H8.out.2⟩
theorem rmarks_null :
    Calls Tryz.prog 67 #[.pointer (some ⟨p, 0, none⟩), .string ⟨#[110, 117, 108, 108]⟩] W fun e w' => RPost base p W (Pl.giveR L 0 [(1, false, 0, 0, 0, ⟨#[]⟩)]) e w' := by
  have CG := Lib.hid (fun Z (hZ : RS base p L Z) (hbZ : base ≤ Z.heap.size) u (hR : RowV Z u [(1, false, 0, 0, 0, ⟨#[]⟩)]) => rgive_any base p L Z (by omega) hZ hbZ 0 (by omega) [(1, false, 0, 0, 0, ⟨#[]⟩)] (by simp) u hR)
  have RN := Lib.hid (fun Z => And.intro (row_new Z [(1, false, 0, 0, 0, ⟨#[]⟩)] #[.int .i64 1, .bool false, .int .i64 0, .int .i64 0, .int .i64 0, .string ⟨#[]⟩] rfl 1 rfl) (Fr.alloc (fun _ => False) Z (.cells #[.int .i64 1, .bool false, .int .i64 0, .int .i64 0, .int .i64 0, .string ⟨#[]⟩] 25)))
  have HS := Lib.hid h
  have HB := Lib.hid hb
  clear h hlen hb
  go_enter Tryz.func67, Tryz.ntmps67
  go_wp2_with fail
  have R5 := Lib.hid (RN.out W).1
  have F5 := Lib.hid (RN.out W).2
  clear RN
  refine (CG.out _ (HS.out.fresh (F5.out)) (Nat.le_trans HB.out (F5.out).2.2.1) _ R5.out).mono ?_
  rintro e w8 ⟨rfl, hs, hf⟩
  have H8 := Lib.hid (And.intro hs ((Fr.weaken (F5.out) (fun _ f => f.elim)).trans hf))
  clear hs hf CG
  go_wp2_with fail
  go_ret
  exact ⟨rfl, fun _ => H8.out.1, H8.out.2⟩
theorem rmarks_mark (NM : ByteArray) (hN : NM = ⟨#[109, 97, 114, 107]⟩ ∨ NM = ⟨#[91]⟩ ∨ NM = ⟨#[60, 60]⟩) :
    Calls Tryz.prog 67 #[.pointer (some ⟨p, 0, none⟩), .string NM] W fun e w' => RPost base p W (Pl.giveR L 0 [(6, false, 0, 0, 0, ⟨#[]⟩)]) e w' := by
  have CG := Lib.hid (fun Z (hZ : RS base p L Z) (hbZ : base ≤ Z.heap.size) u (hR : RowV Z u [(6, false, 0, 0, 0, ⟨#[]⟩)]) => rgive_any base p L Z (by omega) hZ hbZ 0 (by omega) [(6, false, 0, 0, 0, ⟨#[]⟩)] (by simp) u hR)
  have RN := Lib.hid (fun Z => And.intro (row_new Z [(6, false, 0, 0, 0, ⟨#[]⟩)] #[.int .i64 6, .bool false, .int .i64 0, .int .i64 0, .int .i64 0, .string ⟨#[]⟩] rfl 1 rfl) (Fr.alloc (fun _ => False) Z (.cells #[.int .i64 6, .bool false, .int .i64 0, .int .i64 0, .int .i64 0, .string ⟨#[]⟩] 25)))
  have HS := Lib.hid h
  have HB := Lib.hid hb
  clear h hlen hb
  rcases hN with rfl | rfl | rfl
  all_goals
    go_enter Tryz.func67, Tryz.ntmps67
    go_wp2_with fail
    have R5 := Lib.hid (RN.out W).1
    have F5 := Lib.hid (RN.out W).2
    clear RN
    refine (CG.out _ (HS.out.fresh (F5.out)) (Nat.le_trans HB.out (F5.out).2.2.1) _ R5.out).mono ?_
    rintro e w8 ⟨rfl, hs, hf⟩
    have H8 := Lib.hid (And.intro hs ((Fr.weaken (F5.out) (fun _ f => f.elim)).trans hf))
    clear hs hf CG
    go_wp2_with fail
    go_ret
    exact ⟨rfl, fun _ => H8.out.1, H8.out.2⟩
end
end Go.Proofs.YtfmmomdmemcbbaaGreat
