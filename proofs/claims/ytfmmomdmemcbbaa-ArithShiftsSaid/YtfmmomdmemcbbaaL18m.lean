/- ArithMixed: the walk. -/
import Derived.Test.YtfmmomdmemcbbaaM6
import Derived.Deep.QuietTactic
namespace Go.Proofs.Ytfmmomdmemcbbaa
set_option linter.unusedVariables false
open Go.RowKit

theorem Kept.of_fr {W w' : World} (h : Fr (fun _ => False) W w') : Kept W w' := (Kept.refl W).fr h (fun _ f => f.elim)
theorem Pl.tmod_in (a n : Int) (hn : 0 < n) : -n < a.tmod n ∧ a.tmod n < n := by
  have h1 := Int.natAbs_tmod a n
  have h2 : a.natAbs % n.natAbs < n.natAbs := Nat.mod_lt _ (by omega)
  omega
theorem Pl.numv_small {x : Int} (hx : -8000 < x ∧ x < 8000) : Pl.numv (Pl.intO x) = (x * 65536, true) := by
  unfold Pl.numv Pl.intO
  simp only
  rw [if_pos trivial, if_pos (by omega)]
theorem Pl.giveR_one (a b o : Pl.Ob) : Pl.giveR [a, b] 2 [o] = (0, [o]) := rfl
theorem Pl.two_form (a b : Pl.Ob) (n : Int) (ha : Pl.fits (Pl.kinds2 n) a.1 = true) (hb : Pl.fits (Pl.kinds2 n) b.1 = true) : Pl.twoR [a, b] n = Pl.twoI [a, b] n a b := by
  show (if Pl.fits (Pl.kinds2 n) b.1 = true ∧ Pl.fits (Pl.kinds2 n) a.1 = true then Pl.twoI [a, b] n a b else (6, [a, b])) = _
  rw [if_pos ⟨hb, ha⟩]
theorem Pl.doR_11 (L : List Pl.Ob) : Pl.doR L 11 = Pl.twoR L 11 := by unfold Pl.doR; simp
theorem Pl.doR_12 (L : List Pl.Ob) : Pl.doR L 12 = Pl.twoR L 12 := by unfold Pl.doR; simp
theorem Pl.doR_35 (L : List Pl.Ob) : Pl.doR L 35 = Pl.mmR L 35 := by unfold Pl.doR; simp
theorem Pl.doR_36 (L : List Pl.Ob) : Pl.doR L 36 = Pl.mmR L 36 := by unfold Pl.doR; simp
theorem Pl.mm_form (a b : Pl.Ob) (n : Int) (ha : Pl.fits 24 a.1 = true) (hb : Pl.fits 24 b.1 = true) : Pl.mmR [a, b] n = (0, [Pl.mm n a b]) := by
  show (if Pl.fits 24 b.1 = true ∧ Pl.fits 24 a.1 = true then Pl.giveR [a, b] 2 [Pl.mm n a b] else (6, [a, b])) = _
  rw [if_pos ⟨hb, ha⟩]
  rfl
theorem Pl.two_num (a b : Pl.Ob) (n : Int) (hn : n = 11 ∨ n = 12 ∨ n = 13 ∨ n = 14 ∨ n = 26) : Pl.twoI [a, b] n a b = Pl.numbersR [a, b] n a b := by
  unfold Pl.twoI
  rw [if_pos hn]
theorem Pl.f2_11 (x y : Int) : Pl.f2 11 x y = if Pl.inFix (x + y) then (x + y, true) else (0, false) := by unfold Pl.f2; rw [if_pos rfl]
theorem Pl.f2_12 (x y : Int) : Pl.f2 12 x y = if Pl.inFix (x - y) then (x - y, true) else (0, false) := by unfold Pl.f2; rw [if_neg (by decide), if_pos rfl]
theorem Pl.fixedR_two (a b : Pl.Ob) (v : Int) (h : Pl.inFix v) : Pl.fixedR [a, b] 2 v true = (0, [Pl.fixO v]) := by
  unfold Pl.fixedR
  rw [if_pos ⟨rfl, h⟩]
  rfl
theorem Pl.numv_fixO (y : Int) : Pl.numv (Pl.fixO y) = (y, true) := by unfold Pl.numv Pl.fixO; rw [if_neg (by simp)]
theorem mixed_add (x y : Int) (hx : -8000 < x ∧ x < 8000) (hy : -524288000 < y ∧ y < 524288000) : Pl.doR [Pl.intO x, Pl.fixO y] 11 = (0, [Pl.fixO (x * 65536 + y)]) := by
  have hf : Pl.inFix (x * 65536 + y) := by unfold Pl.inFix; omega
  rw [Pl.doR_11, Pl.two_form (Pl.intO x) (Pl.fixO y) 11 (show Pl.fits (Pl.kinds2 11) 3 = true by decide) (show Pl.fits (Pl.kinds2 11) 4 = true by decide), Pl.two_num _ _ _ (by decide), Pl.numbersR_fix _ _ _ _ (by simp [Pl.fixO]) (by rw [Pl.numv_small hx]) (by rw [Pl.numv_fixO]) (by simp), Pl.numv_small hx, Pl.numv_fixO, Pl.f2_11, if_pos hf, Pl.fixedR_two _ _ _ hf]
theorem mixed_sub (x y : Int) (hx : -8000 < x ∧ x < 8000) (hy : -524288000 < y ∧ y < 524288000) : Pl.doR [Pl.intO x, Pl.fixO y] 12 = (0, [Pl.fixO (x * 65536 - y)]) := by
  have hf : Pl.inFix (x * 65536 - y) := by unfold Pl.inFix; omega
  rw [Pl.doR_12, Pl.two_form (Pl.intO x) (Pl.fixO y) 12 (show Pl.fits (Pl.kinds2 12) 3 = true by decide) (show Pl.fits (Pl.kinds2 12) 4 = true by decide), Pl.two_num _ _ _ (by decide), Pl.numbersR_fix _ _ _ _ (by simp [Pl.fixO]) (by rw [Pl.numv_small hx]) (by rw [Pl.numv_fixO]) (by simp), Pl.numv_small hx, Pl.numv_fixO, Pl.f2_12, if_pos hf, Pl.fixedR_two _ _ _ hf]
theorem mixed_min (x y : Int) : Pl.doR [Pl.intO x, Pl.fixO y] 35 = (0, [if y < x * 65536 then Pl.fixO y else Pl.intO x]) := by
  rw [Pl.doR_35, Pl.mm_form (Pl.intO x) (Pl.fixO y) _ (show Pl.fits 24 3 = true by decide) (show Pl.fits 24 4 = true by decide)]
  simp [Pl.mm, Pl.sz, Pl.intO, Pl.fixO]
theorem mixed_max (x y : Int) : Pl.doR [Pl.intO x, Pl.fixO y] 36 = (0, [if x * 65536 < y then Pl.fixO y else Pl.intO x]) := by
  rw [Pl.doR_36, Pl.mm_form (Pl.intO x) (Pl.fixO y) _ (show Pl.fits 24 3 = true by decide) (show Pl.fits 24 4 = true by decide)]
  simp [Pl.mm, Pl.sz, Pl.intO, Pl.fixO]
set_option maxHeartbeats 8000000 in
set_option maxRecDepth 100000 in
theorem walk_mixed_eq (a b : Int) (ha : -32768 ≤ a ∧ a ≤ 32767) (hb : -2147483648 ≤ b ∧ b ≤ 2147483647) (x : Int) (hx : a.tmod 8000 = x) (hy : b.tmod 524288000 = (x * 65536)) (hc : True) (w : World) :
    Calls Try.prog 6 #[.int .i16 a, .int .i32 b] w fun en w' => en = .returned (.bool true) ∧ Kept w w' := by
  have bx := Pl.tmod_in a 8000 (by omega)
  have by' := Pl.tmod_in b 524288000 (by omega)
  rw [hx] at bx
  rw [hy] at by'
  have K := Lib.hid known18
  have N := Lib.hid (fun Z => num18 x Z)
  have FX := Lib.hid (fun Z => fix18 (x * 65536) Z)
  have FA := Lib.hid (fun Z => fix18 (x * 65536 + (x * 65536)) Z)
  have FS := Lib.hid (fun Z => fix18 0 Z)
  unfold Pl.intO at N
  unfold Pl.fixO at FX FA FS
  have D1 := Lib.hid (mixed_add x (x * 65536) bx by')
  have D2' := mixed_sub x (x * 65536) bx by'
  rw [Int.sub_self] at D2'
  have D2 := Lib.hid D2'
  clear D2'
  have D3 := Lib.hid (mixed_min x (x * 65536))
  have D4 := Lib.hid (mixed_max x (x * 65536))
  rw [if_neg (by omega)] at D3
  rw [if_neg (by omega)] at D4
  have m0 := Pl.may_intO (v := x) (by unfold Pl.inInt; omega)
  have m1 := Pl.may_fix (v := (x * 65536)) (by unfold Pl.inFix; omega)
  have R1 := Lib.hid (fun Z b (hA : RowV Z (.slice (some ⟨b, 0, none⟩) 2 2) [Pl.intO x, Pl.fixO (x * 65536)]) => run18 Z b [Pl.intO x, Pl.fixO (x * 65536)] 2 rfl hA (Pl.may_two m0 m1) (by simp) ⟨#[97, 100, 100]⟩ 11 op_add 0 [Pl.fixO (x * 65536 + (x * 65536))] D1.out)
  have R2 := Lib.hid (fun Z b (hA : RowV Z (.slice (some ⟨b, 0, none⟩) 2 2) [Pl.intO x, Pl.fixO (x * 65536)]) => run18 Z b [Pl.intO x, Pl.fixO (x * 65536)] 2 rfl hA (Pl.may_two m0 m1) (by simp) ⟨#[115, 117, 98]⟩ 12 op_sub 0 [Pl.fixO 0] D2.out)
  have R3 := Lib.hid (fun Z b (hA : RowV Z (.slice (some ⟨b, 0, none⟩) 2 2) [Pl.intO x, Pl.fixO (x * 65536)]) => run18 Z b [Pl.intO x, Pl.fixO (x * 65536)] 2 rfl hA (Pl.may_two m0 m1) (by simp) ⟨#[109, 105, 110]⟩ 35 op_min 0 [Pl.intO x] D3.out)
  have R4 := Lib.hid (fun Z b (hA : RowV Z (.slice (some ⟨b, 0, none⟩) 2 2) [Pl.intO x, Pl.fixO (x * 65536)]) => run18 Z b [Pl.intO x, Pl.fixO (x * 65536)] 2 rfl hA (Pl.may_two m0 m1) (by simp) ⟨#[109, 97, 120]⟩ 36 op_max 0 [Pl.intO x] D4.out)
  clear D1 D2 D3 D4 m0 m1
  go_enter Try.func6, Try.ntmps6
  go_wp2_with fail
  refine (K.out _).mono ?_
  rintro en w1 ⟨rfl, f1⟩
  have F1 := Lib.hid f1
  clear f1 K
  go_wp2_with fail
  refine (N.out _).mono ?_
  rintro en w2 ⟨rfl, g2⟩
  go_wp2_with fail
  refine (FX.out _).mono ?_
  rintro en w3 ⟨rfl, g3⟩
  have RV0 := Lib.hid (row_new w3 [Pl.intO x, Pl.fixO (x * 65536)] #[.int .i64 3, .bool false, .int .i64 x, .int .i64 0, .int .i64 0, .string ⟨#[]⟩, .int .i64 4, .bool false, .int .i64 (x * 65536), .int .i64 0, .int .i64 0, .string ⟨#[]⟩] rfl 2 rfl)
  have F3 := Lib.hid (((F1.out.trans (Fr.of_grown _ g2)).trans (Fr.of_grown _ g3)).trans (Fr.alloc (fun _ => False) w3 (.cells #[.int .i64 3, .bool false, .int .i64 x, .int .i64 0, .int .i64 0, .string ⟨#[]⟩, .int .i64 4, .bool false, .int .i64 (x * 65536), .int .i64 0, .int .i64 0, .string ⟨#[]⟩] 24)))
  clear g2 g3 F1 N FX
  go_wp2_with fail
  refine (R1.out _ _ RV0.out).mono ?_
  rintro en w4 ⟨vi, rfl, r, o, f⟩
  obtain ⟨g1, cp1, rfl, hcp1, hg1, C1⟩ := row_get1 r o
  have C1' := Lib.hid C1
  have RV1 := Lib.hid (RV0.out.fr0 f)
  have F4 := Lib.hid (F3.out.trans f)
  have FF1 := Lib.hid f
  clear r o f C1 RV0 F3 R1
  go_wp2_with fail
  refine (R2.out _ _ RV1.out).mono ?_
  rintro en w5 ⟨vi, rfl, r, o, f⟩
  obtain ⟨g2, cp2, rfl, hcp2, hg2, C2⟩ := row_get1 r o
  have C2' := Lib.hid C2
  have RV2 := Lib.hid (RV1.out.fr0 f)
  have F5 := Lib.hid (F4.out.trans f)
  have FF2 := Lib.hid f
  clear r o f C2 RV1 F4 R2
  go_wp2_with fail
  refine (R3.out _ _ RV2.out).mono ?_
  rintro en w6 ⟨vi, rfl, r, o, f⟩
  obtain ⟨g3, cp3, rfl, hcp3, hg3, C3⟩ := row_get1 r o
  have C3' := Lib.hid C3
  have RV3 := Lib.hid (RV2.out.fr0 f)
  have F6 := Lib.hid (F5.out.trans f)
  have FF3 := Lib.hid f
  clear r o f C3 RV2 F5 R3
  go_wp2_with fail
  refine (R4.out _ _ RV3.out).mono ?_
  rintro en w7 ⟨vi, rfl, r, o, f⟩
  obtain ⟨g4, cp4, rfl, hcp4, hg4, C4⟩ := row_get1 r o
  have C4' := Lib.hid C4
  have RV4 := Lib.hid (RV3.out.fr0 f)
  have F7 := Lib.hid (F6.out.trans f)
  have FF4 := Lib.hid f
  clear r o f C4 RV3 F6 R4
  obtain ⟨q, hq⟩ : ∃ q, q = w3.heap.size := ⟨_, rfl⟩
  rw [← hq] at RV4
  rw [← hq]
  clear hq
  obtain ⟨gq, oq, cq, hvq, hgq, x0, x1, x2, x3, x4, x5⟩ := RV4.out.at 0 _ rfl
  obtain ⟨gq2, oq2, cq2, hvq2, _, y0, y1, y2, y3, y4, y5⟩ := RV4.out.at 1 _ rfl
  injection hvq with e1 _ _
  injection e1 with e1
  injection e1 with e1 e2 _
  subst e1
  subst e2
  injection hvq2 with e1 _ _
  injection e1 with e1
  injection e1 with e1 e2 _
  subst e1
  subst e2
  have HT : Hid (w7.cell? ⟨g1, 0, none⟩ = some (.int .i64 4) ∧ w7.cell? ⟨g1, 1, none⟩ = some (.bool false) ∧ w7.cell? ⟨g1, 2, none⟩ = some (.int .i64 (x * 65536 + (x * 65536))) ∧ w7.cell? ⟨g1, 3, none⟩ = some (.int .i64 0) ∧ w7.cell? ⟨g1, 4, none⟩ = some (.int .i64 0) ∧ w7.cell? ⟨g1, 5, none⟩ = some (.string ⟨#[]⟩) ∧ w7.cell? ⟨g2, 0, none⟩ = some (.int .i64 4) ∧ w7.cell? ⟨g2, 1, none⟩ = some (.bool false) ∧ w7.cell? ⟨g2, 2, none⟩ = some (.int .i64 0) ∧ w7.cell? ⟨g2, 3, none⟩ = some (.int .i64 0) ∧ w7.cell? ⟨g2, 4, none⟩ = some (.int .i64 0) ∧ w7.cell? ⟨g2, 5, none⟩ = some (.string ⟨#[]⟩) ∧ w7.cell? ⟨g3, 0, none⟩ = some (.int .i64 3) ∧ w7.cell? ⟨g3, 1, none⟩ = some (.bool false) ∧ w7.cell? ⟨g3, 2, none⟩ = some (.int .i64 x) ∧ w7.cell? ⟨g3, 3, none⟩ = some (.int .i64 0) ∧ w7.cell? ⟨g3, 4, none⟩ = some (.int .i64 0) ∧ w7.cell? ⟨g3, 5, none⟩ = some (.string ⟨#[]⟩) ∧ w7.cell? ⟨g4, 0, none⟩ = some (.int .i64 3) ∧ w7.cell? ⟨g4, 1, none⟩ = some (.bool false) ∧ w7.cell? ⟨g4, 2, none⟩ = some (.int .i64 x) ∧ w7.cell? ⟨g4, 3, none⟩ = some (.int .i64 0) ∧ w7.cell? ⟨g4, 4, none⟩ = some (.int .i64 0) ∧ w7.cell? ⟨g4, 5, none⟩ = some (.string ⟨#[]⟩) ∧ w7.cell? ⟨q, 0, none⟩ = some (.int .i64 3) ∧ w7.cell? ⟨q, 1, none⟩ = some (.bool false) ∧ w7.cell? ⟨q, 2, none⟩ = some (.int .i64 x) ∧ w7.cell? ⟨q, 3, none⟩ = some (.int .i64 0) ∧ w7.cell? ⟨q, 4, none⟩ = some (.int .i64 0) ∧ w7.cell? ⟨q, 5, none⟩ = some (.string ⟨#[]⟩) ∧ w7.cell? ⟨q, 6, none⟩ = some (.int .i64 4) ∧ w7.cell? ⟨q, 7, none⟩ = some (.bool false) ∧ w7.cell? ⟨q, 8, none⟩ = some (.int .i64 (x * 65536)) ∧ w7.cell? ⟨q, 9, none⟩ = some (.int .i64 0) ∧ w7.cell? ⟨q, 10, none⟩ = some (.int .i64 0) ∧ w7.cell? ⟨q, 11, none⟩ = some (.string ⟨#[]⟩) ∧ Fr (fun _ => False) w w7) := Lib.hid ⟨(cell_fr0 (cell_fr0 (cell_fr0 C1'.out.1 FF2.out) FF3.out) FF4.out), (cell_fr0 (cell_fr0 (cell_fr0 C1'.out.2.1 FF2.out) FF3.out) FF4.out), (cell_fr0 (cell_fr0 (cell_fr0 C1'.out.2.2.1 FF2.out) FF3.out) FF4.out), (cell_fr0 (cell_fr0 (cell_fr0 C1'.out.2.2.2.1 FF2.out) FF3.out) FF4.out), (cell_fr0 (cell_fr0 (cell_fr0 C1'.out.2.2.2.2.1 FF2.out) FF3.out) FF4.out), (cell_fr0 (cell_fr0 (cell_fr0 C1'.out.2.2.2.2.2 FF2.out) FF3.out) FF4.out), (cell_fr0 (cell_fr0 C2'.out.1 FF3.out) FF4.out), (cell_fr0 (cell_fr0 C2'.out.2.1 FF3.out) FF4.out), (cell_fr0 (cell_fr0 C2'.out.2.2.1 FF3.out) FF4.out), (cell_fr0 (cell_fr0 C2'.out.2.2.2.1 FF3.out) FF4.out), (cell_fr0 (cell_fr0 C2'.out.2.2.2.2.1 FF3.out) FF4.out), (cell_fr0 (cell_fr0 C2'.out.2.2.2.2.2 FF3.out) FF4.out), (cell_fr0 C3'.out.1 FF4.out), (cell_fr0 C3'.out.2.1 FF4.out), (cell_fr0 C3'.out.2.2.1 FF4.out), (cell_fr0 C3'.out.2.2.2.1 FF4.out), (cell_fr0 C3'.out.2.2.2.2.1 FF4.out), (cell_fr0 C3'.out.2.2.2.2.2 FF4.out), C4'.out.1, C4'.out.2.1, C4'.out.2.2.1, C4'.out.2.2.2.1, C4'.out.2.2.2.2.1, C4'.out.2.2.2.2.2, by simpa [Pl.intO] using x0, by simpa [Pl.intO] using x1, by simpa [Pl.intO] using x2, by simpa [Pl.intO] using x3, by simpa [Pl.intO] using x4, by simpa [Pl.intO] using x5, by simpa [Pl.fixO] using y0, by simpa [Pl.fixO] using y1, by simpa [Pl.fixO] using y2, by simpa [Pl.fixO] using y3, by simpa [Pl.fixO] using y4, by simpa [Pl.fixO] using y5, F7.out⟩
  clear x0 x1 x2 x3 x4 x5 y0 y1 y2 y3 y4 y5 hgq C1' C2' C3' C4' FF1 FF2 FF3 FF4 RV4 F7
  have L1 := Lib.hid (fun Z (h : Z.cell? ⟨g1, 0, none⟩ = some (.int .i64 4) ∧ Z.cell? ⟨g1, 1, none⟩ = some (.bool false) ∧ Z.cell? ⟨g1, 2, none⟩ = some (.int .i64 (x * 65536 + (x * 65536))) ∧ Z.cell? ⟨g1, 3, none⟩ = some (.int .i64 0) ∧ Z.cell? ⟨g1, 4, none⟩ = some (.int .i64 0) ∧ Z.cell? ⟨g1, 5, none⟩ = some (.string ⟨#[]⟩) ∧ Z.cell? ⟨g2, 0, none⟩ = some (.int .i64 4) ∧ Z.cell? ⟨g2, 1, none⟩ = some (.bool false) ∧ Z.cell? ⟨g2, 2, none⟩ = some (.int .i64 0) ∧ Z.cell? ⟨g2, 3, none⟩ = some (.int .i64 0) ∧ Z.cell? ⟨g2, 4, none⟩ = some (.int .i64 0) ∧ Z.cell? ⟨g2, 5, none⟩ = some (.string ⟨#[]⟩) ∧ Z.cell? ⟨g3, 0, none⟩ = some (.int .i64 3) ∧ Z.cell? ⟨g3, 1, none⟩ = some (.bool false) ∧ Z.cell? ⟨g3, 2, none⟩ = some (.int .i64 x) ∧ Z.cell? ⟨g3, 3, none⟩ = some (.int .i64 0) ∧ Z.cell? ⟨g3, 4, none⟩ = some (.int .i64 0) ∧ Z.cell? ⟨g3, 5, none⟩ = some (.string ⟨#[]⟩) ∧ Z.cell? ⟨g4, 0, none⟩ = some (.int .i64 3) ∧ Z.cell? ⟨g4, 1, none⟩ = some (.bool false) ∧ Z.cell? ⟨g4, 2, none⟩ = some (.int .i64 x) ∧ Z.cell? ⟨g4, 3, none⟩ = some (.int .i64 0) ∧ Z.cell? ⟨g4, 4, none⟩ = some (.int .i64 0) ∧ Z.cell? ⟨g4, 5, none⟩ = some (.string ⟨#[]⟩) ∧ Z.cell? ⟨q, 0, none⟩ = some (.int .i64 3) ∧ Z.cell? ⟨q, 1, none⟩ = some (.bool false) ∧ Z.cell? ⟨q, 2, none⟩ = some (.int .i64 x) ∧ Z.cell? ⟨q, 3, none⟩ = some (.int .i64 0) ∧ Z.cell? ⟨q, 4, none⟩ = some (.int .i64 0) ∧ Z.cell? ⟨q, 5, none⟩ = some (.string ⟨#[]⟩) ∧ Z.cell? ⟨q, 6, none⟩ = some (.int .i64 4) ∧ Z.cell? ⟨q, 7, none⟩ = some (.bool false) ∧ Z.cell? ⟨q, 8, none⟩ = some (.int .i64 (x * 65536)) ∧ Z.cell? ⟨q, 9, none⟩ = some (.int .i64 0) ∧ Z.cell? ⟨q, 10, none⟩ = some (.int .i64 0) ∧ Z.cell? ⟨q, 11, none⟩ = some (.string ⟨#[]⟩) ∧ Fr (fun _ => False) w Z) => (FA.out Z).mono fun en w' hh => (by obtain ⟨t0, t1, t2, t3, t4, t5, t6, t7, t8, t9, t10, t11, t12, t13, t14, t15, t16, t17, t18, t19, t20, t21, t22, t23, t24, t25, t26, t27, t28, t29, t30, t31, t32, t33, t34, t35, tf⟩ := h; exact ⟨hh.1, grown_cell hh.2 t0, grown_cell hh.2 t1, grown_cell hh.2 t2, grown_cell hh.2 t3, grown_cell hh.2 t4, grown_cell hh.2 t5, grown_cell hh.2 t6, grown_cell hh.2 t7, grown_cell hh.2 t8, grown_cell hh.2 t9, grown_cell hh.2 t10, grown_cell hh.2 t11, grown_cell hh.2 t12, grown_cell hh.2 t13, grown_cell hh.2 t14, grown_cell hh.2 t15, grown_cell hh.2 t16, grown_cell hh.2 t17, grown_cell hh.2 t18, grown_cell hh.2 t19, grown_cell hh.2 t20, grown_cell hh.2 t21, grown_cell hh.2 t22, grown_cell hh.2 t23, grown_cell hh.2 t24, grown_cell hh.2 t25, grown_cell hh.2 t26, grown_cell hh.2 t27, grown_cell hh.2 t28, grown_cell hh.2 t29, grown_cell hh.2 t30, grown_cell hh.2 t31, grown_cell hh.2 t32, grown_cell hh.2 t33, grown_cell hh.2 t34, grown_cell hh.2 t35, tf.trans (Fr.of_grown _ hh.2)⟩ : en = .returned (Pl.ov (4, false, x * 65536 + (x * 65536), 0, 0, ⟨#[]⟩)) ∧ (w'.cell? ⟨g1, 0, none⟩ = some (.int .i64 4) ∧ w'.cell? ⟨g1, 1, none⟩ = some (.bool false) ∧ w'.cell? ⟨g1, 2, none⟩ = some (.int .i64 (x * 65536 + (x * 65536))) ∧ w'.cell? ⟨g1, 3, none⟩ = some (.int .i64 0) ∧ w'.cell? ⟨g1, 4, none⟩ = some (.int .i64 0) ∧ w'.cell? ⟨g1, 5, none⟩ = some (.string ⟨#[]⟩) ∧ w'.cell? ⟨g2, 0, none⟩ = some (.int .i64 4) ∧ w'.cell? ⟨g2, 1, none⟩ = some (.bool false) ∧ w'.cell? ⟨g2, 2, none⟩ = some (.int .i64 0) ∧ w'.cell? ⟨g2, 3, none⟩ = some (.int .i64 0) ∧ w'.cell? ⟨g2, 4, none⟩ = some (.int .i64 0) ∧ w'.cell? ⟨g2, 5, none⟩ = some (.string ⟨#[]⟩) ∧ w'.cell? ⟨g3, 0, none⟩ = some (.int .i64 3) ∧ w'.cell? ⟨g3, 1, none⟩ = some (.bool false) ∧ w'.cell? ⟨g3, 2, none⟩ = some (.int .i64 x) ∧ w'.cell? ⟨g3, 3, none⟩ = some (.int .i64 0) ∧ w'.cell? ⟨g3, 4, none⟩ = some (.int .i64 0) ∧ w'.cell? ⟨g3, 5, none⟩ = some (.string ⟨#[]⟩) ∧ w'.cell? ⟨g4, 0, none⟩ = some (.int .i64 3) ∧ w'.cell? ⟨g4, 1, none⟩ = some (.bool false) ∧ w'.cell? ⟨g4, 2, none⟩ = some (.int .i64 x) ∧ w'.cell? ⟨g4, 3, none⟩ = some (.int .i64 0) ∧ w'.cell? ⟨g4, 4, none⟩ = some (.int .i64 0) ∧ w'.cell? ⟨g4, 5, none⟩ = some (.string ⟨#[]⟩) ∧ w'.cell? ⟨q, 0, none⟩ = some (.int .i64 3) ∧ w'.cell? ⟨q, 1, none⟩ = some (.bool false) ∧ w'.cell? ⟨q, 2, none⟩ = some (.int .i64 x) ∧ w'.cell? ⟨q, 3, none⟩ = some (.int .i64 0) ∧ w'.cell? ⟨q, 4, none⟩ = some (.int .i64 0) ∧ w'.cell? ⟨q, 5, none⟩ = some (.string ⟨#[]⟩) ∧ w'.cell? ⟨q, 6, none⟩ = some (.int .i64 4) ∧ w'.cell? ⟨q, 7, none⟩ = some (.bool false) ∧ w'.cell? ⟨q, 8, none⟩ = some (.int .i64 (x * 65536)) ∧ w'.cell? ⟨q, 9, none⟩ = some (.int .i64 0) ∧ w'.cell? ⟨q, 10, none⟩ = some (.int .i64 0) ∧ w'.cell? ⟨q, 11, none⟩ = some (.string ⟨#[]⟩) ∧ Fr (fun _ => False) w w')))
  have L2 := Lib.hid (fun Z (h : Z.cell? ⟨g1, 0, none⟩ = some (.int .i64 4) ∧ Z.cell? ⟨g1, 1, none⟩ = some (.bool false) ∧ Z.cell? ⟨g1, 2, none⟩ = some (.int .i64 (x * 65536 + (x * 65536))) ∧ Z.cell? ⟨g1, 3, none⟩ = some (.int .i64 0) ∧ Z.cell? ⟨g1, 4, none⟩ = some (.int .i64 0) ∧ Z.cell? ⟨g1, 5, none⟩ = some (.string ⟨#[]⟩) ∧ Z.cell? ⟨g2, 0, none⟩ = some (.int .i64 4) ∧ Z.cell? ⟨g2, 1, none⟩ = some (.bool false) ∧ Z.cell? ⟨g2, 2, none⟩ = some (.int .i64 0) ∧ Z.cell? ⟨g2, 3, none⟩ = some (.int .i64 0) ∧ Z.cell? ⟨g2, 4, none⟩ = some (.int .i64 0) ∧ Z.cell? ⟨g2, 5, none⟩ = some (.string ⟨#[]⟩) ∧ Z.cell? ⟨g3, 0, none⟩ = some (.int .i64 3) ∧ Z.cell? ⟨g3, 1, none⟩ = some (.bool false) ∧ Z.cell? ⟨g3, 2, none⟩ = some (.int .i64 x) ∧ Z.cell? ⟨g3, 3, none⟩ = some (.int .i64 0) ∧ Z.cell? ⟨g3, 4, none⟩ = some (.int .i64 0) ∧ Z.cell? ⟨g3, 5, none⟩ = some (.string ⟨#[]⟩) ∧ Z.cell? ⟨g4, 0, none⟩ = some (.int .i64 3) ∧ Z.cell? ⟨g4, 1, none⟩ = some (.bool false) ∧ Z.cell? ⟨g4, 2, none⟩ = some (.int .i64 x) ∧ Z.cell? ⟨g4, 3, none⟩ = some (.int .i64 0) ∧ Z.cell? ⟨g4, 4, none⟩ = some (.int .i64 0) ∧ Z.cell? ⟨g4, 5, none⟩ = some (.string ⟨#[]⟩) ∧ Z.cell? ⟨q, 0, none⟩ = some (.int .i64 3) ∧ Z.cell? ⟨q, 1, none⟩ = some (.bool false) ∧ Z.cell? ⟨q, 2, none⟩ = some (.int .i64 x) ∧ Z.cell? ⟨q, 3, none⟩ = some (.int .i64 0) ∧ Z.cell? ⟨q, 4, none⟩ = some (.int .i64 0) ∧ Z.cell? ⟨q, 5, none⟩ = some (.string ⟨#[]⟩) ∧ Z.cell? ⟨q, 6, none⟩ = some (.int .i64 4) ∧ Z.cell? ⟨q, 7, none⟩ = some (.bool false) ∧ Z.cell? ⟨q, 8, none⟩ = some (.int .i64 (x * 65536)) ∧ Z.cell? ⟨q, 9, none⟩ = some (.int .i64 0) ∧ Z.cell? ⟨q, 10, none⟩ = some (.int .i64 0) ∧ Z.cell? ⟨q, 11, none⟩ = some (.string ⟨#[]⟩) ∧ Fr (fun _ => False) w Z) => (FS.out Z).mono fun en w' hh => (by obtain ⟨t0, t1, t2, t3, t4, t5, t6, t7, t8, t9, t10, t11, t12, t13, t14, t15, t16, t17, t18, t19, t20, t21, t22, t23, t24, t25, t26, t27, t28, t29, t30, t31, t32, t33, t34, t35, tf⟩ := h; exact ⟨hh.1, grown_cell hh.2 t0, grown_cell hh.2 t1, grown_cell hh.2 t2, grown_cell hh.2 t3, grown_cell hh.2 t4, grown_cell hh.2 t5, grown_cell hh.2 t6, grown_cell hh.2 t7, grown_cell hh.2 t8, grown_cell hh.2 t9, grown_cell hh.2 t10, grown_cell hh.2 t11, grown_cell hh.2 t12, grown_cell hh.2 t13, grown_cell hh.2 t14, grown_cell hh.2 t15, grown_cell hh.2 t16, grown_cell hh.2 t17, grown_cell hh.2 t18, grown_cell hh.2 t19, grown_cell hh.2 t20, grown_cell hh.2 t21, grown_cell hh.2 t22, grown_cell hh.2 t23, grown_cell hh.2 t24, grown_cell hh.2 t25, grown_cell hh.2 t26, grown_cell hh.2 t27, grown_cell hh.2 t28, grown_cell hh.2 t29, grown_cell hh.2 t30, grown_cell hh.2 t31, grown_cell hh.2 t32, grown_cell hh.2 t33, grown_cell hh.2 t34, grown_cell hh.2 t35, tf.trans (Fr.of_grown _ hh.2)⟩ : en = .returned (Pl.ov (4, false, 0, 0, 0, ⟨#[]⟩)) ∧ (w'.cell? ⟨g1, 0, none⟩ = some (.int .i64 4) ∧ w'.cell? ⟨g1, 1, none⟩ = some (.bool false) ∧ w'.cell? ⟨g1, 2, none⟩ = some (.int .i64 (x * 65536 + (x * 65536))) ∧ w'.cell? ⟨g1, 3, none⟩ = some (.int .i64 0) ∧ w'.cell? ⟨g1, 4, none⟩ = some (.int .i64 0) ∧ w'.cell? ⟨g1, 5, none⟩ = some (.string ⟨#[]⟩) ∧ w'.cell? ⟨g2, 0, none⟩ = some (.int .i64 4) ∧ w'.cell? ⟨g2, 1, none⟩ = some (.bool false) ∧ w'.cell? ⟨g2, 2, none⟩ = some (.int .i64 0) ∧ w'.cell? ⟨g2, 3, none⟩ = some (.int .i64 0) ∧ w'.cell? ⟨g2, 4, none⟩ = some (.int .i64 0) ∧ w'.cell? ⟨g2, 5, none⟩ = some (.string ⟨#[]⟩) ∧ w'.cell? ⟨g3, 0, none⟩ = some (.int .i64 3) ∧ w'.cell? ⟨g3, 1, none⟩ = some (.bool false) ∧ w'.cell? ⟨g3, 2, none⟩ = some (.int .i64 x) ∧ w'.cell? ⟨g3, 3, none⟩ = some (.int .i64 0) ∧ w'.cell? ⟨g3, 4, none⟩ = some (.int .i64 0) ∧ w'.cell? ⟨g3, 5, none⟩ = some (.string ⟨#[]⟩) ∧ w'.cell? ⟨g4, 0, none⟩ = some (.int .i64 3) ∧ w'.cell? ⟨g4, 1, none⟩ = some (.bool false) ∧ w'.cell? ⟨g4, 2, none⟩ = some (.int .i64 x) ∧ w'.cell? ⟨g4, 3, none⟩ = some (.int .i64 0) ∧ w'.cell? ⟨g4, 4, none⟩ = some (.int .i64 0) ∧ w'.cell? ⟨g4, 5, none⟩ = some (.string ⟨#[]⟩) ∧ w'.cell? ⟨q, 0, none⟩ = some (.int .i64 3) ∧ w'.cell? ⟨q, 1, none⟩ = some (.bool false) ∧ w'.cell? ⟨q, 2, none⟩ = some (.int .i64 x) ∧ w'.cell? ⟨q, 3, none⟩ = some (.int .i64 0) ∧ w'.cell? ⟨q, 4, none⟩ = some (.int .i64 0) ∧ w'.cell? ⟨q, 5, none⟩ = some (.string ⟨#[]⟩) ∧ w'.cell? ⟨q, 6, none⟩ = some (.int .i64 4) ∧ w'.cell? ⟨q, 7, none⟩ = some (.bool false) ∧ w'.cell? ⟨q, 8, none⟩ = some (.int .i64 (x * 65536)) ∧ w'.cell? ⟨q, 9, none⟩ = some (.int .i64 0) ∧ w'.cell? ⟨q, 10, none⟩ = some (.int .i64 0) ∧ w'.cell? ⟨q, 11, none⟩ = some (.string ⟨#[]⟩) ∧ Fr (fun _ => False) w w')))
  have wr9 : IntKind.i64.wrap (x * 65536) = x * 65536 := by unfold IntKind.wrap IntKind.bits IntKind.signed; simp; omega
  have wr13 : IntKind.i64.wrap (x * 65536 + (x * 65536)) = x * 65536 + (x * 65536) := by unfold IntKind.wrap IntKind.bits IntKind.signed; simp; omega
  have wr0 : IntKind.i64.wrap 0 = 0 := rfl
  have wrm : IntKind.i64.wrap (x * 65536 - x * 65536) = 0 := by rw [Int.sub_self]; rfl
  clear FA FS
  go_wp2_with fail
  go_region_held3 (fun Z => Z.cell? ⟨g1, 0, none⟩ = some (.int .i64 4) ∧ Z.cell? ⟨g1, 1, none⟩ = some (.bool false) ∧ Z.cell? ⟨g1, 2, none⟩ = some (.int .i64 (x * 65536 + (x * 65536))) ∧ Z.cell? ⟨g1, 3, none⟩ = some (.int .i64 0) ∧ Z.cell? ⟨g1, 4, none⟩ = some (.int .i64 0) ∧ Z.cell? ⟨g1, 5, none⟩ = some (.string ⟨#[]⟩) ∧ Z.cell? ⟨g2, 0, none⟩ = some (.int .i64 4) ∧ Z.cell? ⟨g2, 1, none⟩ = some (.bool false) ∧ Z.cell? ⟨g2, 2, none⟩ = some (.int .i64 0) ∧ Z.cell? ⟨g2, 3, none⟩ = some (.int .i64 0) ∧ Z.cell? ⟨g2, 4, none⟩ = some (.int .i64 0) ∧ Z.cell? ⟨g2, 5, none⟩ = some (.string ⟨#[]⟩) ∧ Z.cell? ⟨g3, 0, none⟩ = some (.int .i64 3) ∧ Z.cell? ⟨g3, 1, none⟩ = some (.bool false) ∧ Z.cell? ⟨g3, 2, none⟩ = some (.int .i64 x) ∧ Z.cell? ⟨g3, 3, none⟩ = some (.int .i64 0) ∧ Z.cell? ⟨g3, 4, none⟩ = some (.int .i64 0) ∧ Z.cell? ⟨g3, 5, none⟩ = some (.string ⟨#[]⟩) ∧ Z.cell? ⟨g4, 0, none⟩ = some (.int .i64 3) ∧ Z.cell? ⟨g4, 1, none⟩ = some (.bool false) ∧ Z.cell? ⟨g4, 2, none⟩ = some (.int .i64 x) ∧ Z.cell? ⟨g4, 3, none⟩ = some (.int .i64 0) ∧ Z.cell? ⟨g4, 4, none⟩ = some (.int .i64 0) ∧ Z.cell? ⟨g4, 5, none⟩ = some (.string ⟨#[]⟩) ∧ Z.cell? ⟨q, 0, none⟩ = some (.int .i64 3) ∧ Z.cell? ⟨q, 1, none⟩ = some (.bool false) ∧ Z.cell? ⟨q, 2, none⟩ = some (.int .i64 x) ∧ Z.cell? ⟨q, 3, none⟩ = some (.int .i64 0) ∧ Z.cell? ⟨q, 4, none⟩ = some (.int .i64 0) ∧ Z.cell? ⟨q, 5, none⟩ = some (.string ⟨#[]⟩) ∧ Z.cell? ⟨q, 6, none⟩ = some (.int .i64 4) ∧ Z.cell? ⟨q, 7, none⟩ = some (.bool false) ∧ Z.cell? ⟨q, 8, none⟩ = some (.int .i64 (x * 65536)) ∧ Z.cell? ⟨q, 9, none⟩ = some (.int .i64 0) ∧ Z.cell? ⟨q, 10, none⟩ = some (.int .i64 0) ∧ Z.cell? ⟨q, 11, none⟩ = some (.string ⟨#[]⟩) ∧ Fr (fun _ => False) w Z)
    (first | assumption | exact HT.out)
    (first
      | (go_at_call 13; first | (with_reducible refine Calls.mono (L1.out _ ?_) ?_; (assumption); rintro e w' ⟨rfl, hS⟩) | (with_reducible refine Calls.mono (L2.out _ ?_) ?_; (assumption); rintro e w' ⟨rfl, hS⟩)))
  all_goals
    have HX := Lib.hid hS
    clear hS
    obtain ⟨t0, t1, t2, t3, t4, t5, t6, t7, t8, t9, t10, t11, t12, t13, t14, t15, t16, t17, t18, t19, t20, t21, t22, t23, t24, t25, t26, t27, t28, t29, t30, t31, t32, t33, t34, t35, tf⟩ := HX.out
    go_wp2_with fail
    go_quiet (fail)
    go_wp2_with fail
    go_ret
    exact ⟨rfl, Kept.of_fr tf⟩
set_option maxHeartbeats 8000000 in
set_option maxRecDepth 100000 in
theorem walk_mixed_lt (a b : Int) (ha : -32768 ≤ a ∧ a ≤ 32767) (hb : -2147483648 ≤ b ∧ b ≤ 2147483647) (x y : Int) (hx : a.tmod 8000 = x) (hy : b.tmod 524288000 = y) (hc : x * 65536 < y) (w : World) :
    Calls Try.prog 6 #[.int .i16 a, .int .i32 b] w fun en w' => en = .returned (.bool true) ∧ Kept w w' := by
  have bx := Pl.tmod_in a 8000 (by omega)
  have by' := Pl.tmod_in b 524288000 (by omega)
  rw [hx] at bx
  rw [hy] at by'
  have K := Lib.hid known18
  have N := Lib.hid (fun Z => num18 x Z)
  have FX := Lib.hid (fun Z => fix18 y Z)
  have FA := Lib.hid (fun Z => fix18 (x * 65536 + y) Z)
  have FS := Lib.hid (fun Z => fix18 (x * 65536 - y) Z)
  unfold Pl.intO at N
  unfold Pl.fixO at FX FA FS
  have D1 := Lib.hid (mixed_add x y bx by')
  have D2 := Lib.hid (mixed_sub x y bx by')
  have D3 := Lib.hid (mixed_min x y)
  have D4 := Lib.hid (mixed_max x y)
  rw [if_neg (by omega)] at D3
  rw [if_pos (by omega)] at D4
  have m0 := Pl.may_intO (v := x) (by unfold Pl.inInt; omega)
  have m1 := Pl.may_fix (v := y) (by unfold Pl.inFix; omega)
  have R1 := Lib.hid (fun Z b (hA : RowV Z (.slice (some ⟨b, 0, none⟩) 2 2) [Pl.intO x, Pl.fixO y]) => run18 Z b [Pl.intO x, Pl.fixO y] 2 rfl hA (Pl.may_two m0 m1) (by simp) ⟨#[97, 100, 100]⟩ 11 op_add 0 [Pl.fixO (x * 65536 + y)] D1.out)
  have R2 := Lib.hid (fun Z b (hA : RowV Z (.slice (some ⟨b, 0, none⟩) 2 2) [Pl.intO x, Pl.fixO y]) => run18 Z b [Pl.intO x, Pl.fixO y] 2 rfl hA (Pl.may_two m0 m1) (by simp) ⟨#[115, 117, 98]⟩ 12 op_sub 0 [Pl.fixO (x * 65536 - y)] D2.out)
  have R3 := Lib.hid (fun Z b (hA : RowV Z (.slice (some ⟨b, 0, none⟩) 2 2) [Pl.intO x, Pl.fixO y]) => run18 Z b [Pl.intO x, Pl.fixO y] 2 rfl hA (Pl.may_two m0 m1) (by simp) ⟨#[109, 105, 110]⟩ 35 op_min 0 [Pl.intO x] D3.out)
  have R4 := Lib.hid (fun Z b (hA : RowV Z (.slice (some ⟨b, 0, none⟩) 2 2) [Pl.intO x, Pl.fixO y]) => run18 Z b [Pl.intO x, Pl.fixO y] 2 rfl hA (Pl.may_two m0 m1) (by simp) ⟨#[109, 97, 120]⟩ 36 op_max 0 [Pl.fixO y] D4.out)
  have hne : (x * 65536 == y) = false := beq_eq_false_iff_ne.2 (by omega)
  clear D1 D2 D3 D4 m0 m1
  go_enter Try.func6, Try.ntmps6
  go_wp2_with fail
  refine (K.out _).mono ?_
  rintro en w1 ⟨rfl, f1⟩
  have F1 := Lib.hid f1
  clear f1 K
  go_wp2_with fail
  refine (N.out _).mono ?_
  rintro en w2 ⟨rfl, g2⟩
  go_wp2_with fail
  refine (FX.out _).mono ?_
  rintro en w3 ⟨rfl, g3⟩
  have RV0 := Lib.hid (row_new w3 [Pl.intO x, Pl.fixO y] #[.int .i64 3, .bool false, .int .i64 x, .int .i64 0, .int .i64 0, .string ⟨#[]⟩, .int .i64 4, .bool false, .int .i64 y, .int .i64 0, .int .i64 0, .string ⟨#[]⟩] rfl 2 rfl)
  have F3 := Lib.hid (((F1.out.trans (Fr.of_grown _ g2)).trans (Fr.of_grown _ g3)).trans (Fr.alloc (fun _ => False) w3 (.cells #[.int .i64 3, .bool false, .int .i64 x, .int .i64 0, .int .i64 0, .string ⟨#[]⟩, .int .i64 4, .bool false, .int .i64 y, .int .i64 0, .int .i64 0, .string ⟨#[]⟩] 24)))
  clear g2 g3 F1 N FX
  go_wp2_with fail
  refine (R1.out _ _ RV0.out).mono ?_
  rintro en w4 ⟨vi, rfl, r, o, f⟩
  obtain ⟨g1, cp1, rfl, hcp1, hg1, C1⟩ := row_get1 r o
  have C1' := Lib.hid C1
  have RV1 := Lib.hid (RV0.out.fr0 f)
  have F4 := Lib.hid (F3.out.trans f)
  have FF1 := Lib.hid f
  clear r o f C1 RV0 F3 R1
  go_wp2_with fail
  refine (R2.out _ _ RV1.out).mono ?_
  rintro en w5 ⟨vi, rfl, r, o, f⟩
  obtain ⟨g2, cp2, rfl, hcp2, hg2, C2⟩ := row_get1 r o
  have C2' := Lib.hid C2
  have RV2 := Lib.hid (RV1.out.fr0 f)
  have F5 := Lib.hid (F4.out.trans f)
  have FF2 := Lib.hid f
  clear r o f C2 RV1 F4 R2
  go_wp2_with fail
  refine (R3.out _ _ RV2.out).mono ?_
  rintro en w6 ⟨vi, rfl, r, o, f⟩
  obtain ⟨g3, cp3, rfl, hcp3, hg3, C3⟩ := row_get1 r o
  have C3' := Lib.hid C3
  have RV3 := Lib.hid (RV2.out.fr0 f)
  have F6 := Lib.hid (F5.out.trans f)
  have FF3 := Lib.hid f
  clear r o f C3 RV2 F5 R3
  go_wp2_with fail
  refine (R4.out _ _ RV3.out).mono ?_
  rintro en w7 ⟨vi, rfl, r, o, f⟩
  obtain ⟨g4, cp4, rfl, hcp4, hg4, C4⟩ := row_get1 r o
  have C4' := Lib.hid C4
  have RV4 := Lib.hid (RV3.out.fr0 f)
  have F7 := Lib.hid (F6.out.trans f)
  have FF4 := Lib.hid f
  clear r o f C4 RV3 F6 R4
  obtain ⟨q, hq⟩ : ∃ q, q = w3.heap.size := ⟨_, rfl⟩
  rw [← hq] at RV4
  rw [← hq]
  clear hq
  obtain ⟨gq, oq, cq, hvq, hgq, x0, x1, x2, x3, x4, x5⟩ := RV4.out.at 0 _ rfl
  obtain ⟨gq2, oq2, cq2, hvq2, _, y0, y1, y2, y3, y4, y5⟩ := RV4.out.at 1 _ rfl
  injection hvq with e1 _ _
  injection e1 with e1
  injection e1 with e1 e2 _
  subst e1
  subst e2
  injection hvq2 with e1 _ _
  injection e1 with e1
  injection e1 with e1 e2 _
  subst e1
  subst e2
  have HT : Hid (w7.cell? ⟨g1, 0, none⟩ = some (.int .i64 4) ∧ w7.cell? ⟨g1, 1, none⟩ = some (.bool false) ∧ w7.cell? ⟨g1, 2, none⟩ = some (.int .i64 (x * 65536 + y)) ∧ w7.cell? ⟨g1, 3, none⟩ = some (.int .i64 0) ∧ w7.cell? ⟨g1, 4, none⟩ = some (.int .i64 0) ∧ w7.cell? ⟨g1, 5, none⟩ = some (.string ⟨#[]⟩) ∧ w7.cell? ⟨g2, 0, none⟩ = some (.int .i64 4) ∧ w7.cell? ⟨g2, 1, none⟩ = some (.bool false) ∧ w7.cell? ⟨g2, 2, none⟩ = some (.int .i64 (x * 65536 - y)) ∧ w7.cell? ⟨g2, 3, none⟩ = some (.int .i64 0) ∧ w7.cell? ⟨g2, 4, none⟩ = some (.int .i64 0) ∧ w7.cell? ⟨g2, 5, none⟩ = some (.string ⟨#[]⟩) ∧ w7.cell? ⟨g3, 0, none⟩ = some (.int .i64 3) ∧ w7.cell? ⟨g3, 1, none⟩ = some (.bool false) ∧ w7.cell? ⟨g3, 2, none⟩ = some (.int .i64 x) ∧ w7.cell? ⟨g3, 3, none⟩ = some (.int .i64 0) ∧ w7.cell? ⟨g3, 4, none⟩ = some (.int .i64 0) ∧ w7.cell? ⟨g3, 5, none⟩ = some (.string ⟨#[]⟩) ∧ w7.cell? ⟨g4, 0, none⟩ = some (.int .i64 4) ∧ w7.cell? ⟨g4, 1, none⟩ = some (.bool false) ∧ w7.cell? ⟨g4, 2, none⟩ = some (.int .i64 y) ∧ w7.cell? ⟨g4, 3, none⟩ = some (.int .i64 0) ∧ w7.cell? ⟨g4, 4, none⟩ = some (.int .i64 0) ∧ w7.cell? ⟨g4, 5, none⟩ = some (.string ⟨#[]⟩) ∧ w7.cell? ⟨q, 0, none⟩ = some (.int .i64 3) ∧ w7.cell? ⟨q, 1, none⟩ = some (.bool false) ∧ w7.cell? ⟨q, 2, none⟩ = some (.int .i64 x) ∧ w7.cell? ⟨q, 3, none⟩ = some (.int .i64 0) ∧ w7.cell? ⟨q, 4, none⟩ = some (.int .i64 0) ∧ w7.cell? ⟨q, 5, none⟩ = some (.string ⟨#[]⟩) ∧ w7.cell? ⟨q, 6, none⟩ = some (.int .i64 4) ∧ w7.cell? ⟨q, 7, none⟩ = some (.bool false) ∧ w7.cell? ⟨q, 8, none⟩ = some (.int .i64 y) ∧ w7.cell? ⟨q, 9, none⟩ = some (.int .i64 0) ∧ w7.cell? ⟨q, 10, none⟩ = some (.int .i64 0) ∧ w7.cell? ⟨q, 11, none⟩ = some (.string ⟨#[]⟩) ∧ Fr (fun _ => False) w w7) := Lib.hid ⟨(cell_fr0 (cell_fr0 (cell_fr0 C1'.out.1 FF2.out) FF3.out) FF4.out), (cell_fr0 (cell_fr0 (cell_fr0 C1'.out.2.1 FF2.out) FF3.out) FF4.out), (cell_fr0 (cell_fr0 (cell_fr0 C1'.out.2.2.1 FF2.out) FF3.out) FF4.out), (cell_fr0 (cell_fr0 (cell_fr0 C1'.out.2.2.2.1 FF2.out) FF3.out) FF4.out), (cell_fr0 (cell_fr0 (cell_fr0 C1'.out.2.2.2.2.1 FF2.out) FF3.out) FF4.out), (cell_fr0 (cell_fr0 (cell_fr0 C1'.out.2.2.2.2.2 FF2.out) FF3.out) FF4.out), (cell_fr0 (cell_fr0 C2'.out.1 FF3.out) FF4.out), (cell_fr0 (cell_fr0 C2'.out.2.1 FF3.out) FF4.out), (cell_fr0 (cell_fr0 C2'.out.2.2.1 FF3.out) FF4.out), (cell_fr0 (cell_fr0 C2'.out.2.2.2.1 FF3.out) FF4.out), (cell_fr0 (cell_fr0 C2'.out.2.2.2.2.1 FF3.out) FF4.out), (cell_fr0 (cell_fr0 C2'.out.2.2.2.2.2 FF3.out) FF4.out), (cell_fr0 C3'.out.1 FF4.out), (cell_fr0 C3'.out.2.1 FF4.out), (cell_fr0 C3'.out.2.2.1 FF4.out), (cell_fr0 C3'.out.2.2.2.1 FF4.out), (cell_fr0 C3'.out.2.2.2.2.1 FF4.out), (cell_fr0 C3'.out.2.2.2.2.2 FF4.out), C4'.out.1, C4'.out.2.1, C4'.out.2.2.1, C4'.out.2.2.2.1, C4'.out.2.2.2.2.1, C4'.out.2.2.2.2.2, by simpa [Pl.intO] using x0, by simpa [Pl.intO] using x1, by simpa [Pl.intO] using x2, by simpa [Pl.intO] using x3, by simpa [Pl.intO] using x4, by simpa [Pl.intO] using x5, by simpa [Pl.fixO] using y0, by simpa [Pl.fixO] using y1, by simpa [Pl.fixO] using y2, by simpa [Pl.fixO] using y3, by simpa [Pl.fixO] using y4, by simpa [Pl.fixO] using y5, F7.out⟩
  clear x0 x1 x2 x3 x4 x5 y0 y1 y2 y3 y4 y5 hgq C1' C2' C3' C4' FF1 FF2 FF3 FF4 RV4 F7
  have L1 := Lib.hid (fun Z (h : Z.cell? ⟨g1, 0, none⟩ = some (.int .i64 4) ∧ Z.cell? ⟨g1, 1, none⟩ = some (.bool false) ∧ Z.cell? ⟨g1, 2, none⟩ = some (.int .i64 (x * 65536 + y)) ∧ Z.cell? ⟨g1, 3, none⟩ = some (.int .i64 0) ∧ Z.cell? ⟨g1, 4, none⟩ = some (.int .i64 0) ∧ Z.cell? ⟨g1, 5, none⟩ = some (.string ⟨#[]⟩) ∧ Z.cell? ⟨g2, 0, none⟩ = some (.int .i64 4) ∧ Z.cell? ⟨g2, 1, none⟩ = some (.bool false) ∧ Z.cell? ⟨g2, 2, none⟩ = some (.int .i64 (x * 65536 - y)) ∧ Z.cell? ⟨g2, 3, none⟩ = some (.int .i64 0) ∧ Z.cell? ⟨g2, 4, none⟩ = some (.int .i64 0) ∧ Z.cell? ⟨g2, 5, none⟩ = some (.string ⟨#[]⟩) ∧ Z.cell? ⟨g3, 0, none⟩ = some (.int .i64 3) ∧ Z.cell? ⟨g3, 1, none⟩ = some (.bool false) ∧ Z.cell? ⟨g3, 2, none⟩ = some (.int .i64 x) ∧ Z.cell? ⟨g3, 3, none⟩ = some (.int .i64 0) ∧ Z.cell? ⟨g3, 4, none⟩ = some (.int .i64 0) ∧ Z.cell? ⟨g3, 5, none⟩ = some (.string ⟨#[]⟩) ∧ Z.cell? ⟨g4, 0, none⟩ = some (.int .i64 4) ∧ Z.cell? ⟨g4, 1, none⟩ = some (.bool false) ∧ Z.cell? ⟨g4, 2, none⟩ = some (.int .i64 y) ∧ Z.cell? ⟨g4, 3, none⟩ = some (.int .i64 0) ∧ Z.cell? ⟨g4, 4, none⟩ = some (.int .i64 0) ∧ Z.cell? ⟨g4, 5, none⟩ = some (.string ⟨#[]⟩) ∧ Z.cell? ⟨q, 0, none⟩ = some (.int .i64 3) ∧ Z.cell? ⟨q, 1, none⟩ = some (.bool false) ∧ Z.cell? ⟨q, 2, none⟩ = some (.int .i64 x) ∧ Z.cell? ⟨q, 3, none⟩ = some (.int .i64 0) ∧ Z.cell? ⟨q, 4, none⟩ = some (.int .i64 0) ∧ Z.cell? ⟨q, 5, none⟩ = some (.string ⟨#[]⟩) ∧ Z.cell? ⟨q, 6, none⟩ = some (.int .i64 4) ∧ Z.cell? ⟨q, 7, none⟩ = some (.bool false) ∧ Z.cell? ⟨q, 8, none⟩ = some (.int .i64 y) ∧ Z.cell? ⟨q, 9, none⟩ = some (.int .i64 0) ∧ Z.cell? ⟨q, 10, none⟩ = some (.int .i64 0) ∧ Z.cell? ⟨q, 11, none⟩ = some (.string ⟨#[]⟩) ∧ Fr (fun _ => False) w Z) => (FA.out Z).mono fun en w' hh => (by obtain ⟨t0, t1, t2, t3, t4, t5, t6, t7, t8, t9, t10, t11, t12, t13, t14, t15, t16, t17, t18, t19, t20, t21, t22, t23, t24, t25, t26, t27, t28, t29, t30, t31, t32, t33, t34, t35, tf⟩ := h; exact ⟨hh.1, grown_cell hh.2 t0, grown_cell hh.2 t1, grown_cell hh.2 t2, grown_cell hh.2 t3, grown_cell hh.2 t4, grown_cell hh.2 t5, grown_cell hh.2 t6, grown_cell hh.2 t7, grown_cell hh.2 t8, grown_cell hh.2 t9, grown_cell hh.2 t10, grown_cell hh.2 t11, grown_cell hh.2 t12, grown_cell hh.2 t13, grown_cell hh.2 t14, grown_cell hh.2 t15, grown_cell hh.2 t16, grown_cell hh.2 t17, grown_cell hh.2 t18, grown_cell hh.2 t19, grown_cell hh.2 t20, grown_cell hh.2 t21, grown_cell hh.2 t22, grown_cell hh.2 t23, grown_cell hh.2 t24, grown_cell hh.2 t25, grown_cell hh.2 t26, grown_cell hh.2 t27, grown_cell hh.2 t28, grown_cell hh.2 t29, grown_cell hh.2 t30, grown_cell hh.2 t31, grown_cell hh.2 t32, grown_cell hh.2 t33, grown_cell hh.2 t34, grown_cell hh.2 t35, tf.trans (Fr.of_grown _ hh.2)⟩ : en = .returned (Pl.ov (4, false, x * 65536 + y, 0, 0, ⟨#[]⟩)) ∧ (w'.cell? ⟨g1, 0, none⟩ = some (.int .i64 4) ∧ w'.cell? ⟨g1, 1, none⟩ = some (.bool false) ∧ w'.cell? ⟨g1, 2, none⟩ = some (.int .i64 (x * 65536 + y)) ∧ w'.cell? ⟨g1, 3, none⟩ = some (.int .i64 0) ∧ w'.cell? ⟨g1, 4, none⟩ = some (.int .i64 0) ∧ w'.cell? ⟨g1, 5, none⟩ = some (.string ⟨#[]⟩) ∧ w'.cell? ⟨g2, 0, none⟩ = some (.int .i64 4) ∧ w'.cell? ⟨g2, 1, none⟩ = some (.bool false) ∧ w'.cell? ⟨g2, 2, none⟩ = some (.int .i64 (x * 65536 - y)) ∧ w'.cell? ⟨g2, 3, none⟩ = some (.int .i64 0) ∧ w'.cell? ⟨g2, 4, none⟩ = some (.int .i64 0) ∧ w'.cell? ⟨g2, 5, none⟩ = some (.string ⟨#[]⟩) ∧ w'.cell? ⟨g3, 0, none⟩ = some (.int .i64 3) ∧ w'.cell? ⟨g3, 1, none⟩ = some (.bool false) ∧ w'.cell? ⟨g3, 2, none⟩ = some (.int .i64 x) ∧ w'.cell? ⟨g3, 3, none⟩ = some (.int .i64 0) ∧ w'.cell? ⟨g3, 4, none⟩ = some (.int .i64 0) ∧ w'.cell? ⟨g3, 5, none⟩ = some (.string ⟨#[]⟩) ∧ w'.cell? ⟨g4, 0, none⟩ = some (.int .i64 4) ∧ w'.cell? ⟨g4, 1, none⟩ = some (.bool false) ∧ w'.cell? ⟨g4, 2, none⟩ = some (.int .i64 y) ∧ w'.cell? ⟨g4, 3, none⟩ = some (.int .i64 0) ∧ w'.cell? ⟨g4, 4, none⟩ = some (.int .i64 0) ∧ w'.cell? ⟨g4, 5, none⟩ = some (.string ⟨#[]⟩) ∧ w'.cell? ⟨q, 0, none⟩ = some (.int .i64 3) ∧ w'.cell? ⟨q, 1, none⟩ = some (.bool false) ∧ w'.cell? ⟨q, 2, none⟩ = some (.int .i64 x) ∧ w'.cell? ⟨q, 3, none⟩ = some (.int .i64 0) ∧ w'.cell? ⟨q, 4, none⟩ = some (.int .i64 0) ∧ w'.cell? ⟨q, 5, none⟩ = some (.string ⟨#[]⟩) ∧ w'.cell? ⟨q, 6, none⟩ = some (.int .i64 4) ∧ w'.cell? ⟨q, 7, none⟩ = some (.bool false) ∧ w'.cell? ⟨q, 8, none⟩ = some (.int .i64 y) ∧ w'.cell? ⟨q, 9, none⟩ = some (.int .i64 0) ∧ w'.cell? ⟨q, 10, none⟩ = some (.int .i64 0) ∧ w'.cell? ⟨q, 11, none⟩ = some (.string ⟨#[]⟩) ∧ Fr (fun _ => False) w w')))
  have L2 := Lib.hid (fun Z (h : Z.cell? ⟨g1, 0, none⟩ = some (.int .i64 4) ∧ Z.cell? ⟨g1, 1, none⟩ = some (.bool false) ∧ Z.cell? ⟨g1, 2, none⟩ = some (.int .i64 (x * 65536 + y)) ∧ Z.cell? ⟨g1, 3, none⟩ = some (.int .i64 0) ∧ Z.cell? ⟨g1, 4, none⟩ = some (.int .i64 0) ∧ Z.cell? ⟨g1, 5, none⟩ = some (.string ⟨#[]⟩) ∧ Z.cell? ⟨g2, 0, none⟩ = some (.int .i64 4) ∧ Z.cell? ⟨g2, 1, none⟩ = some (.bool false) ∧ Z.cell? ⟨g2, 2, none⟩ = some (.int .i64 (x * 65536 - y)) ∧ Z.cell? ⟨g2, 3, none⟩ = some (.int .i64 0) ∧ Z.cell? ⟨g2, 4, none⟩ = some (.int .i64 0) ∧ Z.cell? ⟨g2, 5, none⟩ = some (.string ⟨#[]⟩) ∧ Z.cell? ⟨g3, 0, none⟩ = some (.int .i64 3) ∧ Z.cell? ⟨g3, 1, none⟩ = some (.bool false) ∧ Z.cell? ⟨g3, 2, none⟩ = some (.int .i64 x) ∧ Z.cell? ⟨g3, 3, none⟩ = some (.int .i64 0) ∧ Z.cell? ⟨g3, 4, none⟩ = some (.int .i64 0) ∧ Z.cell? ⟨g3, 5, none⟩ = some (.string ⟨#[]⟩) ∧ Z.cell? ⟨g4, 0, none⟩ = some (.int .i64 4) ∧ Z.cell? ⟨g4, 1, none⟩ = some (.bool false) ∧ Z.cell? ⟨g4, 2, none⟩ = some (.int .i64 y) ∧ Z.cell? ⟨g4, 3, none⟩ = some (.int .i64 0) ∧ Z.cell? ⟨g4, 4, none⟩ = some (.int .i64 0) ∧ Z.cell? ⟨g4, 5, none⟩ = some (.string ⟨#[]⟩) ∧ Z.cell? ⟨q, 0, none⟩ = some (.int .i64 3) ∧ Z.cell? ⟨q, 1, none⟩ = some (.bool false) ∧ Z.cell? ⟨q, 2, none⟩ = some (.int .i64 x) ∧ Z.cell? ⟨q, 3, none⟩ = some (.int .i64 0) ∧ Z.cell? ⟨q, 4, none⟩ = some (.int .i64 0) ∧ Z.cell? ⟨q, 5, none⟩ = some (.string ⟨#[]⟩) ∧ Z.cell? ⟨q, 6, none⟩ = some (.int .i64 4) ∧ Z.cell? ⟨q, 7, none⟩ = some (.bool false) ∧ Z.cell? ⟨q, 8, none⟩ = some (.int .i64 y) ∧ Z.cell? ⟨q, 9, none⟩ = some (.int .i64 0) ∧ Z.cell? ⟨q, 10, none⟩ = some (.int .i64 0) ∧ Z.cell? ⟨q, 11, none⟩ = some (.string ⟨#[]⟩) ∧ Fr (fun _ => False) w Z) => (FS.out Z).mono fun en w' hh => (by obtain ⟨t0, t1, t2, t3, t4, t5, t6, t7, t8, t9, t10, t11, t12, t13, t14, t15, t16, t17, t18, t19, t20, t21, t22, t23, t24, t25, t26, t27, t28, t29, t30, t31, t32, t33, t34, t35, tf⟩ := h; exact ⟨hh.1, grown_cell hh.2 t0, grown_cell hh.2 t1, grown_cell hh.2 t2, grown_cell hh.2 t3, grown_cell hh.2 t4, grown_cell hh.2 t5, grown_cell hh.2 t6, grown_cell hh.2 t7, grown_cell hh.2 t8, grown_cell hh.2 t9, grown_cell hh.2 t10, grown_cell hh.2 t11, grown_cell hh.2 t12, grown_cell hh.2 t13, grown_cell hh.2 t14, grown_cell hh.2 t15, grown_cell hh.2 t16, grown_cell hh.2 t17, grown_cell hh.2 t18, grown_cell hh.2 t19, grown_cell hh.2 t20, grown_cell hh.2 t21, grown_cell hh.2 t22, grown_cell hh.2 t23, grown_cell hh.2 t24, grown_cell hh.2 t25, grown_cell hh.2 t26, grown_cell hh.2 t27, grown_cell hh.2 t28, grown_cell hh.2 t29, grown_cell hh.2 t30, grown_cell hh.2 t31, grown_cell hh.2 t32, grown_cell hh.2 t33, grown_cell hh.2 t34, grown_cell hh.2 t35, tf.trans (Fr.of_grown _ hh.2)⟩ : en = .returned (Pl.ov (4, false, x * 65536 - y, 0, 0, ⟨#[]⟩)) ∧ (w'.cell? ⟨g1, 0, none⟩ = some (.int .i64 4) ∧ w'.cell? ⟨g1, 1, none⟩ = some (.bool false) ∧ w'.cell? ⟨g1, 2, none⟩ = some (.int .i64 (x * 65536 + y)) ∧ w'.cell? ⟨g1, 3, none⟩ = some (.int .i64 0) ∧ w'.cell? ⟨g1, 4, none⟩ = some (.int .i64 0) ∧ w'.cell? ⟨g1, 5, none⟩ = some (.string ⟨#[]⟩) ∧ w'.cell? ⟨g2, 0, none⟩ = some (.int .i64 4) ∧ w'.cell? ⟨g2, 1, none⟩ = some (.bool false) ∧ w'.cell? ⟨g2, 2, none⟩ = some (.int .i64 (x * 65536 - y)) ∧ w'.cell? ⟨g2, 3, none⟩ = some (.int .i64 0) ∧ w'.cell? ⟨g2, 4, none⟩ = some (.int .i64 0) ∧ w'.cell? ⟨g2, 5, none⟩ = some (.string ⟨#[]⟩) ∧ w'.cell? ⟨g3, 0, none⟩ = some (.int .i64 3) ∧ w'.cell? ⟨g3, 1, none⟩ = some (.bool false) ∧ w'.cell? ⟨g3, 2, none⟩ = some (.int .i64 x) ∧ w'.cell? ⟨g3, 3, none⟩ = some (.int .i64 0) ∧ w'.cell? ⟨g3, 4, none⟩ = some (.int .i64 0) ∧ w'.cell? ⟨g3, 5, none⟩ = some (.string ⟨#[]⟩) ∧ w'.cell? ⟨g4, 0, none⟩ = some (.int .i64 4) ∧ w'.cell? ⟨g4, 1, none⟩ = some (.bool false) ∧ w'.cell? ⟨g4, 2, none⟩ = some (.int .i64 y) ∧ w'.cell? ⟨g4, 3, none⟩ = some (.int .i64 0) ∧ w'.cell? ⟨g4, 4, none⟩ = some (.int .i64 0) ∧ w'.cell? ⟨g4, 5, none⟩ = some (.string ⟨#[]⟩) ∧ w'.cell? ⟨q, 0, none⟩ = some (.int .i64 3) ∧ w'.cell? ⟨q, 1, none⟩ = some (.bool false) ∧ w'.cell? ⟨q, 2, none⟩ = some (.int .i64 x) ∧ w'.cell? ⟨q, 3, none⟩ = some (.int .i64 0) ∧ w'.cell? ⟨q, 4, none⟩ = some (.int .i64 0) ∧ w'.cell? ⟨q, 5, none⟩ = some (.string ⟨#[]⟩) ∧ w'.cell? ⟨q, 6, none⟩ = some (.int .i64 4) ∧ w'.cell? ⟨q, 7, none⟩ = some (.bool false) ∧ w'.cell? ⟨q, 8, none⟩ = some (.int .i64 y) ∧ w'.cell? ⟨q, 9, none⟩ = some (.int .i64 0) ∧ w'.cell? ⟨q, 10, none⟩ = some (.int .i64 0) ∧ w'.cell? ⟨q, 11, none⟩ = some (.string ⟨#[]⟩) ∧ Fr (fun _ => False) w w')))
  have wr9 : IntKind.i64.wrap (x * 65536) = x * 65536 := by unfold IntKind.wrap IntKind.bits IntKind.signed; simp; omega
  have wr13 : IntKind.i64.wrap (x * 65536 + y) = x * 65536 + y := by unfold IntKind.wrap IntKind.bits IntKind.signed; simp; omega
  have wrm : IntKind.i64.wrap (x * 65536 - y) = x * 65536 - y := by unfold IntKind.wrap IntKind.bits IntKind.signed; simp; omega
  clear FA FS
  go_wp2_with fail
  go_region_held3 (fun Z => Z.cell? ⟨g1, 0, none⟩ = some (.int .i64 4) ∧ Z.cell? ⟨g1, 1, none⟩ = some (.bool false) ∧ Z.cell? ⟨g1, 2, none⟩ = some (.int .i64 (x * 65536 + y)) ∧ Z.cell? ⟨g1, 3, none⟩ = some (.int .i64 0) ∧ Z.cell? ⟨g1, 4, none⟩ = some (.int .i64 0) ∧ Z.cell? ⟨g1, 5, none⟩ = some (.string ⟨#[]⟩) ∧ Z.cell? ⟨g2, 0, none⟩ = some (.int .i64 4) ∧ Z.cell? ⟨g2, 1, none⟩ = some (.bool false) ∧ Z.cell? ⟨g2, 2, none⟩ = some (.int .i64 (x * 65536 - y)) ∧ Z.cell? ⟨g2, 3, none⟩ = some (.int .i64 0) ∧ Z.cell? ⟨g2, 4, none⟩ = some (.int .i64 0) ∧ Z.cell? ⟨g2, 5, none⟩ = some (.string ⟨#[]⟩) ∧ Z.cell? ⟨g3, 0, none⟩ = some (.int .i64 3) ∧ Z.cell? ⟨g3, 1, none⟩ = some (.bool false) ∧ Z.cell? ⟨g3, 2, none⟩ = some (.int .i64 x) ∧ Z.cell? ⟨g3, 3, none⟩ = some (.int .i64 0) ∧ Z.cell? ⟨g3, 4, none⟩ = some (.int .i64 0) ∧ Z.cell? ⟨g3, 5, none⟩ = some (.string ⟨#[]⟩) ∧ Z.cell? ⟨g4, 0, none⟩ = some (.int .i64 4) ∧ Z.cell? ⟨g4, 1, none⟩ = some (.bool false) ∧ Z.cell? ⟨g4, 2, none⟩ = some (.int .i64 y) ∧ Z.cell? ⟨g4, 3, none⟩ = some (.int .i64 0) ∧ Z.cell? ⟨g4, 4, none⟩ = some (.int .i64 0) ∧ Z.cell? ⟨g4, 5, none⟩ = some (.string ⟨#[]⟩) ∧ Z.cell? ⟨q, 0, none⟩ = some (.int .i64 3) ∧ Z.cell? ⟨q, 1, none⟩ = some (.bool false) ∧ Z.cell? ⟨q, 2, none⟩ = some (.int .i64 x) ∧ Z.cell? ⟨q, 3, none⟩ = some (.int .i64 0) ∧ Z.cell? ⟨q, 4, none⟩ = some (.int .i64 0) ∧ Z.cell? ⟨q, 5, none⟩ = some (.string ⟨#[]⟩) ∧ Z.cell? ⟨q, 6, none⟩ = some (.int .i64 4) ∧ Z.cell? ⟨q, 7, none⟩ = some (.bool false) ∧ Z.cell? ⟨q, 8, none⟩ = some (.int .i64 y) ∧ Z.cell? ⟨q, 9, none⟩ = some (.int .i64 0) ∧ Z.cell? ⟨q, 10, none⟩ = some (.int .i64 0) ∧ Z.cell? ⟨q, 11, none⟩ = some (.string ⟨#[]⟩) ∧ Fr (fun _ => False) w Z)
    (first | assumption | exact HT.out)
    (first
      | (go_at_call 13; first | (with_reducible refine Calls.mono (L1.out _ ?_) ?_; (assumption); rintro e w' ⟨rfl, hS⟩) | (with_reducible refine Calls.mono (L2.out _ ?_) ?_; (assumption); rintro e w' ⟨rfl, hS⟩)))
  all_goals
    have HX := Lib.hid hS
    clear hS
    obtain ⟨t0, t1, t2, t3, t4, t5, t6, t7, t8, t9, t10, t11, t12, t13, t14, t15, t16, t17, t18, t19, t20, t21, t22, t23, t24, t25, t26, t27, t28, t29, t30, t31, t32, t33, t34, t35, tf⟩ := HX.out
    go_wp2_with fail
    go_quiet (fail)
    go_wp2_with fail
    go_ret
    exact ⟨rfl, Kept.of_fr tf⟩
set_option maxHeartbeats 8000000 in
set_option maxRecDepth 100000 in
theorem walk_mixed_gt (a b : Int) (ha : -32768 ≤ a ∧ a ≤ 32767) (hb : -2147483648 ≤ b ∧ b ≤ 2147483647) (x y : Int) (hx : a.tmod 8000 = x) (hy : b.tmod 524288000 = y) (hc : y < x * 65536) (w : World) :
    Calls Try.prog 6 #[.int .i16 a, .int .i32 b] w fun en w' => en = .returned (.bool true) ∧ Kept w w' := by
  have bx := Pl.tmod_in a 8000 (by omega)
  have by' := Pl.tmod_in b 524288000 (by omega)
  rw [hx] at bx
  rw [hy] at by'
  have K := Lib.hid known18
  have N := Lib.hid (fun Z => num18 x Z)
  have FX := Lib.hid (fun Z => fix18 y Z)
  have FA := Lib.hid (fun Z => fix18 (x * 65536 + y) Z)
  have FS := Lib.hid (fun Z => fix18 (x * 65536 - y) Z)
  unfold Pl.intO at N
  unfold Pl.fixO at FX FA FS
  have D1 := Lib.hid (mixed_add x y bx by')
  have D2 := Lib.hid (mixed_sub x y bx by')
  have D3 := Lib.hid (mixed_min x y)
  have D4 := Lib.hid (mixed_max x y)
  rw [if_pos (by omega)] at D3
  rw [if_neg (by omega)] at D4
  have m0 := Pl.may_intO (v := x) (by unfold Pl.inInt; omega)
  have m1 := Pl.may_fix (v := y) (by unfold Pl.inFix; omega)
  have R1 := Lib.hid (fun Z b (hA : RowV Z (.slice (some ⟨b, 0, none⟩) 2 2) [Pl.intO x, Pl.fixO y]) => run18 Z b [Pl.intO x, Pl.fixO y] 2 rfl hA (Pl.may_two m0 m1) (by simp) ⟨#[97, 100, 100]⟩ 11 op_add 0 [Pl.fixO (x * 65536 + y)] D1.out)
  have R2 := Lib.hid (fun Z b (hA : RowV Z (.slice (some ⟨b, 0, none⟩) 2 2) [Pl.intO x, Pl.fixO y]) => run18 Z b [Pl.intO x, Pl.fixO y] 2 rfl hA (Pl.may_two m0 m1) (by simp) ⟨#[115, 117, 98]⟩ 12 op_sub 0 [Pl.fixO (x * 65536 - y)] D2.out)
  have R3 := Lib.hid (fun Z b (hA : RowV Z (.slice (some ⟨b, 0, none⟩) 2 2) [Pl.intO x, Pl.fixO y]) => run18 Z b [Pl.intO x, Pl.fixO y] 2 rfl hA (Pl.may_two m0 m1) (by simp) ⟨#[109, 105, 110]⟩ 35 op_min 0 [Pl.fixO y] D3.out)
  have R4 := Lib.hid (fun Z b (hA : RowV Z (.slice (some ⟨b, 0, none⟩) 2 2) [Pl.intO x, Pl.fixO y]) => run18 Z b [Pl.intO x, Pl.fixO y] 2 rfl hA (Pl.may_two m0 m1) (by simp) ⟨#[109, 97, 120]⟩ 36 op_max 0 [Pl.intO x] D4.out)
  have hne : (x * 65536 == y) = false := beq_eq_false_iff_ne.2 (by omega)
  have hnl : decide (x * 65536 < y) = false := decide_eq_false (by omega)
  clear D1 D2 D3 D4 m0 m1
  go_enter Try.func6, Try.ntmps6
  go_wp2_with fail
  refine (K.out _).mono ?_
  rintro en w1 ⟨rfl, f1⟩
  have F1 := Lib.hid f1
  clear f1 K
  go_wp2_with fail
  refine (N.out _).mono ?_
  rintro en w2 ⟨rfl, g2⟩
  go_wp2_with fail
  refine (FX.out _).mono ?_
  rintro en w3 ⟨rfl, g3⟩
  have RV0 := Lib.hid (row_new w3 [Pl.intO x, Pl.fixO y] #[.int .i64 3, .bool false, .int .i64 x, .int .i64 0, .int .i64 0, .string ⟨#[]⟩, .int .i64 4, .bool false, .int .i64 y, .int .i64 0, .int .i64 0, .string ⟨#[]⟩] rfl 2 rfl)
  have F3 := Lib.hid (((F1.out.trans (Fr.of_grown _ g2)).trans (Fr.of_grown _ g3)).trans (Fr.alloc (fun _ => False) w3 (.cells #[.int .i64 3, .bool false, .int .i64 x, .int .i64 0, .int .i64 0, .string ⟨#[]⟩, .int .i64 4, .bool false, .int .i64 y, .int .i64 0, .int .i64 0, .string ⟨#[]⟩] 24)))
  clear g2 g3 F1 N FX
  go_wp2_with fail
  refine (R1.out _ _ RV0.out).mono ?_
  rintro en w4 ⟨vi, rfl, r, o, f⟩
  obtain ⟨g1, cp1, rfl, hcp1, hg1, C1⟩ := row_get1 r o
  have C1' := Lib.hid C1
  have RV1 := Lib.hid (RV0.out.fr0 f)
  have F4 := Lib.hid (F3.out.trans f)
  have FF1 := Lib.hid f
  clear r o f C1 RV0 F3 R1
  go_wp2_with fail
  refine (R2.out _ _ RV1.out).mono ?_
  rintro en w5 ⟨vi, rfl, r, o, f⟩
  obtain ⟨g2, cp2, rfl, hcp2, hg2, C2⟩ := row_get1 r o
  have C2' := Lib.hid C2
  have RV2 := Lib.hid (RV1.out.fr0 f)
  have F5 := Lib.hid (F4.out.trans f)
  have FF2 := Lib.hid f
  clear r o f C2 RV1 F4 R2
  go_wp2_with fail
  refine (R3.out _ _ RV2.out).mono ?_
  rintro en w6 ⟨vi, rfl, r, o, f⟩
  obtain ⟨g3, cp3, rfl, hcp3, hg3, C3⟩ := row_get1 r o
  have C3' := Lib.hid C3
  have RV3 := Lib.hid (RV2.out.fr0 f)
  have F6 := Lib.hid (F5.out.trans f)
  have FF3 := Lib.hid f
  clear r o f C3 RV2 F5 R3
  go_wp2_with fail
  refine (R4.out _ _ RV3.out).mono ?_
  rintro en w7 ⟨vi, rfl, r, o, f⟩
  obtain ⟨g4, cp4, rfl, hcp4, hg4, C4⟩ := row_get1 r o
  have C4' := Lib.hid C4
  have RV4 := Lib.hid (RV3.out.fr0 f)
  have F7 := Lib.hid (F6.out.trans f)
  have FF4 := Lib.hid f
  clear r o f C4 RV3 F6 R4
  obtain ⟨q, hq⟩ : ∃ q, q = w3.heap.size := ⟨_, rfl⟩
  rw [← hq] at RV4
  rw [← hq]
  clear hq
  obtain ⟨gq, oq, cq, hvq, hgq, x0, x1, x2, x3, x4, x5⟩ := RV4.out.at 0 _ rfl
  obtain ⟨gq2, oq2, cq2, hvq2, _, y0, y1, y2, y3, y4, y5⟩ := RV4.out.at 1 _ rfl
  injection hvq with e1 _ _
  injection e1 with e1
  injection e1 with e1 e2 _
  subst e1
  subst e2
  injection hvq2 with e1 _ _
  injection e1 with e1
  injection e1 with e1 e2 _
  subst e1
  subst e2
  have HT : Hid (w7.cell? ⟨g1, 0, none⟩ = some (.int .i64 4) ∧ w7.cell? ⟨g1, 1, none⟩ = some (.bool false) ∧ w7.cell? ⟨g1, 2, none⟩ = some (.int .i64 (x * 65536 + y)) ∧ w7.cell? ⟨g1, 3, none⟩ = some (.int .i64 0) ∧ w7.cell? ⟨g1, 4, none⟩ = some (.int .i64 0) ∧ w7.cell? ⟨g1, 5, none⟩ = some (.string ⟨#[]⟩) ∧ w7.cell? ⟨g2, 0, none⟩ = some (.int .i64 4) ∧ w7.cell? ⟨g2, 1, none⟩ = some (.bool false) ∧ w7.cell? ⟨g2, 2, none⟩ = some (.int .i64 (x * 65536 - y)) ∧ w7.cell? ⟨g2, 3, none⟩ = some (.int .i64 0) ∧ w7.cell? ⟨g2, 4, none⟩ = some (.int .i64 0) ∧ w7.cell? ⟨g2, 5, none⟩ = some (.string ⟨#[]⟩) ∧ w7.cell? ⟨g3, 0, none⟩ = some (.int .i64 4) ∧ w7.cell? ⟨g3, 1, none⟩ = some (.bool false) ∧ w7.cell? ⟨g3, 2, none⟩ = some (.int .i64 y) ∧ w7.cell? ⟨g3, 3, none⟩ = some (.int .i64 0) ∧ w7.cell? ⟨g3, 4, none⟩ = some (.int .i64 0) ∧ w7.cell? ⟨g3, 5, none⟩ = some (.string ⟨#[]⟩) ∧ w7.cell? ⟨g4, 0, none⟩ = some (.int .i64 3) ∧ w7.cell? ⟨g4, 1, none⟩ = some (.bool false) ∧ w7.cell? ⟨g4, 2, none⟩ = some (.int .i64 x) ∧ w7.cell? ⟨g4, 3, none⟩ = some (.int .i64 0) ∧ w7.cell? ⟨g4, 4, none⟩ = some (.int .i64 0) ∧ w7.cell? ⟨g4, 5, none⟩ = some (.string ⟨#[]⟩) ∧ w7.cell? ⟨q, 0, none⟩ = some (.int .i64 3) ∧ w7.cell? ⟨q, 1, none⟩ = some (.bool false) ∧ w7.cell? ⟨q, 2, none⟩ = some (.int .i64 x) ∧ w7.cell? ⟨q, 3, none⟩ = some (.int .i64 0) ∧ w7.cell? ⟨q, 4, none⟩ = some (.int .i64 0) ∧ w7.cell? ⟨q, 5, none⟩ = some (.string ⟨#[]⟩) ∧ w7.cell? ⟨q, 6, none⟩ = some (.int .i64 4) ∧ w7.cell? ⟨q, 7, none⟩ = some (.bool false) ∧ w7.cell? ⟨q, 8, none⟩ = some (.int .i64 y) ∧ w7.cell? ⟨q, 9, none⟩ = some (.int .i64 0) ∧ w7.cell? ⟨q, 10, none⟩ = some (.int .i64 0) ∧ w7.cell? ⟨q, 11, none⟩ = some (.string ⟨#[]⟩) ∧ Fr (fun _ => False) w w7) := Lib.hid ⟨(cell_fr0 (cell_fr0 (cell_fr0 C1'.out.1 FF2.out) FF3.out) FF4.out), (cell_fr0 (cell_fr0 (cell_fr0 C1'.out.2.1 FF2.out) FF3.out) FF4.out), (cell_fr0 (cell_fr0 (cell_fr0 C1'.out.2.2.1 FF2.out) FF3.out) FF4.out), (cell_fr0 (cell_fr0 (cell_fr0 C1'.out.2.2.2.1 FF2.out) FF3.out) FF4.out), (cell_fr0 (cell_fr0 (cell_fr0 C1'.out.2.2.2.2.1 FF2.out) FF3.out) FF4.out), (cell_fr0 (cell_fr0 (cell_fr0 C1'.out.2.2.2.2.2 FF2.out) FF3.out) FF4.out), (cell_fr0 (cell_fr0 C2'.out.1 FF3.out) FF4.out), (cell_fr0 (cell_fr0 C2'.out.2.1 FF3.out) FF4.out), (cell_fr0 (cell_fr0 C2'.out.2.2.1 FF3.out) FF4.out), (cell_fr0 (cell_fr0 C2'.out.2.2.2.1 FF3.out) FF4.out), (cell_fr0 (cell_fr0 C2'.out.2.2.2.2.1 FF3.out) FF4.out), (cell_fr0 (cell_fr0 C2'.out.2.2.2.2.2 FF3.out) FF4.out), (cell_fr0 C3'.out.1 FF4.out), (cell_fr0 C3'.out.2.1 FF4.out), (cell_fr0 C3'.out.2.2.1 FF4.out), (cell_fr0 C3'.out.2.2.2.1 FF4.out), (cell_fr0 C3'.out.2.2.2.2.1 FF4.out), (cell_fr0 C3'.out.2.2.2.2.2 FF4.out), C4'.out.1, C4'.out.2.1, C4'.out.2.2.1, C4'.out.2.2.2.1, C4'.out.2.2.2.2.1, C4'.out.2.2.2.2.2, by simpa [Pl.intO] using x0, by simpa [Pl.intO] using x1, by simpa [Pl.intO] using x2, by simpa [Pl.intO] using x3, by simpa [Pl.intO] using x4, by simpa [Pl.intO] using x5, by simpa [Pl.fixO] using y0, by simpa [Pl.fixO] using y1, by simpa [Pl.fixO] using y2, by simpa [Pl.fixO] using y3, by simpa [Pl.fixO] using y4, by simpa [Pl.fixO] using y5, F7.out⟩
  clear x0 x1 x2 x3 x4 x5 y0 y1 y2 y3 y4 y5 hgq C1' C2' C3' C4' FF1 FF2 FF3 FF4 RV4 F7
  have L1 := Lib.hid (fun Z (h : Z.cell? ⟨g1, 0, none⟩ = some (.int .i64 4) ∧ Z.cell? ⟨g1, 1, none⟩ = some (.bool false) ∧ Z.cell? ⟨g1, 2, none⟩ = some (.int .i64 (x * 65536 + y)) ∧ Z.cell? ⟨g1, 3, none⟩ = some (.int .i64 0) ∧ Z.cell? ⟨g1, 4, none⟩ = some (.int .i64 0) ∧ Z.cell? ⟨g1, 5, none⟩ = some (.string ⟨#[]⟩) ∧ Z.cell? ⟨g2, 0, none⟩ = some (.int .i64 4) ∧ Z.cell? ⟨g2, 1, none⟩ = some (.bool false) ∧ Z.cell? ⟨g2, 2, none⟩ = some (.int .i64 (x * 65536 - y)) ∧ Z.cell? ⟨g2, 3, none⟩ = some (.int .i64 0) ∧ Z.cell? ⟨g2, 4, none⟩ = some (.int .i64 0) ∧ Z.cell? ⟨g2, 5, none⟩ = some (.string ⟨#[]⟩) ∧ Z.cell? ⟨g3, 0, none⟩ = some (.int .i64 4) ∧ Z.cell? ⟨g3, 1, none⟩ = some (.bool false) ∧ Z.cell? ⟨g3, 2, none⟩ = some (.int .i64 y) ∧ Z.cell? ⟨g3, 3, none⟩ = some (.int .i64 0) ∧ Z.cell? ⟨g3, 4, none⟩ = some (.int .i64 0) ∧ Z.cell? ⟨g3, 5, none⟩ = some (.string ⟨#[]⟩) ∧ Z.cell? ⟨g4, 0, none⟩ = some (.int .i64 3) ∧ Z.cell? ⟨g4, 1, none⟩ = some (.bool false) ∧ Z.cell? ⟨g4, 2, none⟩ = some (.int .i64 x) ∧ Z.cell? ⟨g4, 3, none⟩ = some (.int .i64 0) ∧ Z.cell? ⟨g4, 4, none⟩ = some (.int .i64 0) ∧ Z.cell? ⟨g4, 5, none⟩ = some (.string ⟨#[]⟩) ∧ Z.cell? ⟨q, 0, none⟩ = some (.int .i64 3) ∧ Z.cell? ⟨q, 1, none⟩ = some (.bool false) ∧ Z.cell? ⟨q, 2, none⟩ = some (.int .i64 x) ∧ Z.cell? ⟨q, 3, none⟩ = some (.int .i64 0) ∧ Z.cell? ⟨q, 4, none⟩ = some (.int .i64 0) ∧ Z.cell? ⟨q, 5, none⟩ = some (.string ⟨#[]⟩) ∧ Z.cell? ⟨q, 6, none⟩ = some (.int .i64 4) ∧ Z.cell? ⟨q, 7, none⟩ = some (.bool false) ∧ Z.cell? ⟨q, 8, none⟩ = some (.int .i64 y) ∧ Z.cell? ⟨q, 9, none⟩ = some (.int .i64 0) ∧ Z.cell? ⟨q, 10, none⟩ = some (.int .i64 0) ∧ Z.cell? ⟨q, 11, none⟩ = some (.string ⟨#[]⟩) ∧ Fr (fun _ => False) w Z) => (FA.out Z).mono fun en w' hh => (by obtain ⟨t0, t1, t2, t3, t4, t5, t6, t7, t8, t9, t10, t11, t12, t13, t14, t15, t16, t17, t18, t19, t20, t21, t22, t23, t24, t25, t26, t27, t28, t29, t30, t31, t32, t33, t34, t35, tf⟩ := h; exact ⟨hh.1, grown_cell hh.2 t0, grown_cell hh.2 t1, grown_cell hh.2 t2, grown_cell hh.2 t3, grown_cell hh.2 t4, grown_cell hh.2 t5, grown_cell hh.2 t6, grown_cell hh.2 t7, grown_cell hh.2 t8, grown_cell hh.2 t9, grown_cell hh.2 t10, grown_cell hh.2 t11, grown_cell hh.2 t12, grown_cell hh.2 t13, grown_cell hh.2 t14, grown_cell hh.2 t15, grown_cell hh.2 t16, grown_cell hh.2 t17, grown_cell hh.2 t18, grown_cell hh.2 t19, grown_cell hh.2 t20, grown_cell hh.2 t21, grown_cell hh.2 t22, grown_cell hh.2 t23, grown_cell hh.2 t24, grown_cell hh.2 t25, grown_cell hh.2 t26, grown_cell hh.2 t27, grown_cell hh.2 t28, grown_cell hh.2 t29, grown_cell hh.2 t30, grown_cell hh.2 t31, grown_cell hh.2 t32, grown_cell hh.2 t33, grown_cell hh.2 t34, grown_cell hh.2 t35, tf.trans (Fr.of_grown _ hh.2)⟩ : en = .returned (Pl.ov (4, false, x * 65536 + y, 0, 0, ⟨#[]⟩)) ∧ (w'.cell? ⟨g1, 0, none⟩ = some (.int .i64 4) ∧ w'.cell? ⟨g1, 1, none⟩ = some (.bool false) ∧ w'.cell? ⟨g1, 2, none⟩ = some (.int .i64 (x * 65536 + y)) ∧ w'.cell? ⟨g1, 3, none⟩ = some (.int .i64 0) ∧ w'.cell? ⟨g1, 4, none⟩ = some (.int .i64 0) ∧ w'.cell? ⟨g1, 5, none⟩ = some (.string ⟨#[]⟩) ∧ w'.cell? ⟨g2, 0, none⟩ = some (.int .i64 4) ∧ w'.cell? ⟨g2, 1, none⟩ = some (.bool false) ∧ w'.cell? ⟨g2, 2, none⟩ = some (.int .i64 (x * 65536 - y)) ∧ w'.cell? ⟨g2, 3, none⟩ = some (.int .i64 0) ∧ w'.cell? ⟨g2, 4, none⟩ = some (.int .i64 0) ∧ w'.cell? ⟨g2, 5, none⟩ = some (.string ⟨#[]⟩) ∧ w'.cell? ⟨g3, 0, none⟩ = some (.int .i64 4) ∧ w'.cell? ⟨g3, 1, none⟩ = some (.bool false) ∧ w'.cell? ⟨g3, 2, none⟩ = some (.int .i64 y) ∧ w'.cell? ⟨g3, 3, none⟩ = some (.int .i64 0) ∧ w'.cell? ⟨g3, 4, none⟩ = some (.int .i64 0) ∧ w'.cell? ⟨g3, 5, none⟩ = some (.string ⟨#[]⟩) ∧ w'.cell? ⟨g4, 0, none⟩ = some (.int .i64 3) ∧ w'.cell? ⟨g4, 1, none⟩ = some (.bool false) ∧ w'.cell? ⟨g4, 2, none⟩ = some (.int .i64 x) ∧ w'.cell? ⟨g4, 3, none⟩ = some (.int .i64 0) ∧ w'.cell? ⟨g4, 4, none⟩ = some (.int .i64 0) ∧ w'.cell? ⟨g4, 5, none⟩ = some (.string ⟨#[]⟩) ∧ w'.cell? ⟨q, 0, none⟩ = some (.int .i64 3) ∧ w'.cell? ⟨q, 1, none⟩ = some (.bool false) ∧ w'.cell? ⟨q, 2, none⟩ = some (.int .i64 x) ∧ w'.cell? ⟨q, 3, none⟩ = some (.int .i64 0) ∧ w'.cell? ⟨q, 4, none⟩ = some (.int .i64 0) ∧ w'.cell? ⟨q, 5, none⟩ = some (.string ⟨#[]⟩) ∧ w'.cell? ⟨q, 6, none⟩ = some (.int .i64 4) ∧ w'.cell? ⟨q, 7, none⟩ = some (.bool false) ∧ w'.cell? ⟨q, 8, none⟩ = some (.int .i64 y) ∧ w'.cell? ⟨q, 9, none⟩ = some (.int .i64 0) ∧ w'.cell? ⟨q, 10, none⟩ = some (.int .i64 0) ∧ w'.cell? ⟨q, 11, none⟩ = some (.string ⟨#[]⟩) ∧ Fr (fun _ => False) w w')))
  have L2 := Lib.hid (fun Z (h : Z.cell? ⟨g1, 0, none⟩ = some (.int .i64 4) ∧ Z.cell? ⟨g1, 1, none⟩ = some (.bool false) ∧ Z.cell? ⟨g1, 2, none⟩ = some (.int .i64 (x * 65536 + y)) ∧ Z.cell? ⟨g1, 3, none⟩ = some (.int .i64 0) ∧ Z.cell? ⟨g1, 4, none⟩ = some (.int .i64 0) ∧ Z.cell? ⟨g1, 5, none⟩ = some (.string ⟨#[]⟩) ∧ Z.cell? ⟨g2, 0, none⟩ = some (.int .i64 4) ∧ Z.cell? ⟨g2, 1, none⟩ = some (.bool false) ∧ Z.cell? ⟨g2, 2, none⟩ = some (.int .i64 (x * 65536 - y)) ∧ Z.cell? ⟨g2, 3, none⟩ = some (.int .i64 0) ∧ Z.cell? ⟨g2, 4, none⟩ = some (.int .i64 0) ∧ Z.cell? ⟨g2, 5, none⟩ = some (.string ⟨#[]⟩) ∧ Z.cell? ⟨g3, 0, none⟩ = some (.int .i64 4) ∧ Z.cell? ⟨g3, 1, none⟩ = some (.bool false) ∧ Z.cell? ⟨g3, 2, none⟩ = some (.int .i64 y) ∧ Z.cell? ⟨g3, 3, none⟩ = some (.int .i64 0) ∧ Z.cell? ⟨g3, 4, none⟩ = some (.int .i64 0) ∧ Z.cell? ⟨g3, 5, none⟩ = some (.string ⟨#[]⟩) ∧ Z.cell? ⟨g4, 0, none⟩ = some (.int .i64 3) ∧ Z.cell? ⟨g4, 1, none⟩ = some (.bool false) ∧ Z.cell? ⟨g4, 2, none⟩ = some (.int .i64 x) ∧ Z.cell? ⟨g4, 3, none⟩ = some (.int .i64 0) ∧ Z.cell? ⟨g4, 4, none⟩ = some (.int .i64 0) ∧ Z.cell? ⟨g4, 5, none⟩ = some (.string ⟨#[]⟩) ∧ Z.cell? ⟨q, 0, none⟩ = some (.int .i64 3) ∧ Z.cell? ⟨q, 1, none⟩ = some (.bool false) ∧ Z.cell? ⟨q, 2, none⟩ = some (.int .i64 x) ∧ Z.cell? ⟨q, 3, none⟩ = some (.int .i64 0) ∧ Z.cell? ⟨q, 4, none⟩ = some (.int .i64 0) ∧ Z.cell? ⟨q, 5, none⟩ = some (.string ⟨#[]⟩) ∧ Z.cell? ⟨q, 6, none⟩ = some (.int .i64 4) ∧ Z.cell? ⟨q, 7, none⟩ = some (.bool false) ∧ Z.cell? ⟨q, 8, none⟩ = some (.int .i64 y) ∧ Z.cell? ⟨q, 9, none⟩ = some (.int .i64 0) ∧ Z.cell? ⟨q, 10, none⟩ = some (.int .i64 0) ∧ Z.cell? ⟨q, 11, none⟩ = some (.string ⟨#[]⟩) ∧ Fr (fun _ => False) w Z) => (FS.out Z).mono fun en w' hh => (by obtain ⟨t0, t1, t2, t3, t4, t5, t6, t7, t8, t9, t10, t11, t12, t13, t14, t15, t16, t17, t18, t19, t20, t21, t22, t23, t24, t25, t26, t27, t28, t29, t30, t31, t32, t33, t34, t35, tf⟩ := h; exact ⟨hh.1, grown_cell hh.2 t0, grown_cell hh.2 t1, grown_cell hh.2 t2, grown_cell hh.2 t3, grown_cell hh.2 t4, grown_cell hh.2 t5, grown_cell hh.2 t6, grown_cell hh.2 t7, grown_cell hh.2 t8, grown_cell hh.2 t9, grown_cell hh.2 t10, grown_cell hh.2 t11, grown_cell hh.2 t12, grown_cell hh.2 t13, grown_cell hh.2 t14, grown_cell hh.2 t15, grown_cell hh.2 t16, grown_cell hh.2 t17, grown_cell hh.2 t18, grown_cell hh.2 t19, grown_cell hh.2 t20, grown_cell hh.2 t21, grown_cell hh.2 t22, grown_cell hh.2 t23, grown_cell hh.2 t24, grown_cell hh.2 t25, grown_cell hh.2 t26, grown_cell hh.2 t27, grown_cell hh.2 t28, grown_cell hh.2 t29, grown_cell hh.2 t30, grown_cell hh.2 t31, grown_cell hh.2 t32, grown_cell hh.2 t33, grown_cell hh.2 t34, grown_cell hh.2 t35, tf.trans (Fr.of_grown _ hh.2)⟩ : en = .returned (Pl.ov (4, false, x * 65536 - y, 0, 0, ⟨#[]⟩)) ∧ (w'.cell? ⟨g1, 0, none⟩ = some (.int .i64 4) ∧ w'.cell? ⟨g1, 1, none⟩ = some (.bool false) ∧ w'.cell? ⟨g1, 2, none⟩ = some (.int .i64 (x * 65536 + y)) ∧ w'.cell? ⟨g1, 3, none⟩ = some (.int .i64 0) ∧ w'.cell? ⟨g1, 4, none⟩ = some (.int .i64 0) ∧ w'.cell? ⟨g1, 5, none⟩ = some (.string ⟨#[]⟩) ∧ w'.cell? ⟨g2, 0, none⟩ = some (.int .i64 4) ∧ w'.cell? ⟨g2, 1, none⟩ = some (.bool false) ∧ w'.cell? ⟨g2, 2, none⟩ = some (.int .i64 (x * 65536 - y)) ∧ w'.cell? ⟨g2, 3, none⟩ = some (.int .i64 0) ∧ w'.cell? ⟨g2, 4, none⟩ = some (.int .i64 0) ∧ w'.cell? ⟨g2, 5, none⟩ = some (.string ⟨#[]⟩) ∧ w'.cell? ⟨g3, 0, none⟩ = some (.int .i64 4) ∧ w'.cell? ⟨g3, 1, none⟩ = some (.bool false) ∧ w'.cell? ⟨g3, 2, none⟩ = some (.int .i64 y) ∧ w'.cell? ⟨g3, 3, none⟩ = some (.int .i64 0) ∧ w'.cell? ⟨g3, 4, none⟩ = some (.int .i64 0) ∧ w'.cell? ⟨g3, 5, none⟩ = some (.string ⟨#[]⟩) ∧ w'.cell? ⟨g4, 0, none⟩ = some (.int .i64 3) ∧ w'.cell? ⟨g4, 1, none⟩ = some (.bool false) ∧ w'.cell? ⟨g4, 2, none⟩ = some (.int .i64 x) ∧ w'.cell? ⟨g4, 3, none⟩ = some (.int .i64 0) ∧ w'.cell? ⟨g4, 4, none⟩ = some (.int .i64 0) ∧ w'.cell? ⟨g4, 5, none⟩ = some (.string ⟨#[]⟩) ∧ w'.cell? ⟨q, 0, none⟩ = some (.int .i64 3) ∧ w'.cell? ⟨q, 1, none⟩ = some (.bool false) ∧ w'.cell? ⟨q, 2, none⟩ = some (.int .i64 x) ∧ w'.cell? ⟨q, 3, none⟩ = some (.int .i64 0) ∧ w'.cell? ⟨q, 4, none⟩ = some (.int .i64 0) ∧ w'.cell? ⟨q, 5, none⟩ = some (.string ⟨#[]⟩) ∧ w'.cell? ⟨q, 6, none⟩ = some (.int .i64 4) ∧ w'.cell? ⟨q, 7, none⟩ = some (.bool false) ∧ w'.cell? ⟨q, 8, none⟩ = some (.int .i64 y) ∧ w'.cell? ⟨q, 9, none⟩ = some (.int .i64 0) ∧ w'.cell? ⟨q, 10, none⟩ = some (.int .i64 0) ∧ w'.cell? ⟨q, 11, none⟩ = some (.string ⟨#[]⟩) ∧ Fr (fun _ => False) w w')))
  have wr9 : IntKind.i64.wrap (x * 65536) = x * 65536 := by unfold IntKind.wrap IntKind.bits IntKind.signed; simp; omega
  have wr13 : IntKind.i64.wrap (x * 65536 + y) = x * 65536 + y := by unfold IntKind.wrap IntKind.bits IntKind.signed; simp; omega
  have wrm : IntKind.i64.wrap (x * 65536 - y) = x * 65536 - y := by unfold IntKind.wrap IntKind.bits IntKind.signed; simp; omega
  clear FA FS
  go_wp2_with fail
  go_region_held3 (fun Z => Z.cell? ⟨g1, 0, none⟩ = some (.int .i64 4) ∧ Z.cell? ⟨g1, 1, none⟩ = some (.bool false) ∧ Z.cell? ⟨g1, 2, none⟩ = some (.int .i64 (x * 65536 + y)) ∧ Z.cell? ⟨g1, 3, none⟩ = some (.int .i64 0) ∧ Z.cell? ⟨g1, 4, none⟩ = some (.int .i64 0) ∧ Z.cell? ⟨g1, 5, none⟩ = some (.string ⟨#[]⟩) ∧ Z.cell? ⟨g2, 0, none⟩ = some (.int .i64 4) ∧ Z.cell? ⟨g2, 1, none⟩ = some (.bool false) ∧ Z.cell? ⟨g2, 2, none⟩ = some (.int .i64 (x * 65536 - y)) ∧ Z.cell? ⟨g2, 3, none⟩ = some (.int .i64 0) ∧ Z.cell? ⟨g2, 4, none⟩ = some (.int .i64 0) ∧ Z.cell? ⟨g2, 5, none⟩ = some (.string ⟨#[]⟩) ∧ Z.cell? ⟨g3, 0, none⟩ = some (.int .i64 4) ∧ Z.cell? ⟨g3, 1, none⟩ = some (.bool false) ∧ Z.cell? ⟨g3, 2, none⟩ = some (.int .i64 y) ∧ Z.cell? ⟨g3, 3, none⟩ = some (.int .i64 0) ∧ Z.cell? ⟨g3, 4, none⟩ = some (.int .i64 0) ∧ Z.cell? ⟨g3, 5, none⟩ = some (.string ⟨#[]⟩) ∧ Z.cell? ⟨g4, 0, none⟩ = some (.int .i64 3) ∧ Z.cell? ⟨g4, 1, none⟩ = some (.bool false) ∧ Z.cell? ⟨g4, 2, none⟩ = some (.int .i64 x) ∧ Z.cell? ⟨g4, 3, none⟩ = some (.int .i64 0) ∧ Z.cell? ⟨g4, 4, none⟩ = some (.int .i64 0) ∧ Z.cell? ⟨g4, 5, none⟩ = some (.string ⟨#[]⟩) ∧ Z.cell? ⟨q, 0, none⟩ = some (.int .i64 3) ∧ Z.cell? ⟨q, 1, none⟩ = some (.bool false) ∧ Z.cell? ⟨q, 2, none⟩ = some (.int .i64 x) ∧ Z.cell? ⟨q, 3, none⟩ = some (.int .i64 0) ∧ Z.cell? ⟨q, 4, none⟩ = some (.int .i64 0) ∧ Z.cell? ⟨q, 5, none⟩ = some (.string ⟨#[]⟩) ∧ Z.cell? ⟨q, 6, none⟩ = some (.int .i64 4) ∧ Z.cell? ⟨q, 7, none⟩ = some (.bool false) ∧ Z.cell? ⟨q, 8, none⟩ = some (.int .i64 y) ∧ Z.cell? ⟨q, 9, none⟩ = some (.int .i64 0) ∧ Z.cell? ⟨q, 10, none⟩ = some (.int .i64 0) ∧ Z.cell? ⟨q, 11, none⟩ = some (.string ⟨#[]⟩) ∧ Fr (fun _ => False) w Z)
    (first | assumption | exact HT.out)
    (first
      | (go_at_call 13; first | (with_reducible refine Calls.mono (L1.out _ ?_) ?_; (assumption); rintro e w' ⟨rfl, hS⟩) | (with_reducible refine Calls.mono (L2.out _ ?_) ?_; (assumption); rintro e w' ⟨rfl, hS⟩)))
  all_goals
    have HX := Lib.hid hS
    clear hS
    obtain ⟨t0, t1, t2, t3, t4, t5, t6, t7, t8, t9, t10, t11, t12, t13, t14, t15, t16, t17, t18, t19, t20, t21, t22, t23, t24, t25, t26, t27, t28, t29, t30, t31, t32, t33, t34, t35, tf⟩ := HX.out
    go_wp2_with fail
    go_quiet (fail)
    go_wp2_with fail
    go_ret
    exact ⟨rfl, Kept.of_fr tf⟩
theorem law_ArithMixed (a b : Int) (w0 : (Lit.int .i16 a).wf = true) (w1 : (Lit.int .i32 b).wf = true) (w : World) :
    Calls Try.prog 6 #[.int .i16 a, .int .i32 b] w fun en w' => en = .returned (.bool true) ∧ Kept w w' := by
  have ha : -32768 ≤ a ∧ a ≤ 32767 := by simp [Lit.wf, IntKind.min, IntKind.max, IntKind.signed, IntKind.bits] at w0; omega
  have hb : -2147483648 ≤ b ∧ b ≤ 2147483647 := by simp [Lit.wf, IntKind.min, IntKind.max, IntKind.signed, IntKind.bits] at w1; omega
  rcases Int.lt_trichotomy (a.tmod 8000 * 65536) (b.tmod 524288000) with h | h | h
  · exact walk_mixed_lt a b ha hb _ _ rfl rfl h w
  · exact walk_mixed_eq a b ha hb _ rfl h.symm trivial w
  · exact walk_mixed_gt a b ha hb _ _ rfl rfl h w
end Go.Proofs.Ytfmmomdmemcbbaa
