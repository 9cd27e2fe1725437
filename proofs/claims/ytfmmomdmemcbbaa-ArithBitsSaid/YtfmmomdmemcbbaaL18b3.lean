/- ArithBits: the walk, another pair of bools. -/
import Derived.Test.YtfmmomdmemcbbaaL18b0
namespace Go.Proofs.Ytfmmomdmemcbbaa
set_option linter.unusedVariables false
open Go.RowKit

set_option maxHeartbeats 8000000 in
set_option maxRecDepth 100000 in
theorem walk_bits_11 (a b : Int) (ha : -2147483648 ≤ a ∧ a ≤ 2147483647) (hb : -2147483648 ≤ b ∧ b ≤ 2147483647) (x y : Int) (hx : a.tdiv 2 = x) (hy : b.tdiv 2 = y) (w : World) :
    Calls Try.prog 4 #[.int .i32 a, .int .i32 b, .bool true, .bool true] w fun en w' => en = .returned (.bool true) ∧ Kept w w' := by
  have bx := Pl.tdiv2 a ha
  have by' := Pl.tdiv2 b hb
  rw [hx] at bx
  rw [hy] at by'
  obtain ⟨v1, q1⟩ : ∃ v, bits .and .i64 x y = v := ⟨_, rfl⟩
  obtain ⟨v2, q2⟩ : ∃ v, bits .or .i64 x y = v := ⟨_, rfl⟩
  obtain ⟨v3, q3⟩ : ∃ v, bits .xor .i64 x y = v := ⟨_, rfl⟩
  have D1 := bits_two x y 27 v1 (by decide) q1 (q1 ▸ Pl.and_in31 x y bx by')
  have D2 := bits_two x y 28 v2 (by decide) q2 (q2 ▸ Pl.or_in31 x y bx by')
  have D3 := bits_two x y 29 v3 (by decide) q3 (q3 ▸ Pl.xor_in31 x y bx by')
  have D4 := bits_not x bx
  have m0 := Pl.may_intO (v := x) (by unfold Pl.inInt; omega)
  have m1 := Pl.may_intO (v := y) (by unfold Pl.inInt; omega)
  have mm : ∀ o ∈ [Pl.intO x, Pl.intO y], Pl.mayO o := Pl.may_two m0 m1
  have mx : ∀ o ∈ [Pl.intO x], Pl.mayO o := fun o ho => by rw [List.mem_singleton.1 ho]; exact m0
  have R1 := Lib.hid (fun Z b (hA : RowV Z (.slice (some ⟨b, 0, none⟩) 2 2) [Pl.intO x, Pl.intO y]) => run18 Z b [Pl.intO x, Pl.intO y] 2 rfl hA mm (by simp) ⟨#[97, 110, 100]⟩ 27 op_and 0 [Pl.intO v1] D1)
  have R2 := Lib.hid (fun Z b (hA : RowV Z (.slice (some ⟨b, 0, none⟩) 2 2) [Pl.intO x, Pl.intO y]) => run18 Z b [Pl.intO x, Pl.intO y] 2 rfl hA mm (by simp) ⟨#[111, 114]⟩ 28 op_or 0 [Pl.intO v2] D2)
  have R3 := Lib.hid (fun Z b (hA : RowV Z (.slice (some ⟨b, 0, none⟩) 2 2) [Pl.intO x, Pl.intO y]) => run18 Z b [Pl.intO x, Pl.intO y] 2 rfl hA mm (by simp) ⟨#[120, 111, 114]⟩ 29 op_xor 0 [Pl.intO v3] D3)
  have R4 : Hid (∀ Z b, RowV Z (.slice (some ⟨b, 0, none⟩) 2 2) [Pl.intO x, Pl.intO y] → Calls Try.prog 11 #[.slice (some ⟨b, 0, none⟩) 1 2, .string ⟨#[110, 111, 116]⟩] Z fun e w' => ∃ vi, e = .returned (.tuple #[vi, .int .i64 0]) ∧ RowV w' vi [Pl.intO (-x - 1)] ∧ OwnForm vi [Pl.intO (-x - 1)].length ∧ Fr (fun _ => False) Z w') := Lib.hid (fun Z b hA => by
    have := run_any Z _ [Pl.intO x] (row_first hA) mx (by simp) ⟨#[110, 111, 116]⟩ 30 op_not
    rw [D4] at this
    exact this)
  have hmA : Pl.mayO ((2, false, 1, 0, 0, ⟨#[]⟩) : Pl.Ob) := Pl.truth_may true
  have hmB : Pl.mayO ((2, false, 1, 0, 0, ⟨#[]⟩) : Pl.Ob) := Pl.truth_may true
  have hm1 : Pl.mayO (Pl.intO 1) := Pl.may_intO (by decide)
  have R5 := Lib.hid (fun Z b (hA : RowV Z (.slice (some ⟨b, 0, none⟩) 2 2) [((2, false, 1, 0, 0, ⟨#[]⟩) : Pl.Ob), ((2, false, 1, 0, 0, ⟨#[]⟩) : Pl.Ob)]) => run18 Z b [((2, false, 1, 0, 0, ⟨#[]⟩) : Pl.Ob), ((2, false, 1, 0, 0, ⟨#[]⟩) : Pl.Ob)] 2 rfl hA (Pl.may_two hmA hmB) (by simp) ⟨#[97, 110, 100]⟩ 27 op_and 0 [((2, false, 1, 0, 0, ⟨#[]⟩) : Pl.Ob)] (by kernel_rfl))
  have R6 := Lib.hid (fun Z b (hA : RowV Z (.slice (some ⟨b, 0, none⟩) 2 2) [((2, false, 1, 0, 0, ⟨#[]⟩) : Pl.Ob), ((2, false, 1, 0, 0, ⟨#[]⟩) : Pl.Ob)]) => run18 Z b [((2, false, 1, 0, 0, ⟨#[]⟩) : Pl.Ob), ((2, false, 1, 0, 0, ⟨#[]⟩) : Pl.Ob)] 2 rfl hA (Pl.may_two hmA hmB) (by simp) ⟨#[111, 114]⟩ 28 op_or 0 [((2, false, 1, 0, 0, ⟨#[]⟩) : Pl.Ob)] (by kernel_rfl))
  have R7 := Lib.hid (fun Z b (hA : RowV Z (.slice (some ⟨b, 0, none⟩) 2 2) [((2, false, 1, 0, 0, ⟨#[]⟩) : Pl.Ob), ((2, false, 1, 0, 0, ⟨#[]⟩) : Pl.Ob)]) => run18 Z b [((2, false, 1, 0, 0, ⟨#[]⟩) : Pl.Ob), ((2, false, 1, 0, 0, ⟨#[]⟩) : Pl.Ob)] 2 rfl hA (Pl.may_two hmA hmB) (by simp) ⟨#[120, 111, 114]⟩ 29 op_xor 0 [((2, false, 0, 0, 0, ⟨#[]⟩) : Pl.Ob)] (by kernel_rfl))
  have R8 := Lib.hid (fun Z b (hA : RowV Z (.slice (some ⟨b, 0, none⟩) 2 2) [((2, false, 1, 0, 0, ⟨#[]⟩) : Pl.Ob), Pl.intO 1]) => run18 Z b [((2, false, 1, 0, 0, ⟨#[]⟩) : Pl.Ob), Pl.intO 1] 2 rfl hA (Pl.may_two hmA hm1) (by simp) ⟨#[97, 110, 100]⟩ 27 op_and 6 [((2, false, 1, 0, 0, ⟨#[]⟩) : Pl.Ob), Pl.intO 1] (by kernel_rfl))
  clear D1 D2 D3 D4 m0 m1 mm mx hmA hmB hm1
  have K := Lib.hid known18
  have NX := Lib.hid (fun Z => num18 x Z)
  have NY := Lib.hid (fun Z => num18 y Z)
  have N1 := Lib.hid (fun Z => num18 v1 Z)
  have N2 := Lib.hid (fun Z => num18 v2 Z)
  have N3 := Lib.hid (fun Z => num18 v3 Z)
  have N4 := Lib.hid (fun Z => num18 (-x - 1) Z)
  have NO := Lib.hid (fun Z => num18 1 Z)
  unfold Pl.intO at NX NY N1 N2 N3 N4 NO
  have wr1 : IntKind.i64.wrap (-x) = -x := by unfold IntKind.wrap IntKind.bits IntKind.signed; simp; omega
  have wr2 : IntKind.i64.wrap (-x - 1) = -x - 1 := by unfold IntKind.wrap IntKind.bits IntKind.signed; simp; omega
  go_enter Try.func4, Try.ntmps4
  go_wp2_with fail
  refine (K.out _).mono ?_
  rintro en w0 ⟨rfl, f0⟩
  have F0 := Lib.hid f0
  clear f0 K
  go_wp2_with fail
  refine (NX.out _).mono ?_
  rintro en u1 ⟨rfl, h1⟩
  go_wp2_with fail
  refine (NY.out _).mono ?_
  rintro en u2 ⟨rfl, h2⟩
  have RV0 := Lib.hid (row_new u2 [Pl.intO x, Pl.intO y] #[.int .i64 3, .bool false, .int .i64 x, .int .i64 0, .int .i64 0, .string ⟨#[]⟩, .int .i64 3, .bool false, .int .i64 y, .int .i64 0, .int .i64 0, .string ⟨#[]⟩] rfl 2 rfl)
  have ST0 := Lib.hid (((F0.out.trans (Fr.of_grown _ h1)).trans (Fr.of_grown _ h2)).trans (Fr.alloc (fun _ => False) u2 (.cells #[.int .i64 3, .bool false, .int .i64 x, .int .i64 0, .int .i64 0, .string ⟨#[]⟩, .int .i64 3, .bool false, .int .i64 y, .int .i64 0, .int .i64 0, .string ⟨#[]⟩] 24)))
  clear h1 h2 F0 NX NY
  go_wp2_with fail
  refine (R1.out _ _ RV0.out).mono ?_
  rintro en w1 ⟨z1, rfl, ro, oo, fo⟩
  have ST1 := Lib.hid fo
  have RV1 := Lib.hid (RV0.out.fr0 fo)
  obtain ⟨g1, cp1, rfl, hcp1, hg1, C1⟩ := row_get1 ro oo
  have C1' := Lib.hid C1
  clear C1 ro oo fo RV0 R1
  go_wp2_with fail
  refine (R2.out _ _ RV1.out).mono ?_
  rintro en w2 ⟨z2, rfl, ro, oo, fo⟩
  have ST2 := Lib.hid fo
  have RV2 := Lib.hid (RV1.out.fr0 fo)
  obtain ⟨g2, cp2, rfl, hcp2, hg2, C2⟩ := row_get1 ro oo
  have C2' := Lib.hid C2
  clear C2 ro oo fo RV1 R2
  go_wp2_with fail
  refine (R3.out _ _ RV2.out).mono ?_
  rintro en w3 ⟨z3, rfl, ro, oo, fo⟩
  have ST3 := Lib.hid fo
  have RV3 := Lib.hid (RV2.out.fr0 fo)
  obtain ⟨g3, cp3, rfl, hcp3, hg3, C3⟩ := row_get1 ro oo
  have C3' := Lib.hid C3
  clear C3 ro oo fo RV2 R3
  go_wp2_with fail
  refine (R4.out _ _ RV3.out).mono ?_
  rintro en w4 ⟨z4, rfl, ro, oo, fo⟩
  have ST4 := Lib.hid fo
  have RV4 := Lib.hid (RV3.out.fr0 fo)
  obtain ⟨g4, cp4, rfl, hcp4, hg4, C4⟩ := row_get1 ro oo
  have C4' := Lib.hid C4
  clear C4 ro oo fo RV3 R4
  obtain ⟨C, hC⟩ : ∃ C : World → Prop, C = Cells w [((⟨g1, 0, none⟩ : Addr), (.int .i64 3 : Value)), ((⟨g1, 1, none⟩ : Addr), (.bool false : Value)), ((⟨g1, 2, none⟩ : Addr), (.int .i64 v1 : Value)), ((⟨g1, 3, none⟩ : Addr), (.int .i64 0 : Value)), ((⟨g1, 4, none⟩ : Addr), (.int .i64 0 : Value)), ((⟨g1, 5, none⟩ : Addr), (.string ⟨#[]⟩ : Value)), ((⟨g2, 0, none⟩ : Addr), (.int .i64 3 : Value)), ((⟨g2, 1, none⟩ : Addr), (.bool false : Value)), ((⟨g2, 2, none⟩ : Addr), (.int .i64 v2 : Value)), ((⟨g2, 3, none⟩ : Addr), (.int .i64 0 : Value)), ((⟨g2, 4, none⟩ : Addr), (.int .i64 0 : Value)), ((⟨g2, 5, none⟩ : Addr), (.string ⟨#[]⟩ : Value)), ((⟨g3, 0, none⟩ : Addr), (.int .i64 3 : Value)), ((⟨g3, 1, none⟩ : Addr), (.bool false : Value)), ((⟨g3, 2, none⟩ : Addr), (.int .i64 v3 : Value)), ((⟨g3, 3, none⟩ : Addr), (.int .i64 0 : Value)), ((⟨g3, 4, none⟩ : Addr), (.int .i64 0 : Value)), ((⟨g3, 5, none⟩ : Addr), (.string ⟨#[]⟩ : Value)), ((⟨g4, 0, none⟩ : Addr), (.int .i64 3 : Value)), ((⟨g4, 1, none⟩ : Addr), (.bool false : Value)), ((⟨g4, 2, none⟩ : Addr), (.int .i64 (-x - 1) : Value)), ((⟨g4, 3, none⟩ : Addr), (.int .i64 0 : Value)), ((⟨g4, 4, none⟩ : Addr), (.int .i64 0 : Value)), ((⟨g4, 5, none⟩ : Addr), (.string ⟨#[]⟩ : Value))] := ⟨_, rfl⟩
  have HC0 : Hid (C w4) := Lib.hid (by rw [hC]; exact ⟨(cell_fr0 (cell_fr0 (cell_fr0 C1'.out.1 ST2.out) ST3.out) ST4.out), (cell_fr0 (cell_fr0 (cell_fr0 C1'.out.2.1 ST2.out) ST3.out) ST4.out), (cell_fr0 (cell_fr0 (cell_fr0 C1'.out.2.2.1 ST2.out) ST3.out) ST4.out), (cell_fr0 (cell_fr0 (cell_fr0 C1'.out.2.2.2.1 ST2.out) ST3.out) ST4.out), (cell_fr0 (cell_fr0 (cell_fr0 C1'.out.2.2.2.2.1 ST2.out) ST3.out) ST4.out), (cell_fr0 (cell_fr0 (cell_fr0 C1'.out.2.2.2.2.2 ST2.out) ST3.out) ST4.out), (cell_fr0 (cell_fr0 C2'.out.1 ST3.out) ST4.out), (cell_fr0 (cell_fr0 C2'.out.2.1 ST3.out) ST4.out), (cell_fr0 (cell_fr0 C2'.out.2.2.1 ST3.out) ST4.out), (cell_fr0 (cell_fr0 C2'.out.2.2.2.1 ST3.out) ST4.out), (cell_fr0 (cell_fr0 C2'.out.2.2.2.2.1 ST3.out) ST4.out), (cell_fr0 (cell_fr0 C2'.out.2.2.2.2.2 ST3.out) ST4.out), (cell_fr0 C3'.out.1 ST4.out), (cell_fr0 C3'.out.2.1 ST4.out), (cell_fr0 C3'.out.2.2.1 ST4.out), (cell_fr0 C3'.out.2.2.2.1 ST4.out), (cell_fr0 C3'.out.2.2.2.2.1 ST4.out), (cell_fr0 C3'.out.2.2.2.2.2 ST4.out), C4'.out.1, C4'.out.2.1, C4'.out.2.2.1, C4'.out.2.2.2.1, C4'.out.2.2.2.2.1, C4'.out.2.2.2.2.2, ((((ST0.out.trans ST1.out).trans ST2.out).trans ST3.out).trans ST4.out)⟩)
  have T0 : ∀ Z, C Z → Z.cell? ⟨g1, 0, none⟩ = some (.int .i64 3) := fun Z h => by rw [hC] at h; exact h.1
  have T1 : ∀ Z, C Z → Z.cell? ⟨g1, 1, none⟩ = some (.bool false) := fun Z h => by rw [hC] at h; exact h.2.1
  have T2 : ∀ Z, C Z → Z.cell? ⟨g1, 2, none⟩ = some (.int .i64 v1) := fun Z h => by rw [hC] at h; exact h.2.2.1
  have T3 : ∀ Z, C Z → Z.cell? ⟨g1, 3, none⟩ = some (.int .i64 0) := fun Z h => by rw [hC] at h; exact h.2.2.2.1
  have T4 : ∀ Z, C Z → Z.cell? ⟨g1, 4, none⟩ = some (.int .i64 0) := fun Z h => by rw [hC] at h; exact h.2.2.2.2.1
  have T5 : ∀ Z, C Z → Z.cell? ⟨g1, 5, none⟩ = some (.string ⟨#[]⟩) := fun Z h => by rw [hC] at h; exact h.2.2.2.2.2.1
  have T6 : ∀ Z, C Z → Z.cell? ⟨g2, 0, none⟩ = some (.int .i64 3) := fun Z h => by rw [hC] at h; exact h.2.2.2.2.2.2.1
  have T7 : ∀ Z, C Z → Z.cell? ⟨g2, 1, none⟩ = some (.bool false) := fun Z h => by rw [hC] at h; exact h.2.2.2.2.2.2.2.1
  have T8 : ∀ Z, C Z → Z.cell? ⟨g2, 2, none⟩ = some (.int .i64 v2) := fun Z h => by rw [hC] at h; exact h.2.2.2.2.2.2.2.2.1
  have T9 : ∀ Z, C Z → Z.cell? ⟨g2, 3, none⟩ = some (.int .i64 0) := fun Z h => by rw [hC] at h; exact h.2.2.2.2.2.2.2.2.2.1
  have T10 : ∀ Z, C Z → Z.cell? ⟨g2, 4, none⟩ = some (.int .i64 0) := fun Z h => by rw [hC] at h; exact h.2.2.2.2.2.2.2.2.2.2.1
  have T11 : ∀ Z, C Z → Z.cell? ⟨g2, 5, none⟩ = some (.string ⟨#[]⟩) := fun Z h => by rw [hC] at h; exact h.2.2.2.2.2.2.2.2.2.2.2.1
  have T12 : ∀ Z, C Z → Z.cell? ⟨g3, 0, none⟩ = some (.int .i64 3) := fun Z h => by rw [hC] at h; exact h.2.2.2.2.2.2.2.2.2.2.2.2.1
  have T13 : ∀ Z, C Z → Z.cell? ⟨g3, 1, none⟩ = some (.bool false) := fun Z h => by rw [hC] at h; exact h.2.2.2.2.2.2.2.2.2.2.2.2.2.1
  have T14 : ∀ Z, C Z → Z.cell? ⟨g3, 2, none⟩ = some (.int .i64 v3) := fun Z h => by rw [hC] at h; exact h.2.2.2.2.2.2.2.2.2.2.2.2.2.2.1
  have T15 : ∀ Z, C Z → Z.cell? ⟨g3, 3, none⟩ = some (.int .i64 0) := fun Z h => by rw [hC] at h; exact h.2.2.2.2.2.2.2.2.2.2.2.2.2.2.2.1
  have T16 : ∀ Z, C Z → Z.cell? ⟨g3, 4, none⟩ = some (.int .i64 0) := fun Z h => by rw [hC] at h; exact h.2.2.2.2.2.2.2.2.2.2.2.2.2.2.2.2.1
  have T17 : ∀ Z, C Z → Z.cell? ⟨g3, 5, none⟩ = some (.string ⟨#[]⟩) := fun Z h => by rw [hC] at h; exact h.2.2.2.2.2.2.2.2.2.2.2.2.2.2.2.2.2.1
  have T18 : ∀ Z, C Z → Z.cell? ⟨g4, 0, none⟩ = some (.int .i64 3) := fun Z h => by rw [hC] at h; exact h.2.2.2.2.2.2.2.2.2.2.2.2.2.2.2.2.2.2.1
  have T19 : ∀ Z, C Z → Z.cell? ⟨g4, 1, none⟩ = some (.bool false) := fun Z h => by rw [hC] at h; exact h.2.2.2.2.2.2.2.2.2.2.2.2.2.2.2.2.2.2.2.1
  have T20 : ∀ Z, C Z → Z.cell? ⟨g4, 2, none⟩ = some (.int .i64 (-x - 1)) := fun Z h => by rw [hC] at h; exact h.2.2.2.2.2.2.2.2.2.2.2.2.2.2.2.2.2.2.2.2.1
  have T21 : ∀ Z, C Z → Z.cell? ⟨g4, 3, none⟩ = some (.int .i64 0) := fun Z h => by rw [hC] at h; exact h.2.2.2.2.2.2.2.2.2.2.2.2.2.2.2.2.2.2.2.2.2.1
  have T22 : ∀ Z, C Z → Z.cell? ⟨g4, 4, none⟩ = some (.int .i64 0) := fun Z h => by rw [hC] at h; exact h.2.2.2.2.2.2.2.2.2.2.2.2.2.2.2.2.2.2.2.2.2.2.1
  have T23 : ∀ Z, C Z → Z.cell? ⟨g4, 5, none⟩ = some (.string ⟨#[]⟩) := fun Z h => by rw [hC] at h; exact h.2.2.2.2.2.2.2.2.2.2.2.2.2.2.2.2.2.2.2.2.2.2.2.1
  have CF : Hid (∀ Z Z', C Z → Fr (fun _ => False) Z Z' → C Z') := Lib.hid (fun Z Z' h k => by rw [hC] at h ⊢; exact h.fr k)
  have TF : Hid (∀ Z, C Z → Fr (fun _ => False) w Z) := Lib.hid (fun Z h => by rw [hC] at h; exact h.frame)
  clear hC
  clear C1' C2' C3' C4' ST0 ST1 ST2 ST3 ST4 RV4
  have L1 := Lib.hid (fun Z (h : C Z) => (N1.out Z).mono fun en w' hh => (⟨hh.1, CF.out _ _ h (Fr.of_grown _ hh.2)⟩ : _ ∧ C w'))
  have L2 := Lib.hid (fun Z (h : C Z) => (N2.out Z).mono fun en w' hh => (⟨hh.1, CF.out _ _ h (Fr.of_grown _ hh.2)⟩ : _ ∧ C w'))
  have L3 := Lib.hid (fun Z (h : C Z) => (N3.out Z).mono fun en w' hh => (⟨hh.1, CF.out _ _ h (Fr.of_grown _ hh.2)⟩ : _ ∧ C w'))
  have L4 := Lib.hid (fun Z (h : C Z) => (N4.out Z).mono fun en w' hh => (⟨hh.1, CF.out _ _ h (Fr.of_grown _ hh.2)⟩ : _ ∧ C w'))
  clear N1 N2 N3 N4
  go_wp2_with fail
  refine wp_region_class (C := C) (by kernel_rfl) (by kernel_rfl) (CF.out _ _ HC0.out ((Fr.refl _ _).drew)) ?_
  repeat
    first
      | (refine quiet_no (by rfl) ?_
         try simp only [Act.put, List.setIfInBounds_toArray, List.set_cons_zero, List.set_cons_succ])
      | (refine quiet_yes ?_ (by rfl) (fun Z hZ => ?_) ?_
         rotate_left
         · unfold qAt Oper.quietAt
           first
             | (go_simp
                (all_goals first | with_reducible rfl | (with_reducible exact L1.out Z hZ) | (with_reducible exact L2.out Z hZ) | (with_reducible exact L3.out Z hZ) | (with_reducible exact L4.out Z hZ))
                done)
             | (have t0 := T0 Z hZ; have t1 := T1 Z hZ; have t2 := T2 Z hZ; have t3 := T3 Z hZ; have t4 := T4 Z hZ; have t5 := T5 Z hZ; have t6 := T6 Z hZ; have t7 := T7 Z hZ; have t8 := T8 Z hZ; have t9 := T9 Z hZ; have t10 := T10 Z hZ; have t11 := T11 Z hZ; have t12 := T12 Z hZ; have t13 := T13 Z hZ; have t14 := T14 Z hZ; have t15 := T15 Z hZ; have t16 := T16 Z hZ; have t17 := T17 Z hZ; have t18 := T18 Z hZ; have t19 := T19 Z hZ; have t20 := T20 Z hZ; have t21 := T21 Z hZ; have t22 := T22 Z hZ; have t23 := T23 Z hZ
                go_simp
                (all_goals with_reducible rfl)
                done)
         try simp only [Act.put, List.setIfInBounds_toArray, List.set_cons_zero, List.set_cons_succ])
  refine quiet_nil ?_
  intro Z1 hZ1
  have ST4 := Lib.hid (TF.out _ hZ1)
  clear hZ1 HC0 CF TF L1 L2 L3 L4 T0 T1 T2 T3 T4 T5 T6 T7 T8 T9 T10 T11 T12 T13 T14 T15 T16 T17 T18 T19 T20 T21 T22 T23
  clear C
  go_upto_region 18 with fail
  obtain ⟨pv, hpv⟩ : ∃ p, p = Z1.heap.size + 1 := ⟨_, rfl⟩
  obtain ⟨pu, hpu⟩ : ∃ p, p = Z1.heap.size := ⟨_, rfl⟩
  obtain ⟨C, hC⟩ : ∃ C : World → Prop, C = Cells w [((⟨pu, 0, none⟩ : Addr), (.int .i64 2 : Value)), ((⟨pu, 1, none⟩ : Addr), (.bool false : Value)), ((⟨pu, 2, none⟩ : Addr), (.int .i64 1 : Value)), ((⟨pu, 3, none⟩ : Addr), (.int .i64 0 : Value)), ((⟨pu, 4, none⟩ : Addr), (.int .i64 0 : Value)), ((⟨pu, 5, none⟩ : Addr), (.string ⟨#[]⟩ : Value)), ((⟨pv, 0, none⟩ : Addr), (.int .i64 2 : Value)), ((⟨pv, 1, none⟩ : Addr), (.bool false : Value)), ((⟨pv, 2, none⟩ : Addr), (.int .i64 1 : Value)), ((⟨pv, 3, none⟩ : Addr), (.int .i64 0 : Value)), ((⟨pv, 4, none⟩ : Addr), (.int .i64 0 : Value)), ((⟨pv, 5, none⟩ : Addr), (.string ⟨#[]⟩ : Value))] := ⟨_, rfl⟩
  have HC0 : Hid (C ((Z1.alloc (.cells #[.int .i64 2, .bool false, .int .i64 1, .int .i64 0, .int .i64 0, .string ⟨#[]⟩] 24)).alloc (.cells #[.int .i64 2, .bool false, .int .i64 1, .int .i64 0, .int .i64 0, .string ⟨#[]⟩] 24))) := Lib.hid (by rw [hC]; exact ⟨(by rw [hpu]; simp [go_sem]), (by rw [hpu]; simp [go_sem]), (by rw [hpu]; simp [go_sem]), (by rw [hpu]; simp [go_sem]), (by rw [hpu]; simp [go_sem]), (by rw [hpu]; simp [go_sem]), (by rw [hpv]; simp [go_sem]), (by rw [hpv]; simp [go_sem]), (by rw [hpv]; simp [go_sem]), (by rw [hpv]; simp [go_sem]), (by rw [hpv]; simp [go_sem]), (by rw [hpv]; simp [go_sem]), ((ST4.out.trans (Fr.alloc _ _ _)).trans (Fr.alloc _ _ _))⟩)
  have T0 : ∀ Z, C Z → Z.cell? ⟨pu, 0, none⟩ = some (.int .i64 2) := fun Z h => by rw [hC] at h; exact h.1
  have T1 : ∀ Z, C Z → Z.cell? ⟨pu, 1, none⟩ = some (.bool false) := fun Z h => by rw [hC] at h; exact h.2.1
  have T2 : ∀ Z, C Z → Z.cell? ⟨pu, 2, none⟩ = some (.int .i64 1) := fun Z h => by rw [hC] at h; exact h.2.2.1
  have T3 : ∀ Z, C Z → Z.cell? ⟨pu, 3, none⟩ = some (.int .i64 0) := fun Z h => by rw [hC] at h; exact h.2.2.2.1
  have T4 : ∀ Z, C Z → Z.cell? ⟨pu, 4, none⟩ = some (.int .i64 0) := fun Z h => by rw [hC] at h; exact h.2.2.2.2.1
  have T5 : ∀ Z, C Z → Z.cell? ⟨pu, 5, none⟩ = some (.string ⟨#[]⟩) := fun Z h => by rw [hC] at h; exact h.2.2.2.2.2.1
  have T6 : ∀ Z, C Z → Z.cell? ⟨pv, 0, none⟩ = some (.int .i64 2) := fun Z h => by rw [hC] at h; exact h.2.2.2.2.2.2.1
  have T7 : ∀ Z, C Z → Z.cell? ⟨pv, 1, none⟩ = some (.bool false) := fun Z h => by rw [hC] at h; exact h.2.2.2.2.2.2.2.1
  have T8 : ∀ Z, C Z → Z.cell? ⟨pv, 2, none⟩ = some (.int .i64 1) := fun Z h => by rw [hC] at h; exact h.2.2.2.2.2.2.2.2.1
  have T9 : ∀ Z, C Z → Z.cell? ⟨pv, 3, none⟩ = some (.int .i64 0) := fun Z h => by rw [hC] at h; exact h.2.2.2.2.2.2.2.2.2.1
  have T10 : ∀ Z, C Z → Z.cell? ⟨pv, 4, none⟩ = some (.int .i64 0) := fun Z h => by rw [hC] at h; exact h.2.2.2.2.2.2.2.2.2.2.1
  have T11 : ∀ Z, C Z → Z.cell? ⟨pv, 5, none⟩ = some (.string ⟨#[]⟩) := fun Z h => by rw [hC] at h; exact h.2.2.2.2.2.2.2.2.2.2.2.1
  have CF : Hid (∀ Z Z', C Z → Fr (fun _ => False) Z Z' → C Z') := Lib.hid (fun Z Z' h k => by rw [hC] at h ⊢; exact h.fr k)
  have TF : Hid (∀ Z, C Z → Fr (fun _ => False) w Z) := Lib.hid (fun Z h => by rw [hC] at h; exact h.frame)
  clear hC
  have STY := Lib.hid (show Fr (fun _ => False) w ((Z1.alloc (.cells #[.int .i64 2, .bool false, .int .i64 1, .int .i64 0, .int .i64 0, .string ⟨#[]⟩] 24)).alloc (.cells #[.int .i64 2, .bool false, .int .i64 1, .int .i64 0, .int .i64 0, .string ⟨#[]⟩] 24)) from (ST4.out.trans (Fr.alloc _ _ _)).trans (Fr.alloc _ _ _))
  rw [← hpv, ← hpu]
  generalize hY : ((Z1.alloc (.cells #[.int .i64 2, .bool false, .int .i64 1, .int .i64 0, .int .i64 0, .string ⟨#[]⟩] 24)).alloc (.cells #[.int .i64 2, .bool false, .int .i64 1, .int .i64 0, .int .i64 0, .string ⟨#[]⟩] 24)) = Y at *
  have hY4 := HC0.out
  clear hY hpu hpv HC0 ST4
  have a0 := T0 _ hY4; have a1 := T1 _ hY4; have a2 := T2 _ hY4; have a3 := T3 _ hY4; have a4 := T4 _ hY4; have a5 := T5 _ hY4; have a6 := T6 _ hY4; have a7 := T7 _ hY4; have a8 := T8 _ hY4; have a9 := T9 _ hY4; have a10 := T10 _ hY4; have a11 := T11 _ hY4
  go_wp2_with fail
  refine (R5.out _ _ (row_new _ [((2, false, 1, 0, 0, ⟨#[]⟩) : Pl.Ob), ((2, false, 1, 0, 0, ⟨#[]⟩) : Pl.Ob)] #[.int .i64 2, .bool false, .int .i64 1, .int .i64 0, .int .i64 0, .string ⟨#[]⟩, .int .i64 2, .bool false, .int .i64 1, .int .i64 0, .int .i64 0, .string ⟨#[]⟩] rfl 2 rfl)).mono ?_
  rintro en w5 ⟨z5, rfl, ro, oo, fo⟩
  have ST5 := Lib.hid ((Fr.alloc (fun _ => False) _ (.cells #[.int .i64 2, .bool false, .int .i64 1, .int .i64 0, .int .i64 0, .string ⟨#[]⟩, .int .i64 2, .bool false, .int .i64 1, .int .i64 0, .int .i64 0, .string ⟨#[]⟩] 24)).trans fo)
  obtain ⟨g5, cp5, rfl, hcp5, hg5, C5⟩ := row_get1 ro oo
  have C5' := Lib.hid C5
  have hY5 := CF.out _ _ hY4 ST5.out
  clear C5 ro oo fo R5 hY4 a0 a1 a2 a3 a4 a5 a6 a7 a8 a9 a10 a11
  have a0 := T0 _ hY5; have a1 := T1 _ hY5; have a2 := T2 _ hY5; have a3 := T3 _ hY5; have a4 := T4 _ hY5; have a5 := T5 _ hY5; have a6 := T6 _ hY5; have a7 := T7 _ hY5; have a8 := T8 _ hY5; have a9 := T9 _ hY5; have a10 := T10 _ hY5; have a11 := T11 _ hY5
  go_wp2_with fail
  refine (R6.out _ _ (row_new _ [((2, false, 1, 0, 0, ⟨#[]⟩) : Pl.Ob), ((2, false, 1, 0, 0, ⟨#[]⟩) : Pl.Ob)] #[.int .i64 2, .bool false, .int .i64 1, .int .i64 0, .int .i64 0, .string ⟨#[]⟩, .int .i64 2, .bool false, .int .i64 1, .int .i64 0, .int .i64 0, .string ⟨#[]⟩] rfl 2 rfl)).mono ?_
  rintro en w6 ⟨z6, rfl, ro, oo, fo⟩
  have ST6 := Lib.hid ((Fr.alloc (fun _ => False) _ (.cells #[.int .i64 2, .bool false, .int .i64 1, .int .i64 0, .int .i64 0, .string ⟨#[]⟩, .int .i64 2, .bool false, .int .i64 1, .int .i64 0, .int .i64 0, .string ⟨#[]⟩] 24)).trans fo)
  obtain ⟨g6, cp6, rfl, hcp6, hg6, C6⟩ := row_get1 ro oo
  have C6' := Lib.hid C6
  have hY6 := CF.out _ _ hY5 ST6.out
  clear C6 ro oo fo R6 hY5 a0 a1 a2 a3 a4 a5 a6 a7 a8 a9 a10 a11
  have a0 := T0 _ hY6; have a1 := T1 _ hY6; have a2 := T2 _ hY6; have a3 := T3 _ hY6; have a4 := T4 _ hY6; have a5 := T5 _ hY6; have a6 := T6 _ hY6; have a7 := T7 _ hY6; have a8 := T8 _ hY6; have a9 := T9 _ hY6; have a10 := T10 _ hY6; have a11 := T11 _ hY6
  go_wp2_with fail
  refine (R7.out _ _ (row_new _ [((2, false, 1, 0, 0, ⟨#[]⟩) : Pl.Ob), ((2, false, 1, 0, 0, ⟨#[]⟩) : Pl.Ob)] #[.int .i64 2, .bool false, .int .i64 1, .int .i64 0, .int .i64 0, .string ⟨#[]⟩, .int .i64 2, .bool false, .int .i64 1, .int .i64 0, .int .i64 0, .string ⟨#[]⟩] rfl 2 rfl)).mono ?_
  rintro en w7 ⟨z7, rfl, ro, oo, fo⟩
  have ST7 := Lib.hid ((Fr.alloc (fun _ => False) _ (.cells #[.int .i64 2, .bool false, .int .i64 1, .int .i64 0, .int .i64 0, .string ⟨#[]⟩, .int .i64 2, .bool false, .int .i64 1, .int .i64 0, .int .i64 0, .string ⟨#[]⟩] 24)).trans fo)
  obtain ⟨g7, cp7, rfl, hcp7, hg7, C7⟩ := row_get1 ro oo
  have C7' := Lib.hid C7
  have hY7 := CF.out _ _ hY6 ST7.out
  clear C7 ro oo fo R7 hY6 a0 a1 a2 a3 a4 a5 a6 a7 a8 a9 a10 a11
  have HT : Hid (w7.cell? ⟨pu, 0, none⟩ = some (.int .i64 2) ∧ w7.cell? ⟨pu, 1, none⟩ = some (.bool false) ∧ w7.cell? ⟨pu, 2, none⟩ = some (.int .i64 1) ∧ w7.cell? ⟨pu, 3, none⟩ = some (.int .i64 0) ∧ w7.cell? ⟨pu, 4, none⟩ = some (.int .i64 0) ∧ w7.cell? ⟨pu, 5, none⟩ = some (.string ⟨#[]⟩) ∧ Fr (fun _ => False) w7 w7) := Lib.hid ⟨T0 _ hY7, T1 _ hY7, T2 _ hY7, T3 _ hY7, T4 _ hY7, T5 _ hY7, Fr.refl _ _⟩
  have SA := Lib.hid (fun Z o (h : Z.cell? ⟨pu, 0, none⟩ = some (.int .i64 2) ∧ Z.cell? ⟨pu, 1, none⟩ = some (.bool false) ∧ Z.cell? ⟨pu, 2, none⟩ = some (.int .i64 1) ∧ Z.cell? ⟨pu, 3, none⟩ = some (.int .i64 0) ∧ Z.cell? ⟨pu, 4, none⟩ = some (.int .i64 0) ∧ Z.cell? ⟨pu, 5, none⟩ = some (.string ⟨#[]⟩) ∧ Fr (fun _ => False) w7 Z) => (by obtain ⟨t0, t1, t2, t3, t4, t5, tf⟩ := h; exact ⟨cell_fr0 t0 (Fr.alloc _ _ _), cell_fr0 t1 (Fr.alloc _ _ _), cell_fr0 t2 (Fr.alloc _ _ _), cell_fr0 t3 (Fr.alloc _ _ _), cell_fr0 t4 (Fr.alloc _ _ _), cell_fr0 t5 (Fr.alloc _ _ _), tf.trans (Fr.alloc _ _ _)⟩ : (Z.alloc o).cell? ⟨pu, 0, none⟩ = some (.int .i64 2) ∧ (Z.alloc o).cell? ⟨pu, 1, none⟩ = some (.bool false) ∧ (Z.alloc o).cell? ⟨pu, 2, none⟩ = some (.int .i64 1) ∧ (Z.alloc o).cell? ⟨pu, 3, none⟩ = some (.int .i64 0) ∧ (Z.alloc o).cell? ⟨pu, 4, none⟩ = some (.int .i64 0) ∧ (Z.alloc o).cell? ⟨pu, 5, none⟩ = some (.string ⟨#[]⟩) ∧ Fr (fun _ => False) w7 (Z.alloc o)))
  have LN := Lib.hid (fun Z (h : Z.cell? ⟨pu, 0, none⟩ = some (.int .i64 2) ∧ Z.cell? ⟨pu, 1, none⟩ = some (.bool false) ∧ Z.cell? ⟨pu, 2, none⟩ = some (.int .i64 1) ∧ Z.cell? ⟨pu, 3, none⟩ = some (.int .i64 0) ∧ Z.cell? ⟨pu, 4, none⟩ = some (.int .i64 0) ∧ Z.cell? ⟨pu, 5, none⟩ = some (.string ⟨#[]⟩) ∧ Fr (fun _ => False) w7 Z) => (NO.out Z).mono fun en w' hh => (by obtain ⟨t0, t1, t2, t3, t4, t5, tf⟩ := h; exact ⟨hh.1, grown_cell hh.2 t0, grown_cell hh.2 t1, grown_cell hh.2 t2, grown_cell hh.2 t3, grown_cell hh.2 t4, grown_cell hh.2 t5, tf.trans (Fr.of_grown _ hh.2)⟩ : en = .returned (Pl.ov (3, false, 1, 0, 0, ⟨#[]⟩)) ∧ (w'.cell? ⟨pu, 0, none⟩ = some (.int .i64 2) ∧ w'.cell? ⟨pu, 1, none⟩ = some (.bool false) ∧ w'.cell? ⟨pu, 2, none⟩ = some (.int .i64 1) ∧ w'.cell? ⟨pu, 3, none⟩ = some (.int .i64 0) ∧ w'.cell? ⟨pu, 4, none⟩ = some (.int .i64 0) ∧ w'.cell? ⟨pu, 5, none⟩ = some (.string ⟨#[]⟩) ∧ Fr (fun _ => False) w7 w')))
  have LR := Lib.hid (fun Z (h : Z.cell? ⟨pu, 0, none⟩ = some (.int .i64 2) ∧ Z.cell? ⟨pu, 1, none⟩ = some (.bool false) ∧ Z.cell? ⟨pu, 2, none⟩ = some (.int .i64 1) ∧ Z.cell? ⟨pu, 3, none⟩ = some (.int .i64 0) ∧ Z.cell? ⟨pu, 4, none⟩ = some (.int .i64 0) ∧ Z.cell? ⟨pu, 5, none⟩ = some (.string ⟨#[]⟩) ∧ Fr (fun _ => False) w7 Z) => (R8.out (Z.alloc (.cells #[.int .i64 2, .bool false, .int .i64 1, .int .i64 0, .int .i64 0, .string ⟨#[]⟩, .int .i64 3, .bool false, .int .i64 1, .int .i64 0, .int .i64 0, .string ⟨#[]⟩] 24)) Z.heap.size (row_new Z [((2, false, 1, 0, 0, ⟨#[]⟩) : Pl.Ob), Pl.intO 1] #[.int .i64 2, .bool false, .int .i64 1, .int .i64 0, .int .i64 0, .string ⟨#[]⟩, .int .i64 3, .bool false, .int .i64 1, .int .i64 0, .int .i64 0, .string ⟨#[]⟩] rfl 2 rfl)).mono fun en w' hh => (by obtain ⟨z8, h1, ro, oo, fo⟩ := hh; obtain ⟨t0, t1, t2, t3, t4, t5, tf⟩ := h; exact ⟨z8, h1, cell_fr0 (cell_fr0 t0 (Fr.alloc _ _ _)) fo, cell_fr0 (cell_fr0 t1 (Fr.alloc _ _ _)) fo, cell_fr0 (cell_fr0 t2 (Fr.alloc _ _ _)) fo, cell_fr0 (cell_fr0 t3 (Fr.alloc _ _ _)) fo, cell_fr0 (cell_fr0 t4 (Fr.alloc _ _ _)) fo, cell_fr0 (cell_fr0 t5 (Fr.alloc _ _ _)) fo, tf.trans ((Fr.alloc _ _ _).trans fo)⟩ : ∃ z8, en = .returned (.tuple #[z8, .int .i64 6]) ∧ w'.cell? ⟨pu, 0, none⟩ = some (.int .i64 2) ∧ w'.cell? ⟨pu, 1, none⟩ = some (.bool false) ∧ w'.cell? ⟨pu, 2, none⟩ = some (.int .i64 1) ∧ w'.cell? ⟨pu, 3, none⟩ = some (.int .i64 0) ∧ w'.cell? ⟨pu, 4, none⟩ = some (.int .i64 0) ∧ w'.cell? ⟨pu, 5, none⟩ = some (.string ⟨#[]⟩) ∧ Fr (fun _ => False) w7 w'))
  clear R8 NO hY7 CF TF T0 T1 T2 T3 T4 T5 T6 T7 T8 T9 T10 T11
  clear C
  go_wp2_with fail
  go_region_held3 (fun Z => Z.cell? ⟨pu, 0, none⟩ = some (.int .i64 2) ∧ Z.cell? ⟨pu, 1, none⟩ = some (.bool false) ∧ Z.cell? ⟨pu, 2, none⟩ = some (.int .i64 1) ∧ Z.cell? ⟨pu, 3, none⟩ = some (.int .i64 0) ∧ Z.cell? ⟨pu, 4, none⟩ = some (.int .i64 0) ∧ Z.cell? ⟨pu, 5, none⟩ = some (.string ⟨#[]⟩) ∧ Fr (fun _ => False) w7 Z)
    (first | assumption | exact HT.out | exact SA.out _ _ (by assumption))
    (first
      | (go_at_call 10; first | (with_reducible refine Calls.mono (LN.out _ ?_) ?_; (assumption); rintro e w' ⟨rfl, hS⟩))
      | (go_at_call 11; first | (with_reducible refine Calls.mono (LR.out _ ?_) ?_; (assumption); rintro e w' ⟨z8, rfl, hS⟩)))
  rename World => w8
  have ST8 := Lib.hid hS.2.2.2.2.2.2
  clear LN LR SA HT
  obtain ⟨C, hC⟩ : ∃ C : World → Prop, C = Cells w [((⟨g5, 0, none⟩ : Addr), (.int .i64 2 : Value)), ((⟨g5, 1, none⟩ : Addr), (.bool false : Value)), ((⟨g5, 2, none⟩ : Addr), (.int .i64 1 : Value)), ((⟨g5, 3, none⟩ : Addr), (.int .i64 0 : Value)), ((⟨g5, 4, none⟩ : Addr), (.int .i64 0 : Value)), ((⟨g5, 5, none⟩ : Addr), (.string ⟨#[]⟩ : Value)), ((⟨g6, 0, none⟩ : Addr), (.int .i64 2 : Value)), ((⟨g6, 1, none⟩ : Addr), (.bool false : Value)), ((⟨g6, 2, none⟩ : Addr), (.int .i64 1 : Value)), ((⟨g6, 3, none⟩ : Addr), (.int .i64 0 : Value)), ((⟨g6, 4, none⟩ : Addr), (.int .i64 0 : Value)), ((⟨g6, 5, none⟩ : Addr), (.string ⟨#[]⟩ : Value)), ((⟨g7, 0, none⟩ : Addr), (.int .i64 2 : Value)), ((⟨g7, 1, none⟩ : Addr), (.bool false : Value)), ((⟨g7, 2, none⟩ : Addr), (.int .i64 0 : Value)), ((⟨g7, 3, none⟩ : Addr), (.int .i64 0 : Value)), ((⟨g7, 4, none⟩ : Addr), (.int .i64 0 : Value)), ((⟨g7, 5, none⟩ : Addr), (.string ⟨#[]⟩ : Value))] := ⟨_, rfl⟩
  have HC0 : Hid (C w8) := Lib.hid (by rw [hC]; exact ⟨(cell_fr0 (cell_fr0 (cell_fr0 C5'.out.1 ST6.out) ST7.out) ST8.out), (cell_fr0 (cell_fr0 (cell_fr0 C5'.out.2.1 ST6.out) ST7.out) ST8.out), (cell_fr0 (cell_fr0 (cell_fr0 C5'.out.2.2.1 ST6.out) ST7.out) ST8.out), (cell_fr0 (cell_fr0 (cell_fr0 C5'.out.2.2.2.1 ST6.out) ST7.out) ST8.out), (cell_fr0 (cell_fr0 (cell_fr0 C5'.out.2.2.2.2.1 ST6.out) ST7.out) ST8.out), (cell_fr0 (cell_fr0 (cell_fr0 C5'.out.2.2.2.2.2 ST6.out) ST7.out) ST8.out), (cell_fr0 (cell_fr0 C6'.out.1 ST7.out) ST8.out), (cell_fr0 (cell_fr0 C6'.out.2.1 ST7.out) ST8.out), (cell_fr0 (cell_fr0 C6'.out.2.2.1 ST7.out) ST8.out), (cell_fr0 (cell_fr0 C6'.out.2.2.2.1 ST7.out) ST8.out), (cell_fr0 (cell_fr0 C6'.out.2.2.2.2.1 ST7.out) ST8.out), (cell_fr0 (cell_fr0 C6'.out.2.2.2.2.2 ST7.out) ST8.out), (cell_fr0 C7'.out.1 ST8.out), (cell_fr0 C7'.out.2.1 ST8.out), (cell_fr0 C7'.out.2.2.1 ST8.out), (cell_fr0 C7'.out.2.2.2.1 ST8.out), (cell_fr0 C7'.out.2.2.2.2.1 ST8.out), (cell_fr0 C7'.out.2.2.2.2.2 ST8.out), ((((STY.out.trans ST5.out).trans ST6.out).trans ST7.out).trans ST8.out)⟩)
  have T0 : ∀ Z, C Z → Z.cell? ⟨g5, 0, none⟩ = some (.int .i64 2) := fun Z h => by rw [hC] at h; exact h.1
  have T1 : ∀ Z, C Z → Z.cell? ⟨g5, 1, none⟩ = some (.bool false) := fun Z h => by rw [hC] at h; exact h.2.1
  have T2 : ∀ Z, C Z → Z.cell? ⟨g5, 2, none⟩ = some (.int .i64 1) := fun Z h => by rw [hC] at h; exact h.2.2.1
  have T3 : ∀ Z, C Z → Z.cell? ⟨g5, 3, none⟩ = some (.int .i64 0) := fun Z h => by rw [hC] at h; exact h.2.2.2.1
  have T4 : ∀ Z, C Z → Z.cell? ⟨g5, 4, none⟩ = some (.int .i64 0) := fun Z h => by rw [hC] at h; exact h.2.2.2.2.1
  have T5 : ∀ Z, C Z → Z.cell? ⟨g5, 5, none⟩ = some (.string ⟨#[]⟩) := fun Z h => by rw [hC] at h; exact h.2.2.2.2.2.1
  have T6 : ∀ Z, C Z → Z.cell? ⟨g6, 0, none⟩ = some (.int .i64 2) := fun Z h => by rw [hC] at h; exact h.2.2.2.2.2.2.1
  have T7 : ∀ Z, C Z → Z.cell? ⟨g6, 1, none⟩ = some (.bool false) := fun Z h => by rw [hC] at h; exact h.2.2.2.2.2.2.2.1
  have T8 : ∀ Z, C Z → Z.cell? ⟨g6, 2, none⟩ = some (.int .i64 1) := fun Z h => by rw [hC] at h; exact h.2.2.2.2.2.2.2.2.1
  have T9 : ∀ Z, C Z → Z.cell? ⟨g6, 3, none⟩ = some (.int .i64 0) := fun Z h => by rw [hC] at h; exact h.2.2.2.2.2.2.2.2.2.1
  have T10 : ∀ Z, C Z → Z.cell? ⟨g6, 4, none⟩ = some (.int .i64 0) := fun Z h => by rw [hC] at h; exact h.2.2.2.2.2.2.2.2.2.2.1
  have T11 : ∀ Z, C Z → Z.cell? ⟨g6, 5, none⟩ = some (.string ⟨#[]⟩) := fun Z h => by rw [hC] at h; exact h.2.2.2.2.2.2.2.2.2.2.2.1
  have T12 : ∀ Z, C Z → Z.cell? ⟨g7, 0, none⟩ = some (.int .i64 2) := fun Z h => by rw [hC] at h; exact h.2.2.2.2.2.2.2.2.2.2.2.2.1
  have T13 : ∀ Z, C Z → Z.cell? ⟨g7, 1, none⟩ = some (.bool false) := fun Z h => by rw [hC] at h; exact h.2.2.2.2.2.2.2.2.2.2.2.2.2.1
  have T14 : ∀ Z, C Z → Z.cell? ⟨g7, 2, none⟩ = some (.int .i64 0) := fun Z h => by rw [hC] at h; exact h.2.2.2.2.2.2.2.2.2.2.2.2.2.2.1
  have T15 : ∀ Z, C Z → Z.cell? ⟨g7, 3, none⟩ = some (.int .i64 0) := fun Z h => by rw [hC] at h; exact h.2.2.2.2.2.2.2.2.2.2.2.2.2.2.2.1
  have T16 : ∀ Z, C Z → Z.cell? ⟨g7, 4, none⟩ = some (.int .i64 0) := fun Z h => by rw [hC] at h; exact h.2.2.2.2.2.2.2.2.2.2.2.2.2.2.2.2.1
  have T17 : ∀ Z, C Z → Z.cell? ⟨g7, 5, none⟩ = some (.string ⟨#[]⟩) := fun Z h => by rw [hC] at h; exact h.2.2.2.2.2.2.2.2.2.2.2.2.2.2.2.2.2.1
  have CF : Hid (∀ Z Z', C Z → Fr (fun _ => False) Z Z' → C Z') := Lib.hid (fun Z Z' h k => by rw [hC] at h ⊢; exact h.fr k)
  have TF : Hid (∀ Z, C Z → Fr (fun _ => False) w Z) := Lib.hid (fun Z h => by rw [hC] at h; exact h.frame)
  clear hC
  clear C5' C6' C7' STY ST5 ST6 ST7 ST8
  have a0 := T0 _ HC0.out; have a1 := T1 _ HC0.out; have a2 := T2 _ HC0.out; have a3 := T3 _ HC0.out; have a4 := T4 _ HC0.out; have a5 := T5 _ HC0.out; have a6 := T6 _ HC0.out; have a7 := T7 _ HC0.out; have a8 := T8 _ HC0.out; have a9 := T9 _ HC0.out; have a10 := T10 _ HC0.out; have a11 := T11 _ HC0.out; have a12 := T12 _ HC0.out; have a13 := T13 _ HC0.out; have a14 := T14 _ HC0.out; have a15 := T15 _ HC0.out; have a16 := T16 _ HC0.out; have a17 := T17 _ HC0.out
  go_wp2_with fail
  go_ret
  exact ⟨rfl, Kept.of_fr (TF.out _ HC0.out)⟩
end Go.Proofs.Ytfmmomdmemcbbaa
