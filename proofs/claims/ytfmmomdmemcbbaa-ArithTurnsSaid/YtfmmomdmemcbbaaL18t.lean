/- ArithTurns: the walk. -/
import Derived.Test.YtfmmomdmemcbbaaL18m
import Derived.Test.YtfmmomdmemcbbaaCls
import Derived.Deep.QuietTactic
namespace Go.Proofs.Ytfmmomdmemcbbaa
set_option linter.unusedVariables false
open Go.RowKit

theorem Pl.numv_mid {x : Int} (hx : -16384 < x ∧ x < 16384) : Pl.numv (Pl.intO x) = (x * 65536, true) := by
  unfold Pl.numv Pl.intO
  simp only
  rw [if_pos trivial, if_pos (by omega)]
theorem Pl.doR_one (L : List Pl.Ob) (n : Int) (h : n = 23 ∨ n = 24 ∨ n = 25) : Pl.doR L n = Pl.oneR L n := by rcases h with rfl | rfl | rfl <;> (unfold Pl.doR; simp)
theorem Pl.one_form (o : Pl.Ob) (n v : Int) (h : n = 23 ∨ n = 24 ∨ n = 25) (hf : Pl.fits 24 o.1 = true) (hv : Pl.numv o = (v, true)) : Pl.doR [o] n = Pl.fixedR [o] 1 (Pl.f1b n v).1 (Pl.f1b n v).2 := by
  rw [Pl.doR_one _ _ h]
  show (if Pl.fits (Pl.kinds1 n) o.1 = true then Pl.oneI [o] n o else (6, [o])) = _
  have hk : Pl.kinds1 n = 24 := by unfold Pl.kinds1; rw [if_neg (by omega)]
  rw [hk, if_pos hf]
  unfold Pl.oneI
  rw [if_neg (by omega), if_neg (by omega), if_neg (by omega), hv, if_neg (by simp)]
theorem Pl.f1b_23 (v : Int) (h : 0 ≤ v) : Pl.f1b 23 v = (Pl.root (v * 65536), true) := by unfold Pl.f1b; rw [if_pos rfl, if_pos h]
theorem Pl.f1b_23n (v : Int) (h : v < 0) : Pl.f1b 23 v = (0, false) := by unfold Pl.f1b; rw [if_pos rfl, if_neg (by omega)]
theorem Pl.f1b_24 (v : Int) : Pl.f1b 24 v = (Pl.sin v, true) := by unfold Pl.f1b; rw [if_neg (by decide), if_pos rfl]
theorem Pl.f1b_25 (v : Int) : Pl.f1b 25 v = (Pl.cos v, true) := by unfold Pl.f1b; rw [if_neg (by decide), if_neg (by decide)]
theorem Pl.fixedR_one (o : Pl.Ob) (v : Int) (h : Pl.inFix v) : Pl.fixedR [o] 1 v true = (0, [Pl.fixO v]) := by
  unfold Pl.fixedR
  rw [if_pos ⟨rfl, h⟩]
  rfl
theorem Pl.fixedR_none (L : List Pl.Ob) (n : Nat) (v : Int) : Pl.fixedR L n v false = (2, L) := by
  unfold Pl.fixedR
  rw [if_neg (by simp)]
theorem Pl.dir_bd (y x : Int) : 0 ≤ Pl.dir y x ∧ Pl.dir y x ≤ 23592960 := by
  have := Pl.begin_bd y x
  unfold Pl.dir
  split
  · omega
  · unfold Pl.dirEnd
    split <;> omega
theorem turns_sin (x : Int) : Pl.doR [Pl.fixO x] 24 = (0, [Pl.fixO (Pl.sin x)]) := by
  have := Pl.sin_bd x
  rw [Pl.one_form _ _ x (by decide) (show Pl.fits 24 4 = true by decide) (Pl.numv_fixO x), Pl.f1b_24]
  exact Pl.fixedR_one _ _ (by unfold Pl.inFix; omega)
theorem turns_cos (y : Int) (hy : -16000 < y ∧ y < 16000) : Pl.doR [Pl.intO y] 25 = (0, [Pl.fixO (Pl.cos (y * 65536))]) := by
  have := Pl.cos_bd (y * 65536)
  rw [Pl.one_form _ _ (y * 65536) (by decide) (show Pl.fits 24 3 = true by decide) (Pl.numv_mid (by omega)), Pl.f1b_25]
  exact Pl.fixedR_one _ _ (by unfold Pl.inFix; omega)
theorem turns_root (x : Int) (h : 0 ≤ x ∧ x < 1073741823) : Pl.doR [Pl.fixO x] 23 = (0, [Pl.fixO (Pl.root (x * 65536))]) := by
  have hr := Pl.root_spec (x * 65536) (by omega) (by omega)
  have h2 : Pl.root (x * 65536) ≤ 1073741823 := by
    apply Int.not_lt.1
    intro hc
    have := Int.mul_le_mul (show 1073741823 ≤ Pl.root (x * 65536) by omega) (show 1073741823 ≤ Pl.root (x * 65536) by omega) (by omega) (by omega)
    omega
  rw [Pl.one_form _ _ x (by decide) (show Pl.fits 24 4 = true by decide) (Pl.numv_fixO x), Pl.f1b_23 _ h.1]
  exact Pl.fixedR_one _ _ (by unfold Pl.inFix; omega)
theorem turns_root_n (x : Int) (h : x < 0) : Pl.doR [Pl.fixO x] 23 = (2, [Pl.fixO x]) := by
  rw [Pl.one_form _ _ x (by decide) (show Pl.fits 24 4 = true by decide) (Pl.numv_fixO x), Pl.f1b_23n _ h]
  exact Pl.fixedR_none _ _ _
theorem Pl.doR_26 (L : List Pl.Ob) : Pl.doR L 26 = Pl.twoR L 26 := by unfold Pl.doR; simp
theorem Pl.f2_26 (x y : Int) : Pl.f2 26 x y = if x = 0 ∧ y = 0 then (0, false) else (Pl.dir x y, true) := by unfold Pl.f2; rw [if_neg (by decide), if_neg (by decide), if_neg (by decide), if_neg (by decide)]
theorem Pl.atan_form (x y : Int) (hy : -16000 < y ∧ y < 16000) : Pl.doR [Pl.fixO x, Pl.intO y] 26 = Pl.fixedR [Pl.fixO x, Pl.intO y] 2 (Pl.f2 26 x (y * 65536)).1 (Pl.f2 26 x (y * 65536)).2 := by
  rw [Pl.doR_26, Pl.two_form (Pl.fixO x) (Pl.intO y) 26 (show Pl.fits (Pl.kinds2 26) 4 = true by decide) (show Pl.fits (Pl.kinds2 26) 3 = true by decide), Pl.two_num _ _ _ (by decide), Pl.numbersR_fix _ _ _ _ (by simp [Pl.fixO]) (by rw [Pl.numv_fixO]) (by rw [Pl.numv_mid (by omega)]) (by simp), Pl.numv_mid (by omega), Pl.numv_fixO]
theorem turns_dir (x y : Int) (hy : -16000 < y ∧ y < 16000) (h : ¬ (x = 0 ∧ y = 0)) : Pl.doR [Pl.fixO x, Pl.intO y] 26 = (0, [Pl.fixO (Pl.dir x (y * 65536))]) := by
  have := Pl.dir_bd x (y * 65536)
  rw [Pl.atan_form x y hy, Pl.f2_26, if_neg (by omega)]
  exact Pl.fixedR_two _ _ _ (by unfold Pl.inFix; omega)
theorem turns_dir_no : Pl.doR [Pl.fixO 0, Pl.intO 0] 26 = (2, [Pl.fixO 0, Pl.intO 0]) := by
  rw [Pl.atan_form 0 0 (by decide), Pl.f2_26, if_pos (by decide)]
  exact Pl.fixedR_none _ _ _
set_option maxHeartbeats 8000000 in
set_option maxRecDepth 100000 in
theorem walk_turns_A (a b : Int) (ha : -2147483648 ≤ a ∧ a ≤ 2147483647) (hb : -32768 ≤ b ∧ b ≤ 32767) (x y : Int) (hx : a.tmod 1073741823 = x) (hy : b.tmod 16000 = y) (h0 : Hid (x = 0 ∧ y = 0)) (w : World) :
    Calls Try.prog 7 #[.int .i32 a, .int .i16 b] w fun en w' => en = .returned (.bool true) ∧ Kept w w' := by
  have bx := Pl.tmod_in a 1073741823 (by omega)
  have by' := Pl.tmod_in b 16000 (by omega)
  rw [hx] at bx
  rw [hy] at by'
  have SN : Hid (∀ Z, Calls Try.prog 14 #[.int .i64 x] Z fun e w' => e = .returned (.int .i64 (Pl.sin x)) ∧ Grown Z w') := Lib.hid (sin_any x)
  have CN : Hid (∀ Z, Calls Try.prog 15 #[.int .i64 (y * 65536)] Z fun e w' => e = .returned (.int .i64 (Pl.cos (y * 65536))) ∧ Grown Z w') := Lib.hid (cos_any (y * 65536))
  have D1 := turns_sin x
  have D2 := turns_cos y by'
  have D3 : Pl.doR [Pl.fixO x, Pl.intO y] 26 = (2, [Pl.fixO x, Pl.intO y]) := by
    obtain ⟨e1, e2⟩ := h0.out
    subst e1
    subst e2
    exact turns_dir_no
  have DN : Hid (∀ Z, Calls Try.prog 16 #[.int .i64 x, .int .i64 (y * 65536)] Z fun e w' => e = .returned (.tuple #[.int .i64 0, .bool false]) ∧ Grown Z w') := Lib.hid (fun Z => dir_no x (y * 65536) (.inl (by have := h0.out; omega)) Z)
  have D4 := turns_root x (by have := h0.out; omega)
  have QN : Hid (∀ Z, Calls Try.prog 17 #[.int .i64 x] Z fun e w' => e = .returned (.tuple #[.int .i64 (Pl.root (x * 65536)), .bool true]) ∧ Z = w') := Lib.hid (fun Z => fsqrt_ok x (by have := h0.out; omega) Z)
  generalize Pl.root (x * 65536) = r at D4 QN
  generalize Pl.sin x = s at D1 SN
  generalize Pl.cos (y * 65536) = c at D2 CN
  have m0 := Pl.may_fix (v := x) (by unfold Pl.inFix; omega)
  have m1 := Pl.may_intO (v := y) (by unfold Pl.inInt; omega)
  have R1 := Lib.hid (fun Z b (hA : RowV Z (.slice (some ⟨b, 0, none⟩) 1 1) [Pl.fixO x]) => run18 Z b [Pl.fixO x] 1 rfl hA (fun o ho => by rw [List.mem_singleton.1 ho]; exact m0) (by simp) ⟨#[115, 105, 110]⟩ 24 op_sin 0 [Pl.fixO s] D1)
  have R2 := Lib.hid (fun Z b (hA : RowV Z (.slice (some ⟨b, 0, none⟩) 1 1) [Pl.intO y]) => run18 Z b [Pl.intO y] 1 rfl hA (fun o ho => by rw [List.mem_singleton.1 ho]; exact m1) (by simp) ⟨#[99, 111, 115]⟩ 25 op_cos 0 [Pl.fixO c] D2)
  have R3 := Lib.hid (fun Z b (hA : RowV Z (.slice (some ⟨b, 0, none⟩) 2 2) [Pl.fixO x, Pl.intO y]) => run18 Z b [Pl.fixO x, Pl.intO y] 2 rfl hA (Pl.may_two m0 m1) (by simp) ⟨#[97, 116, 97, 110]⟩ 26 op_atan 2 [Pl.fixO x, Pl.intO y] D3)
  have R4 := Lib.hid (fun Z b (hA : RowV Z (.slice (some ⟨b, 0, none⟩) 1 1) [Pl.fixO x]) => run18 Z b [Pl.fixO x] 1 rfl hA (fun o ho => by rw [List.mem_singleton.1 ho]; exact m0) (by simp) ⟨#[115, 113, 114, 116]⟩ 23 op_sqrt 0 [Pl.fixO r] D4)
  clear D1 D2 D3 D4 m0 m1
  have K := Lib.hid known18
  have FX := Lib.hid (fun Z => fix18 x Z)
  have NY := Lib.hid (fun Z => num18 y Z)
  have FS := Lib.hid (fun Z => fix18 s Z)
  have FC := Lib.hid (fun Z => fix18 c Z)
  have FR := Lib.hid (fun Z => fix18 r Z)
  unfold Pl.intO at NY
  unfold Pl.fixO at FX FS FC FR
  go_enter Try.func7, Try.ntmps7
  go_wp2_with fail
  refine (K.out _).mono ?_
  rintro en w0 ⟨rfl, f0⟩
  have F0 := Lib.hid f0
  clear f0 K
  go_wp2_with fail
  refine (FX.out _).mono ?_
  rintro en u00 ⟨rfl, hu00⟩
  have RV := Lib.hid (row_new u00 [Pl.fixO x] #[.int .i64 4, .bool false, .int .i64 x, .int .i64 0, .int .i64 0, .string ⟨#[]⟩] rfl 1 rfl)
  have SA := Lib.hid ((Fr.of_grown _ hu00).trans (Fr.alloc (fun _ => False) u00 (.cells #[.int .i64 4, .bool false, .int .i64 x, .int .i64 0, .int .i64 0, .string ⟨#[]⟩] 24)))
  clear hu00
  go_wp2_with fail
  refine (R1.out _ _ RV.out).mono ?_
  rintro en w1 ⟨v1, rfl, ro, oo, fo⟩
  have ST1 := Lib.hid (SA.out.trans fo)
  obtain ⟨g1, cp1, rfl, hcp1, hg1, C1⟩ := row_get1 ro oo
  have C1' := Lib.hid C1
  clear C1
  clear ro oo fo RV SA R1
  go_wp2_with fail
  refine (NY.out _).mono ?_
  rintro en u10 ⟨rfl, hu10⟩
  have RV := Lib.hid (row_new u10 [Pl.intO y] #[.int .i64 3, .bool false, .int .i64 y, .int .i64 0, .int .i64 0, .string ⟨#[]⟩] rfl 1 rfl)
  have SA := Lib.hid ((Fr.of_grown _ hu10).trans (Fr.alloc (fun _ => False) u10 (.cells #[.int .i64 3, .bool false, .int .i64 y, .int .i64 0, .int .i64 0, .string ⟨#[]⟩] 24)))
  clear hu10
  go_wp2_with fail
  refine (R2.out _ _ RV.out).mono ?_
  rintro en w2 ⟨v2, rfl, ro, oo, fo⟩
  have ST2 := Lib.hid (SA.out.trans fo)
  obtain ⟨g2, cp2, rfl, hcp2, hg2, C2⟩ := row_get1 ro oo
  have C2' := Lib.hid C2
  clear C2
  clear ro oo fo RV SA R2
  go_wp2_with fail
  refine (FX.out _).mono ?_
  rintro en u20 ⟨rfl, hu20⟩
  go_wp2_with fail
  refine (NY.out _).mono ?_
  rintro en u21 ⟨rfl, hu21⟩
  have RV := Lib.hid (row_new u21 [Pl.fixO x, Pl.intO y] #[.int .i64 4, .bool false, .int .i64 x, .int .i64 0, .int .i64 0, .string ⟨#[]⟩, .int .i64 3, .bool false, .int .i64 y, .int .i64 0, .int .i64 0, .string ⟨#[]⟩] rfl 2 rfl)
  have SA := Lib.hid (((Fr.of_grown _ hu20).trans (Fr.of_grown _ hu21)).trans (Fr.alloc (fun _ => False) u21 (.cells #[.int .i64 4, .bool false, .int .i64 x, .int .i64 0, .int .i64 0, .string ⟨#[]⟩, .int .i64 3, .bool false, .int .i64 y, .int .i64 0, .int .i64 0, .string ⟨#[]⟩] 24)))
  clear hu20 hu21
  go_wp2_with fail
  refine (R3.out _ _ RV.out).mono ?_
  rintro en w3 ⟨v3, rfl, ro, oo, fo⟩
  have ST3 := Lib.hid (SA.out.trans fo)
  clear ro oo fo RV SA R3
  go_wp2_with fail
  refine (FX.out _).mono ?_
  rintro en u30 ⟨rfl, hu30⟩
  have RV := Lib.hid (row_new u30 [Pl.fixO x] #[.int .i64 4, .bool false, .int .i64 x, .int .i64 0, .int .i64 0, .string ⟨#[]⟩] rfl 1 rfl)
  have SA := Lib.hid ((Fr.of_grown _ hu30).trans (Fr.alloc (fun _ => False) u30 (.cells #[.int .i64 4, .bool false, .int .i64 x, .int .i64 0, .int .i64 0, .string ⟨#[]⟩] 24)))
  clear hu30
  go_wp2_with fail
  refine (R4.out _ _ RV.out).mono ?_
  rintro en w4 ⟨v4, rfl, ro, oo, fo⟩
  have ST4 := Lib.hid (SA.out.trans fo)
  obtain ⟨g4, cp4, rfl, hcp4, hg4, C4⟩ := row_get1 ro oo
  have C4' := Lib.hid C4
  clear C4
  clear ro oo fo RV SA R4
  obtain ⟨C, hC⟩ : ∃ C : World → Prop, C = Cells w [((⟨g1, 0, none⟩ : Addr), (.int .i64 4 : Value)), ((⟨g1, 1, none⟩ : Addr), (.bool false : Value)), ((⟨g1, 2, none⟩ : Addr), (.int .i64 s : Value)), ((⟨g1, 3, none⟩ : Addr), (.int .i64 0 : Value)), ((⟨g1, 4, none⟩ : Addr), (.int .i64 0 : Value)), ((⟨g1, 5, none⟩ : Addr), (.string ⟨#[]⟩ : Value)), ((⟨g2, 0, none⟩ : Addr), (.int .i64 4 : Value)), ((⟨g2, 1, none⟩ : Addr), (.bool false : Value)), ((⟨g2, 2, none⟩ : Addr), (.int .i64 c : Value)), ((⟨g2, 3, none⟩ : Addr), (.int .i64 0 : Value)), ((⟨g2, 4, none⟩ : Addr), (.int .i64 0 : Value)), ((⟨g2, 5, none⟩ : Addr), (.string ⟨#[]⟩ : Value)), ((⟨g4, 0, none⟩ : Addr), (.int .i64 4 : Value)), ((⟨g4, 1, none⟩ : Addr), (.bool false : Value)), ((⟨g4, 2, none⟩ : Addr), (.int .i64 r : Value)), ((⟨g4, 3, none⟩ : Addr), (.int .i64 0 : Value)), ((⟨g4, 4, none⟩ : Addr), (.int .i64 0 : Value)), ((⟨g4, 5, none⟩ : Addr), (.string ⟨#[]⟩ : Value))] := ⟨_, rfl⟩
  have HC0 : Hid (C w4) := Lib.hid (by rw [hC]; exact ⟨(cell_fr0 (cell_fr0 (cell_fr0 C1'.out.1 ST2.out) ST3.out) ST4.out), (cell_fr0 (cell_fr0 (cell_fr0 C1'.out.2.1 ST2.out) ST3.out) ST4.out), (cell_fr0 (cell_fr0 (cell_fr0 C1'.out.2.2.1 ST2.out) ST3.out) ST4.out), (cell_fr0 (cell_fr0 (cell_fr0 C1'.out.2.2.2.1 ST2.out) ST3.out) ST4.out), (cell_fr0 (cell_fr0 (cell_fr0 C1'.out.2.2.2.2.1 ST2.out) ST3.out) ST4.out), (cell_fr0 (cell_fr0 (cell_fr0 C1'.out.2.2.2.2.2 ST2.out) ST3.out) ST4.out), (cell_fr0 (cell_fr0 C2'.out.1 ST3.out) ST4.out), (cell_fr0 (cell_fr0 C2'.out.2.1 ST3.out) ST4.out), (cell_fr0 (cell_fr0 C2'.out.2.2.1 ST3.out) ST4.out), (cell_fr0 (cell_fr0 C2'.out.2.2.2.1 ST3.out) ST4.out), (cell_fr0 (cell_fr0 C2'.out.2.2.2.2.1 ST3.out) ST4.out), (cell_fr0 (cell_fr0 C2'.out.2.2.2.2.2 ST3.out) ST4.out), C4'.out.1, C4'.out.2.1, C4'.out.2.2.1, C4'.out.2.2.2.1, C4'.out.2.2.2.2.1, C4'.out.2.2.2.2.2, ((((F0.out.trans ST1.out).trans ST2.out).trans ST3.out).trans ST4.out)⟩)
  have T0 : ∀ Z, C Z → Z.cell? ⟨g1, 0, none⟩ = some (.int .i64 4) := fun Z h => by rw [hC] at h; exact h.1
  have T1 : ∀ Z, C Z → Z.cell? ⟨g1, 1, none⟩ = some (.bool false) := fun Z h => by rw [hC] at h; exact h.2.1
  have T2 : ∀ Z, C Z → Z.cell? ⟨g1, 2, none⟩ = some (.int .i64 s) := fun Z h => by rw [hC] at h; exact h.2.2.1
  have T3 : ∀ Z, C Z → Z.cell? ⟨g1, 3, none⟩ = some (.int .i64 0) := fun Z h => by rw [hC] at h; exact h.2.2.2.1
  have T4 : ∀ Z, C Z → Z.cell? ⟨g1, 4, none⟩ = some (.int .i64 0) := fun Z h => by rw [hC] at h; exact h.2.2.2.2.1
  have T5 : ∀ Z, C Z → Z.cell? ⟨g1, 5, none⟩ = some (.string ⟨#[]⟩) := fun Z h => by rw [hC] at h; exact h.2.2.2.2.2.1
  have T6 : ∀ Z, C Z → Z.cell? ⟨g2, 0, none⟩ = some (.int .i64 4) := fun Z h => by rw [hC] at h; exact h.2.2.2.2.2.2.1
  have T7 : ∀ Z, C Z → Z.cell? ⟨g2, 1, none⟩ = some (.bool false) := fun Z h => by rw [hC] at h; exact h.2.2.2.2.2.2.2.1
  have T8 : ∀ Z, C Z → Z.cell? ⟨g2, 2, none⟩ = some (.int .i64 c) := fun Z h => by rw [hC] at h; exact h.2.2.2.2.2.2.2.2.1
  have T9 : ∀ Z, C Z → Z.cell? ⟨g2, 3, none⟩ = some (.int .i64 0) := fun Z h => by rw [hC] at h; exact h.2.2.2.2.2.2.2.2.2.1
  have T10 : ∀ Z, C Z → Z.cell? ⟨g2, 4, none⟩ = some (.int .i64 0) := fun Z h => by rw [hC] at h; exact h.2.2.2.2.2.2.2.2.2.2.1
  have T11 : ∀ Z, C Z → Z.cell? ⟨g2, 5, none⟩ = some (.string ⟨#[]⟩) := fun Z h => by rw [hC] at h; exact h.2.2.2.2.2.2.2.2.2.2.2.1
  have T12 : ∀ Z, C Z → Z.cell? ⟨g4, 0, none⟩ = some (.int .i64 4) := fun Z h => by rw [hC] at h; exact h.2.2.2.2.2.2.2.2.2.2.2.2.1
  have T13 : ∀ Z, C Z → Z.cell? ⟨g4, 1, none⟩ = some (.bool false) := fun Z h => by rw [hC] at h; exact h.2.2.2.2.2.2.2.2.2.2.2.2.2.1
  have T14 : ∀ Z, C Z → Z.cell? ⟨g4, 2, none⟩ = some (.int .i64 r) := fun Z h => by rw [hC] at h; exact h.2.2.2.2.2.2.2.2.2.2.2.2.2.2.1
  have T15 : ∀ Z, C Z → Z.cell? ⟨g4, 3, none⟩ = some (.int .i64 0) := fun Z h => by rw [hC] at h; exact h.2.2.2.2.2.2.2.2.2.2.2.2.2.2.2.1
  have T16 : ∀ Z, C Z → Z.cell? ⟨g4, 4, none⟩ = some (.int .i64 0) := fun Z h => by rw [hC] at h; exact h.2.2.2.2.2.2.2.2.2.2.2.2.2.2.2.2.1
  have T17 : ∀ Z, C Z → Z.cell? ⟨g4, 5, none⟩ = some (.string ⟨#[]⟩) := fun Z h => by rw [hC] at h; exact h.2.2.2.2.2.2.2.2.2.2.2.2.2.2.2.2.2.1
  have CF : Hid (∀ Z Z', C Z → Fr (fun _ => False) Z Z' → C Z') := Lib.hid (fun Z Z' h k => by rw [hC] at h ⊢; exact h.fr k)
  have TF : Hid (∀ Z, C Z → Fr (fun _ => False) w Z) := Lib.hid (fun Z h => by rw [hC] at h; exact h.frame)
  clear hC
  clear C1' C2' C4' ST1 ST2 ST3 ST4 F0 FX NY
  have LS := Lib.hid (fun Z (h : C Z) => (SN.out Z).mono fun en w' hh => (⟨hh.1, CF.out _ _ h (Fr.of_grown _ hh.2)⟩ : _ ∧ C w'))
  have LC := Lib.hid (fun Z (h : C Z) => (CN.out Z).mono fun en w' hh => (⟨hh.1, CF.out _ _ h (Fr.of_grown _ hh.2)⟩ : _ ∧ C w'))
  have L1 := Lib.hid (fun Z (h : C Z) => (FS.out Z).mono fun en w' hh => (⟨hh.1, CF.out _ _ h (Fr.of_grown _ hh.2)⟩ : _ ∧ C w'))
  have L2 := Lib.hid (fun Z (h : C Z) => (FC.out Z).mono fun en w' hh => (⟨hh.1, CF.out _ _ h (Fr.of_grown _ hh.2)⟩ : _ ∧ C w'))
  have LD := Lib.hid (fun Z (h : C Z) => (DN.out Z).mono fun en w' hh => (⟨hh.1, CF.out _ _ h (Fr.of_grown _ hh.2)⟩ : _ ∧ C w'))
  have L4 := Lib.hid (fun Z (h : C Z) => (FR.out Z).mono fun en w' hh => (⟨hh.1, CF.out _ _ h (Fr.of_grown _ hh.2)⟩ : _ ∧ C w'))
  have wr : IntKind.i64.wrap (y * 65536) = y * 65536 := by unfold IntKind.wrap IntKind.bits IntKind.signed; simp; omega
  clear SN CN FS FC DN FR
  go_wp2_with fail
  refine wp_region_class (C := C) (by kernel_rfl) (by kernel_rfl) (CF.out _ _ HC0.out ((Fr.refl _ _).drew)) ?_
  repeat
    first
      | (refine quiet_no (by rfl) ?_
         try simp only [Act.put, List.setIfInBounds_toArray, List.set_cons_zero, List.set_cons_succ])
      | (refine quiet_yes ?_ (by rfl) (fun Z hZ => ?_) ?_
         rotate_left
         · unfold qAt Oper.quietAt
           first
             | (go_simp
                (all_goals first | with_reducible rfl | (with_reducible exact LS.out Z hZ) | (with_reducible exact LC.out Z hZ) | (with_reducible exact L1.out Z hZ) | (with_reducible exact L2.out Z hZ))
                done)
             | (have t0 := T0 Z hZ; have t1 := T1 Z hZ; have t2 := T2 Z hZ; have t3 := T3 Z hZ; have t4 := T4 Z hZ; have t5 := T5 Z hZ; have t6 := T6 Z hZ; have t7 := T7 Z hZ; have t8 := T8 Z hZ; have t9 := T9 Z hZ; have t10 := T10 Z hZ; have t11 := T11 Z hZ; have t12 := T12 Z hZ; have t13 := T13 Z hZ; have t14 := T14 Z hZ; have t15 := T15 Z hZ; have t16 := T16 Z hZ; have t17 := T17 Z hZ
                go_simp
                (all_goals with_reducible rfl)
                done)
         try simp only [Act.put, List.setIfInBounds_toArray, List.set_cons_zero, List.set_cons_succ])
  refine quiet_nil ?_
  intro Z1 hZ1
  go_wp2_with fail
  refine (LD.out _ hZ1).mono ?_
  rintro en Z2 ⟨rfl, hZ2⟩
  clear hZ1 LS LC L1 L2
  go_wp2_with fail
  refine (QN.out _).mono ?_
  rintro en Z3 ⟨rfl, rfl⟩
  go_wp2_with fail
  refine wp_region_class (C := C) (by kernel_rfl) (by kernel_rfl) (CF.out _ _ hZ2 ((Fr.refl _ _).drew)) ?_
  repeat
    first
      | (refine quiet_no (by rfl) ?_
         try simp only [Act.put, List.setIfInBounds_toArray, List.set_cons_zero, List.set_cons_succ])
      | (refine quiet_yes ?_ (by rfl) (fun Z hZ => ?_) ?_
         rotate_left
         · unfold qAt Oper.quietAt
           first
             | (go_simp
                (all_goals first | with_reducible rfl )
                done)
             | (have t0 := T0 Z hZ; have t1 := T1 Z hZ; have t2 := T2 Z hZ; have t3 := T3 Z hZ; have t4 := T4 Z hZ; have t5 := T5 Z hZ; have t6 := T6 Z hZ; have t7 := T7 Z hZ; have t8 := T8 Z hZ; have t9 := T9 Z hZ; have t10 := T10 Z hZ; have t11 := T11 Z hZ; have t12 := T12 Z hZ; have t13 := T13 Z hZ; have t14 := T14 Z hZ; have t15 := T15 Z hZ; have t16 := T16 Z hZ; have t17 := T17 Z hZ
                go_simp
                (all_goals with_reducible rfl)
                done)
         try simp only [Act.put, List.setIfInBounds_toArray, List.set_cons_zero, List.set_cons_succ])
  refine quiet_nil ?_
  intro Z4 hZ4
  clear hZ2 LD QN
  go_wp2_with fail
  refine wp_region_class (C := C) (by kernel_rfl) (by kernel_rfl) (CF.out _ _ hZ4 ((Fr.refl _ _).drew)) ?_
  repeat
    first
      | (refine quiet_no (by rfl) ?_
         try simp only [Act.put, List.setIfInBounds_toArray, List.set_cons_zero, List.set_cons_succ])
      | (refine quiet_yes ?_ (by rfl) (fun Z hZ => ?_) ?_
         rotate_left
         · unfold qAt Oper.quietAt
           first
             | (go_simp
                (all_goals first | with_reducible rfl | (with_reducible exact L4.out Z hZ))
                done)
             | (have t0 := T0 Z hZ; have t1 := T1 Z hZ; have t2 := T2 Z hZ; have t3 := T3 Z hZ; have t4 := T4 Z hZ; have t5 := T5 Z hZ; have t6 := T6 Z hZ; have t7 := T7 Z hZ; have t8 := T8 Z hZ; have t9 := T9 Z hZ; have t10 := T10 Z hZ; have t11 := T11 Z hZ; have t12 := T12 Z hZ; have t13 := T13 Z hZ; have t14 := T14 Z hZ; have t15 := T15 Z hZ; have t16 := T16 Z hZ; have t17 := T17 Z hZ
                go_simp
                (all_goals with_reducible rfl)
                done)
         try simp only [Act.put, List.setIfInBounds_toArray, List.set_cons_zero, List.set_cons_succ])
  refine quiet_nil ?_
  intro Z5 hZ5
  go_wp2_with fail
  go_ret
  exact ⟨rfl, Kept.of_fr (TF.out _ hZ5)⟩
set_option maxHeartbeats 8000000 in
set_option maxRecDepth 100000 in
theorem walk_turns_B (a b : Int) (ha : -2147483648 ≤ a ∧ a ≤ 2147483647) (hb : -32768 ≤ b ∧ b ≤ 32767) (x y : Int) (hx : a.tmod 1073741823 = x) (hy : b.tmod 16000 = y) (hnz : ¬ (x = 0 ∧ y = 0)) (hpos : 0 ≤ x) (w : World) :
    Calls Try.prog 7 #[.int .i32 a, .int .i16 b] w fun en w' => en = .returned (.bool true) ∧ Kept w w' := by
  have bx := Pl.tmod_in a 1073741823 (by omega)
  have by' := Pl.tmod_in b 16000 (by omega)
  rw [hx] at bx
  rw [hy] at by'
  have SN : Hid (∀ Z, Calls Try.prog 14 #[.int .i64 x] Z fun e w' => e = .returned (.int .i64 (Pl.sin x)) ∧ Grown Z w') := Lib.hid (sin_any x)
  have CN : Hid (∀ Z, Calls Try.prog 15 #[.int .i64 (y * 65536)] Z fun e w' => e = .returned (.int .i64 (Pl.cos (y * 65536))) ∧ Grown Z w') := Lib.hid (cos_any (y * 65536))
  have D1 := turns_sin x
  have D2 := turns_cos y by'
  have D3 := turns_dir x y by' hnz
  have DN : Hid (∀ Z, Calls Try.prog 16 #[.int .i64 x, .int .i64 (y * 65536)] Z fun e w' => e = .returned (.tuple #[.int .i64 (Pl.dir x (y * 65536)), .bool true]) ∧ Grown Z w') := Lib.hid (fun Z => dir_ok x (y * 65536) (by omega) (by omega) (by omega) Z)
  generalize Pl.dir x (y * 65536) = d at D3 DN
  have D4 := turns_root x (by omega)
  have QN : Hid (∀ Z, Calls Try.prog 17 #[.int .i64 x] Z fun e w' => e = .returned (.tuple #[.int .i64 (Pl.root (x * 65536)), .bool true]) ∧ Z = w') := Lib.hid (fun Z => fsqrt_ok x (by omega) Z)
  generalize Pl.root (x * 65536) = r at D4 QN
  generalize Pl.sin x = s at D1 SN
  generalize Pl.cos (y * 65536) = c at D2 CN
  have m0 := Pl.may_fix (v := x) (by unfold Pl.inFix; omega)
  have m1 := Pl.may_intO (v := y) (by unfold Pl.inInt; omega)
  have R1 := Lib.hid (fun Z b (hA : RowV Z (.slice (some ⟨b, 0, none⟩) 1 1) [Pl.fixO x]) => run18 Z b [Pl.fixO x] 1 rfl hA (fun o ho => by rw [List.mem_singleton.1 ho]; exact m0) (by simp) ⟨#[115, 105, 110]⟩ 24 op_sin 0 [Pl.fixO s] D1)
  have R2 := Lib.hid (fun Z b (hA : RowV Z (.slice (some ⟨b, 0, none⟩) 1 1) [Pl.intO y]) => run18 Z b [Pl.intO y] 1 rfl hA (fun o ho => by rw [List.mem_singleton.1 ho]; exact m1) (by simp) ⟨#[99, 111, 115]⟩ 25 op_cos 0 [Pl.fixO c] D2)
  have R3 := Lib.hid (fun Z b (hA : RowV Z (.slice (some ⟨b, 0, none⟩) 2 2) [Pl.fixO x, Pl.intO y]) => run18 Z b [Pl.fixO x, Pl.intO y] 2 rfl hA (Pl.may_two m0 m1) (by simp) ⟨#[97, 116, 97, 110]⟩ 26 op_atan 0 [Pl.fixO d] D3)
  have R4 := Lib.hid (fun Z b (hA : RowV Z (.slice (some ⟨b, 0, none⟩) 1 1) [Pl.fixO x]) => run18 Z b [Pl.fixO x] 1 rfl hA (fun o ho => by rw [List.mem_singleton.1 ho]; exact m0) (by simp) ⟨#[115, 113, 114, 116]⟩ 23 op_sqrt 0 [Pl.fixO r] D4)
  clear D1 D2 D3 D4 m0 m1
  have K := Lib.hid known18
  have FX := Lib.hid (fun Z => fix18 x Z)
  have NY := Lib.hid (fun Z => num18 y Z)
  have FS := Lib.hid (fun Z => fix18 s Z)
  have FC := Lib.hid (fun Z => fix18 c Z)
  have FD := Lib.hid (fun Z => fix18 d Z)
  have FR := Lib.hid (fun Z => fix18 r Z)
  unfold Pl.intO at NY
  unfold Pl.fixO at FX FS FC FD FR
  go_enter Try.func7, Try.ntmps7
  go_wp2_with fail
  refine (K.out _).mono ?_
  rintro en w0 ⟨rfl, f0⟩
  have F0 := Lib.hid f0
  clear f0 K
  go_wp2_with fail
  refine (FX.out _).mono ?_
  rintro en u00 ⟨rfl, hu00⟩
  have RV := Lib.hid (row_new u00 [Pl.fixO x] #[.int .i64 4, .bool false, .int .i64 x, .int .i64 0, .int .i64 0, .string ⟨#[]⟩] rfl 1 rfl)
  have SA := Lib.hid ((Fr.of_grown _ hu00).trans (Fr.alloc (fun _ => False) u00 (.cells #[.int .i64 4, .bool false, .int .i64 x, .int .i64 0, .int .i64 0, .string ⟨#[]⟩] 24)))
  clear hu00
  go_wp2_with fail
  refine (R1.out _ _ RV.out).mono ?_
  rintro en w1 ⟨v1, rfl, ro, oo, fo⟩
  have ST1 := Lib.hid (SA.out.trans fo)
  obtain ⟨g1, cp1, rfl, hcp1, hg1, C1⟩ := row_get1 ro oo
  have C1' := Lib.hid C1
  clear C1
  clear ro oo fo RV SA R1
  go_wp2_with fail
  refine (NY.out _).mono ?_
  rintro en u10 ⟨rfl, hu10⟩
  have RV := Lib.hid (row_new u10 [Pl.intO y] #[.int .i64 3, .bool false, .int .i64 y, .int .i64 0, .int .i64 0, .string ⟨#[]⟩] rfl 1 rfl)
  have SA := Lib.hid ((Fr.of_grown _ hu10).trans (Fr.alloc (fun _ => False) u10 (.cells #[.int .i64 3, .bool false, .int .i64 y, .int .i64 0, .int .i64 0, .string ⟨#[]⟩] 24)))
  clear hu10
  go_wp2_with fail
  refine (R2.out _ _ RV.out).mono ?_
  rintro en w2 ⟨v2, rfl, ro, oo, fo⟩
  have ST2 := Lib.hid (SA.out.trans fo)
  obtain ⟨g2, cp2, rfl, hcp2, hg2, C2⟩ := row_get1 ro oo
  have C2' := Lib.hid C2
  clear C2
  clear ro oo fo RV SA R2
  go_wp2_with fail
  refine (FX.out _).mono ?_
  rintro en u20 ⟨rfl, hu20⟩
  go_wp2_with fail
  refine (NY.out _).mono ?_
  rintro en u21 ⟨rfl, hu21⟩
  have RV := Lib.hid (row_new u21 [Pl.fixO x, Pl.intO y] #[.int .i64 4, .bool false, .int .i64 x, .int .i64 0, .int .i64 0, .string ⟨#[]⟩, .int .i64 3, .bool false, .int .i64 y, .int .i64 0, .int .i64 0, .string ⟨#[]⟩] rfl 2 rfl)
  have SA := Lib.hid (((Fr.of_grown _ hu20).trans (Fr.of_grown _ hu21)).trans (Fr.alloc (fun _ => False) u21 (.cells #[.int .i64 4, .bool false, .int .i64 x, .int .i64 0, .int .i64 0, .string ⟨#[]⟩, .int .i64 3, .bool false, .int .i64 y, .int .i64 0, .int .i64 0, .string ⟨#[]⟩] 24)))
  clear hu20 hu21
  go_wp2_with fail
  refine (R3.out _ _ RV.out).mono ?_
  rintro en w3 ⟨v3, rfl, ro, oo, fo⟩
  have ST3 := Lib.hid (SA.out.trans fo)
  obtain ⟨g3, cp3, rfl, hcp3, hg3, C3⟩ := row_get1 ro oo
  have C3' := Lib.hid C3
  clear C3
  clear ro oo fo RV SA R3
  go_wp2_with fail
  refine (FX.out _).mono ?_
  rintro en u30 ⟨rfl, hu30⟩
  have RV := Lib.hid (row_new u30 [Pl.fixO x] #[.int .i64 4, .bool false, .int .i64 x, .int .i64 0, .int .i64 0, .string ⟨#[]⟩] rfl 1 rfl)
  have SA := Lib.hid ((Fr.of_grown _ hu30).trans (Fr.alloc (fun _ => False) u30 (.cells #[.int .i64 4, .bool false, .int .i64 x, .int .i64 0, .int .i64 0, .string ⟨#[]⟩] 24)))
  clear hu30
  go_wp2_with fail
  refine (R4.out _ _ RV.out).mono ?_
  rintro en w4 ⟨v4, rfl, ro, oo, fo⟩
  have ST4 := Lib.hid (SA.out.trans fo)
  obtain ⟨g4, cp4, rfl, hcp4, hg4, C4⟩ := row_get1 ro oo
  have C4' := Lib.hid C4
  clear C4
  clear ro oo fo RV SA R4
  obtain ⟨C, hC⟩ : ∃ C : World → Prop, C = Cells w [((⟨g1, 0, none⟩ : Addr), (.int .i64 4 : Value)), ((⟨g1, 1, none⟩ : Addr), (.bool false : Value)), ((⟨g1, 2, none⟩ : Addr), (.int .i64 s : Value)), ((⟨g1, 3, none⟩ : Addr), (.int .i64 0 : Value)), ((⟨g1, 4, none⟩ : Addr), (.int .i64 0 : Value)), ((⟨g1, 5, none⟩ : Addr), (.string ⟨#[]⟩ : Value)), ((⟨g2, 0, none⟩ : Addr), (.int .i64 4 : Value)), ((⟨g2, 1, none⟩ : Addr), (.bool false : Value)), ((⟨g2, 2, none⟩ : Addr), (.int .i64 c : Value)), ((⟨g2, 3, none⟩ : Addr), (.int .i64 0 : Value)), ((⟨g2, 4, none⟩ : Addr), (.int .i64 0 : Value)), ((⟨g2, 5, none⟩ : Addr), (.string ⟨#[]⟩ : Value)), ((⟨g3, 0, none⟩ : Addr), (.int .i64 4 : Value)), ((⟨g3, 1, none⟩ : Addr), (.bool false : Value)), ((⟨g3, 2, none⟩ : Addr), (.int .i64 d : Value)), ((⟨g3, 3, none⟩ : Addr), (.int .i64 0 : Value)), ((⟨g3, 4, none⟩ : Addr), (.int .i64 0 : Value)), ((⟨g3, 5, none⟩ : Addr), (.string ⟨#[]⟩ : Value)), ((⟨g4, 0, none⟩ : Addr), (.int .i64 4 : Value)), ((⟨g4, 1, none⟩ : Addr), (.bool false : Value)), ((⟨g4, 2, none⟩ : Addr), (.int .i64 r : Value)), ((⟨g4, 3, none⟩ : Addr), (.int .i64 0 : Value)), ((⟨g4, 4, none⟩ : Addr), (.int .i64 0 : Value)), ((⟨g4, 5, none⟩ : Addr), (.string ⟨#[]⟩ : Value))] := ⟨_, rfl⟩
  have HC0 : Hid (C w4) := Lib.hid (by rw [hC]; exact ⟨(cell_fr0 (cell_fr0 (cell_fr0 C1'.out.1 ST2.out) ST3.out) ST4.out), (cell_fr0 (cell_fr0 (cell_fr0 C1'.out.2.1 ST2.out) ST3.out) ST4.out), (cell_fr0 (cell_fr0 (cell_fr0 C1'.out.2.2.1 ST2.out) ST3.out) ST4.out), (cell_fr0 (cell_fr0 (cell_fr0 C1'.out.2.2.2.1 ST2.out) ST3.out) ST4.out), (cell_fr0 (cell_fr0 (cell_fr0 C1'.out.2.2.2.2.1 ST2.out) ST3.out) ST4.out), (cell_fr0 (cell_fr0 (cell_fr0 C1'.out.2.2.2.2.2 ST2.out) ST3.out) ST4.out), (cell_fr0 (cell_fr0 C2'.out.1 ST3.out) ST4.out), (cell_fr0 (cell_fr0 C2'.out.2.1 ST3.out) ST4.out), (cell_fr0 (cell_fr0 C2'.out.2.2.1 ST3.out) ST4.out), (cell_fr0 (cell_fr0 C2'.out.2.2.2.1 ST3.out) ST4.out), (cell_fr0 (cell_fr0 C2'.out.2.2.2.2.1 ST3.out) ST4.out), (cell_fr0 (cell_fr0 C2'.out.2.2.2.2.2 ST3.out) ST4.out), (cell_fr0 C3'.out.1 ST4.out), (cell_fr0 C3'.out.2.1 ST4.out), (cell_fr0 C3'.out.2.2.1 ST4.out), (cell_fr0 C3'.out.2.2.2.1 ST4.out), (cell_fr0 C3'.out.2.2.2.2.1 ST4.out), (cell_fr0 C3'.out.2.2.2.2.2 ST4.out), C4'.out.1, C4'.out.2.1, C4'.out.2.2.1, C4'.out.2.2.2.1, C4'.out.2.2.2.2.1, C4'.out.2.2.2.2.2, ((((F0.out.trans ST1.out).trans ST2.out).trans ST3.out).trans ST4.out)⟩)
  have T0 : ∀ Z, C Z → Z.cell? ⟨g1, 0, none⟩ = some (.int .i64 4) := fun Z h => by rw [hC] at h; exact h.1
  have T1 : ∀ Z, C Z → Z.cell? ⟨g1, 1, none⟩ = some (.bool false) := fun Z h => by rw [hC] at h; exact h.2.1
  have T2 : ∀ Z, C Z → Z.cell? ⟨g1, 2, none⟩ = some (.int .i64 s) := fun Z h => by rw [hC] at h; exact h.2.2.1
  have T3 : ∀ Z, C Z → Z.cell? ⟨g1, 3, none⟩ = some (.int .i64 0) := fun Z h => by rw [hC] at h; exact h.2.2.2.1
  have T4 : ∀ Z, C Z → Z.cell? ⟨g1, 4, none⟩ = some (.int .i64 0) := fun Z h => by rw [hC] at h; exact h.2.2.2.2.1
  have T5 : ∀ Z, C Z → Z.cell? ⟨g1, 5, none⟩ = some (.string ⟨#[]⟩) := fun Z h => by rw [hC] at h; exact h.2.2.2.2.2.1
  have T6 : ∀ Z, C Z → Z.cell? ⟨g2, 0, none⟩ = some (.int .i64 4) := fun Z h => by rw [hC] at h; exact h.2.2.2.2.2.2.1
  have T7 : ∀ Z, C Z → Z.cell? ⟨g2, 1, none⟩ = some (.bool false) := fun Z h => by rw [hC] at h; exact h.2.2.2.2.2.2.2.1
  have T8 : ∀ Z, C Z → Z.cell? ⟨g2, 2, none⟩ = some (.int .i64 c) := fun Z h => by rw [hC] at h; exact h.2.2.2.2.2.2.2.2.1
  have T9 : ∀ Z, C Z → Z.cell? ⟨g2, 3, none⟩ = some (.int .i64 0) := fun Z h => by rw [hC] at h; exact h.2.2.2.2.2.2.2.2.2.1
  have T10 : ∀ Z, C Z → Z.cell? ⟨g2, 4, none⟩ = some (.int .i64 0) := fun Z h => by rw [hC] at h; exact h.2.2.2.2.2.2.2.2.2.2.1
  have T11 : ∀ Z, C Z → Z.cell? ⟨g2, 5, none⟩ = some (.string ⟨#[]⟩) := fun Z h => by rw [hC] at h; exact h.2.2.2.2.2.2.2.2.2.2.2.1
  have T12 : ∀ Z, C Z → Z.cell? ⟨g3, 0, none⟩ = some (.int .i64 4) := fun Z h => by rw [hC] at h; exact h.2.2.2.2.2.2.2.2.2.2.2.2.1
  have T13 : ∀ Z, C Z → Z.cell? ⟨g3, 1, none⟩ = some (.bool false) := fun Z h => by rw [hC] at h; exact h.2.2.2.2.2.2.2.2.2.2.2.2.2.1
  have T14 : ∀ Z, C Z → Z.cell? ⟨g3, 2, none⟩ = some (.int .i64 d) := fun Z h => by rw [hC] at h; exact h.2.2.2.2.2.2.2.2.2.2.2.2.2.2.1
  have T15 : ∀ Z, C Z → Z.cell? ⟨g3, 3, none⟩ = some (.int .i64 0) := fun Z h => by rw [hC] at h; exact h.2.2.2.2.2.2.2.2.2.2.2.2.2.2.2.1
  have T16 : ∀ Z, C Z → Z.cell? ⟨g3, 4, none⟩ = some (.int .i64 0) := fun Z h => by rw [hC] at h; exact h.2.2.2.2.2.2.2.2.2.2.2.2.2.2.2.2.1
  have T17 : ∀ Z, C Z → Z.cell? ⟨g3, 5, none⟩ = some (.string ⟨#[]⟩) := fun Z h => by rw [hC] at h; exact h.2.2.2.2.2.2.2.2.2.2.2.2.2.2.2.2.2.1
  have T18 : ∀ Z, C Z → Z.cell? ⟨g4, 0, none⟩ = some (.int .i64 4) := fun Z h => by rw [hC] at h; exact h.2.2.2.2.2.2.2.2.2.2.2.2.2.2.2.2.2.2.1
  have T19 : ∀ Z, C Z → Z.cell? ⟨g4, 1, none⟩ = some (.bool false) := fun Z h => by rw [hC] at h; exact h.2.2.2.2.2.2.2.2.2.2.2.2.2.2.2.2.2.2.2.1
  have T20 : ∀ Z, C Z → Z.cell? ⟨g4, 2, none⟩ = some (.int .i64 r) := fun Z h => by rw [hC] at h; exact h.2.2.2.2.2.2.2.2.2.2.2.2.2.2.2.2.2.2.2.2.1
  have T21 : ∀ Z, C Z → Z.cell? ⟨g4, 3, none⟩ = some (.int .i64 0) := fun Z h => by rw [hC] at h; exact h.2.2.2.2.2.2.2.2.2.2.2.2.2.2.2.2.2.2.2.2.2.1
  have T22 : ∀ Z, C Z → Z.cell? ⟨g4, 4, none⟩ = some (.int .i64 0) := fun Z h => by rw [hC] at h; exact h.2.2.2.2.2.2.2.2.2.2.2.2.2.2.2.2.2.2.2.2.2.2.1
  have T23 : ∀ Z, C Z → Z.cell? ⟨g4, 5, none⟩ = some (.string ⟨#[]⟩) := fun Z h => by rw [hC] at h; exact h.2.2.2.2.2.2.2.2.2.2.2.2.2.2.2.2.2.2.2.2.2.2.2.1
  have CF : Hid (∀ Z Z', C Z → Fr (fun _ => False) Z Z' → C Z') := Lib.hid (fun Z Z' h k => by rw [hC] at h ⊢; exact h.fr k)
  have TF : Hid (∀ Z, C Z → Fr (fun _ => False) w Z) := Lib.hid (fun Z h => by rw [hC] at h; exact h.frame)
  clear hC
  clear C1' C2' C3' C4' ST1 ST2 ST3 ST4 F0 FX NY
  have LS := Lib.hid (fun Z (h : C Z) => (SN.out Z).mono fun en w' hh => (⟨hh.1, CF.out _ _ h (Fr.of_grown _ hh.2)⟩ : _ ∧ C w'))
  have LC := Lib.hid (fun Z (h : C Z) => (CN.out Z).mono fun en w' hh => (⟨hh.1, CF.out _ _ h (Fr.of_grown _ hh.2)⟩ : _ ∧ C w'))
  have L1 := Lib.hid (fun Z (h : C Z) => (FS.out Z).mono fun en w' hh => (⟨hh.1, CF.out _ _ h (Fr.of_grown _ hh.2)⟩ : _ ∧ C w'))
  have L2 := Lib.hid (fun Z (h : C Z) => (FC.out Z).mono fun en w' hh => (⟨hh.1, CF.out _ _ h (Fr.of_grown _ hh.2)⟩ : _ ∧ C w'))
  have LD := Lib.hid (fun Z (h : C Z) => (DN.out Z).mono fun en w' hh => (⟨hh.1, CF.out _ _ h (Fr.of_grown _ hh.2)⟩ : _ ∧ C w'))
  have L3 := Lib.hid (fun Z (h : C Z) => (FD.out Z).mono fun en w' hh => (⟨hh.1, CF.out _ _ h (Fr.of_grown _ hh.2)⟩ : _ ∧ C w'))
  have L4 := Lib.hid (fun Z (h : C Z) => (FR.out Z).mono fun en w' hh => (⟨hh.1, CF.out _ _ h (Fr.of_grown _ hh.2)⟩ : _ ∧ C w'))
  have wr : IntKind.i64.wrap (y * 65536) = y * 65536 := by unfold IntKind.wrap IntKind.bits IntKind.signed; simp; omega
  clear SN CN FS FC DN FD FR
  go_wp2_with fail
  refine wp_region_class (C := C) (by kernel_rfl) (by kernel_rfl) (CF.out _ _ HC0.out ((Fr.refl _ _).drew)) ?_
  repeat
    first
      | (refine quiet_no (by rfl) ?_
         try simp only [Act.put, List.setIfInBounds_toArray, List.set_cons_zero, List.set_cons_succ])
      | (refine quiet_yes ?_ (by rfl) (fun Z hZ => ?_) ?_
         rotate_left
         · unfold qAt Oper.quietAt
           first
             | (go_simp
                (all_goals first | with_reducible rfl | (with_reducible exact LS.out Z hZ) | (with_reducible exact LC.out Z hZ) | (with_reducible exact L1.out Z hZ) | (with_reducible exact L2.out Z hZ))
                done)
             | (have t0 := T0 Z hZ; have t1 := T1 Z hZ; have t2 := T2 Z hZ; have t3 := T3 Z hZ; have t4 := T4 Z hZ; have t5 := T5 Z hZ; have t6 := T6 Z hZ; have t7 := T7 Z hZ; have t8 := T8 Z hZ; have t9 := T9 Z hZ; have t10 := T10 Z hZ; have t11 := T11 Z hZ; have t12 := T12 Z hZ; have t13 := T13 Z hZ; have t14 := T14 Z hZ; have t15 := T15 Z hZ; have t16 := T16 Z hZ; have t17 := T17 Z hZ; have t18 := T18 Z hZ; have t19 := T19 Z hZ; have t20 := T20 Z hZ; have t21 := T21 Z hZ; have t22 := T22 Z hZ; have t23 := T23 Z hZ
                go_simp
                (all_goals with_reducible rfl)
                done)
         try simp only [Act.put, List.setIfInBounds_toArray, List.set_cons_zero, List.set_cons_succ])
  refine quiet_nil ?_
  intro Z1 hZ1
  go_wp2_with fail
  refine (LD.out _ hZ1).mono ?_
  rintro en Z2 ⟨rfl, hZ2⟩
  clear hZ1 LS LC L1 L2
  go_wp2_with fail
  refine (QN.out _).mono ?_
  rintro en Z3 ⟨rfl, rfl⟩
  go_wp2_with fail
  refine wp_region_class (C := C) (by kernel_rfl) (by kernel_rfl) (CF.out _ _ hZ2 ((Fr.refl _ _).drew)) ?_
  repeat
    first
      | (refine quiet_no (by rfl) ?_
         try simp only [Act.put, List.setIfInBounds_toArray, List.set_cons_zero, List.set_cons_succ])
      | (refine quiet_yes ?_ (by rfl) (fun Z hZ => ?_) ?_
         rotate_left
         · unfold qAt Oper.quietAt
           first
             | (go_simp
                (all_goals first | with_reducible rfl | (with_reducible exact L3.out Z hZ))
                done)
             | (have t0 := T0 Z hZ; have t1 := T1 Z hZ; have t2 := T2 Z hZ; have t3 := T3 Z hZ; have t4 := T4 Z hZ; have t5 := T5 Z hZ; have t6 := T6 Z hZ; have t7 := T7 Z hZ; have t8 := T8 Z hZ; have t9 := T9 Z hZ; have t10 := T10 Z hZ; have t11 := T11 Z hZ; have t12 := T12 Z hZ; have t13 := T13 Z hZ; have t14 := T14 Z hZ; have t15 := T15 Z hZ; have t16 := T16 Z hZ; have t17 := T17 Z hZ; have t18 := T18 Z hZ; have t19 := T19 Z hZ; have t20 := T20 Z hZ; have t21 := T21 Z hZ; have t22 := T22 Z hZ; have t23 := T23 Z hZ
                go_simp
                (all_goals with_reducible rfl)
                done)
         try simp only [Act.put, List.setIfInBounds_toArray, List.set_cons_zero, List.set_cons_succ])
  refine quiet_nil ?_
  intro Z4 hZ4
  clear hZ2 LD QN
  go_wp2_with fail
  refine wp_region_class (C := C) (by kernel_rfl) (by kernel_rfl) (CF.out _ _ hZ4 ((Fr.refl _ _).drew)) ?_
  repeat
    first
      | (refine quiet_no (by rfl) ?_
         try simp only [Act.put, List.setIfInBounds_toArray, List.set_cons_zero, List.set_cons_succ])
      | (refine quiet_yes ?_ (by rfl) (fun Z hZ => ?_) ?_
         rotate_left
         · unfold qAt Oper.quietAt
           first
             | (go_simp
                (all_goals first | with_reducible rfl | (with_reducible exact L4.out Z hZ))
                done)
             | (have t0 := T0 Z hZ; have t1 := T1 Z hZ; have t2 := T2 Z hZ; have t3 := T3 Z hZ; have t4 := T4 Z hZ; have t5 := T5 Z hZ; have t6 := T6 Z hZ; have t7 := T7 Z hZ; have t8 := T8 Z hZ; have t9 := T9 Z hZ; have t10 := T10 Z hZ; have t11 := T11 Z hZ; have t12 := T12 Z hZ; have t13 := T13 Z hZ; have t14 := T14 Z hZ; have t15 := T15 Z hZ; have t16 := T16 Z hZ; have t17 := T17 Z hZ; have t18 := T18 Z hZ; have t19 := T19 Z hZ; have t20 := T20 Z hZ; have t21 := T21 Z hZ; have t22 := T22 Z hZ; have t23 := T23 Z hZ
                go_simp
                (all_goals with_reducible rfl)
                done)
         try simp only [Act.put, List.setIfInBounds_toArray, List.set_cons_zero, List.set_cons_succ])
  refine quiet_nil ?_
  intro Z5 hZ5
  go_wp2_with fail
  go_ret
  exact ⟨rfl, Kept.of_fr (TF.out _ hZ5)⟩
set_option maxHeartbeats 8000000 in
set_option maxRecDepth 100000 in
theorem walk_turns_C (a b : Int) (ha : -2147483648 ≤ a ∧ a ≤ 2147483647) (hb : -32768 ≤ b ∧ b ≤ 32767) (x y : Int) (hx : a.tmod 1073741823 = x) (hy : b.tmod 16000 = y) (hpos : x < 0) (w : World) :
    Calls Try.prog 7 #[.int .i32 a, .int .i16 b] w fun en w' => en = .returned (.bool true) ∧ Kept w w' := by
  have bx := Pl.tmod_in a 1073741823 (by omega)
  have by' := Pl.tmod_in b 16000 (by omega)
  rw [hx] at bx
  rw [hy] at by'
  have SN : Hid (∀ Z, Calls Try.prog 14 #[.int .i64 x] Z fun e w' => e = .returned (.int .i64 (Pl.sin x)) ∧ Grown Z w') := Lib.hid (sin_any x)
  have CN : Hid (∀ Z, Calls Try.prog 15 #[.int .i64 (y * 65536)] Z fun e w' => e = .returned (.int .i64 (Pl.cos (y * 65536))) ∧ Grown Z w') := Lib.hid (cos_any (y * 65536))
  have D1 := turns_sin x
  have D2 := turns_cos y by'
  have D3 := turns_dir x y by' (by omega)
  have DN : Hid (∀ Z, Calls Try.prog 16 #[.int .i64 x, .int .i64 (y * 65536)] Z fun e w' => e = .returned (.tuple #[.int .i64 (Pl.dir x (y * 65536)), .bool true]) ∧ Grown Z w') := Lib.hid (fun Z => dir_ok x (y * 65536) (by omega) (by omega) (by omega) Z)
  generalize Pl.dir x (y * 65536) = d at D3 DN
  have D4 := turns_root_n x hpos
  have QN : Hid (∀ Z, Calls Try.prog 17 #[.int .i64 x] Z fun e w' => e = .returned (.tuple #[.int .i64 0, .bool false]) ∧ Z = w') := Lib.hid (fun Z => fsqrt_no x (by omega) Z)
  generalize Pl.sin x = s at D1 SN
  generalize Pl.cos (y * 65536) = c at D2 CN
  have m0 := Pl.may_fix (v := x) (by unfold Pl.inFix; omega)
  have m1 := Pl.may_intO (v := y) (by unfold Pl.inInt; omega)
  have R1 := Lib.hid (fun Z b (hA : RowV Z (.slice (some ⟨b, 0, none⟩) 1 1) [Pl.fixO x]) => run18 Z b [Pl.fixO x] 1 rfl hA (fun o ho => by rw [List.mem_singleton.1 ho]; exact m0) (by simp) ⟨#[115, 105, 110]⟩ 24 op_sin 0 [Pl.fixO s] D1)
  have R2 := Lib.hid (fun Z b (hA : RowV Z (.slice (some ⟨b, 0, none⟩) 1 1) [Pl.intO y]) => run18 Z b [Pl.intO y] 1 rfl hA (fun o ho => by rw [List.mem_singleton.1 ho]; exact m1) (by simp) ⟨#[99, 111, 115]⟩ 25 op_cos 0 [Pl.fixO c] D2)
  have R3 := Lib.hid (fun Z b (hA : RowV Z (.slice (some ⟨b, 0, none⟩) 2 2) [Pl.fixO x, Pl.intO y]) => run18 Z b [Pl.fixO x, Pl.intO y] 2 rfl hA (Pl.may_two m0 m1) (by simp) ⟨#[97, 116, 97, 110]⟩ 26 op_atan 0 [Pl.fixO d] D3)
  have R4 := Lib.hid (fun Z b (hA : RowV Z (.slice (some ⟨b, 0, none⟩) 1 1) [Pl.fixO x]) => run18 Z b [Pl.fixO x] 1 rfl hA (fun o ho => by rw [List.mem_singleton.1 ho]; exact m0) (by simp) ⟨#[115, 113, 114, 116]⟩ 23 op_sqrt 2 [Pl.fixO x] D4)
  clear D1 D2 D3 D4 m0 m1
  have K := Lib.hid known18
  have FX := Lib.hid (fun Z => fix18 x Z)
  have NY := Lib.hid (fun Z => num18 y Z)
  have FS := Lib.hid (fun Z => fix18 s Z)
  have FC := Lib.hid (fun Z => fix18 c Z)
  have FD := Lib.hid (fun Z => fix18 d Z)
  unfold Pl.intO at NY
  unfold Pl.fixO at FX FS FC FD
  go_enter Try.func7, Try.ntmps7
  go_wp2_with fail
  refine (K.out _).mono ?_
  rintro en w0 ⟨rfl, f0⟩
  have F0 := Lib.hid f0
  clear f0 K
  go_wp2_with fail
  refine (FX.out _).mono ?_
  rintro en u00 ⟨rfl, hu00⟩
  have RV := Lib.hid (row_new u00 [Pl.fixO x] #[.int .i64 4, .bool false, .int .i64 x, .int .i64 0, .int .i64 0, .string ⟨#[]⟩] rfl 1 rfl)
  have SA := Lib.hid ((Fr.of_grown _ hu00).trans (Fr.alloc (fun _ => False) u00 (.cells #[.int .i64 4, .bool false, .int .i64 x, .int .i64 0, .int .i64 0, .string ⟨#[]⟩] 24)))
  clear hu00
  go_wp2_with fail
  refine (R1.out _ _ RV.out).mono ?_
  rintro en w1 ⟨v1, rfl, ro, oo, fo⟩
  have ST1 := Lib.hid (SA.out.trans fo)
  obtain ⟨g1, cp1, rfl, hcp1, hg1, C1⟩ := row_get1 ro oo
  have C1' := Lib.hid C1
  clear C1
  clear ro oo fo RV SA R1
  go_wp2_with fail
  refine (NY.out _).mono ?_
  rintro en u10 ⟨rfl, hu10⟩
  have RV := Lib.hid (row_new u10 [Pl.intO y] #[.int .i64 3, .bool false, .int .i64 y, .int .i64 0, .int .i64 0, .string ⟨#[]⟩] rfl 1 rfl)
  have SA := Lib.hid ((Fr.of_grown _ hu10).trans (Fr.alloc (fun _ => False) u10 (.cells #[.int .i64 3, .bool false, .int .i64 y, .int .i64 0, .int .i64 0, .string ⟨#[]⟩] 24)))
  clear hu10
  go_wp2_with fail
  refine (R2.out _ _ RV.out).mono ?_
  rintro en w2 ⟨v2, rfl, ro, oo, fo⟩
  have ST2 := Lib.hid (SA.out.trans fo)
  obtain ⟨g2, cp2, rfl, hcp2, hg2, C2⟩ := row_get1 ro oo
  have C2' := Lib.hid C2
  clear C2
  clear ro oo fo RV SA R2
  go_wp2_with fail
  refine (FX.out _).mono ?_
  rintro en u20 ⟨rfl, hu20⟩
  go_wp2_with fail
  refine (NY.out _).mono ?_
  rintro en u21 ⟨rfl, hu21⟩
  have RV := Lib.hid (row_new u21 [Pl.fixO x, Pl.intO y] #[.int .i64 4, .bool false, .int .i64 x, .int .i64 0, .int .i64 0, .string ⟨#[]⟩, .int .i64 3, .bool false, .int .i64 y, .int .i64 0, .int .i64 0, .string ⟨#[]⟩] rfl 2 rfl)
  have SA := Lib.hid (((Fr.of_grown _ hu20).trans (Fr.of_grown _ hu21)).trans (Fr.alloc (fun _ => False) u21 (.cells #[.int .i64 4, .bool false, .int .i64 x, .int .i64 0, .int .i64 0, .string ⟨#[]⟩, .int .i64 3, .bool false, .int .i64 y, .int .i64 0, .int .i64 0, .string ⟨#[]⟩] 24)))
  clear hu20 hu21
  go_wp2_with fail
  refine (R3.out _ _ RV.out).mono ?_
  rintro en w3 ⟨v3, rfl, ro, oo, fo⟩
  have ST3 := Lib.hid (SA.out.trans fo)
  obtain ⟨g3, cp3, rfl, hcp3, hg3, C3⟩ := row_get1 ro oo
  have C3' := Lib.hid C3
  clear C3
  clear ro oo fo RV SA R3
  go_wp2_with fail
  refine (FX.out _).mono ?_
  rintro en u30 ⟨rfl, hu30⟩
  have RV := Lib.hid (row_new u30 [Pl.fixO x] #[.int .i64 4, .bool false, .int .i64 x, .int .i64 0, .int .i64 0, .string ⟨#[]⟩] rfl 1 rfl)
  have SA := Lib.hid ((Fr.of_grown _ hu30).trans (Fr.alloc (fun _ => False) u30 (.cells #[.int .i64 4, .bool false, .int .i64 x, .int .i64 0, .int .i64 0, .string ⟨#[]⟩] 24)))
  clear hu30
  go_wp2_with fail
  refine (R4.out _ _ RV.out).mono ?_
  rintro en w4 ⟨v4, rfl, ro, oo, fo⟩
  have ST4 := Lib.hid (SA.out.trans fo)
  clear ro oo fo RV SA R4
  obtain ⟨C, hC⟩ : ∃ C : World → Prop, C = Cells w [((⟨g1, 0, none⟩ : Addr), (.int .i64 4 : Value)), ((⟨g1, 1, none⟩ : Addr), (.bool false : Value)), ((⟨g1, 2, none⟩ : Addr), (.int .i64 s : Value)), ((⟨g1, 3, none⟩ : Addr), (.int .i64 0 : Value)), ((⟨g1, 4, none⟩ : Addr), (.int .i64 0 : Value)), ((⟨g1, 5, none⟩ : Addr), (.string ⟨#[]⟩ : Value)), ((⟨g2, 0, none⟩ : Addr), (.int .i64 4 : Value)), ((⟨g2, 1, none⟩ : Addr), (.bool false : Value)), ((⟨g2, 2, none⟩ : Addr), (.int .i64 c : Value)), ((⟨g2, 3, none⟩ : Addr), (.int .i64 0 : Value)), ((⟨g2, 4, none⟩ : Addr), (.int .i64 0 : Value)), ((⟨g2, 5, none⟩ : Addr), (.string ⟨#[]⟩ : Value)), ((⟨g3, 0, none⟩ : Addr), (.int .i64 4 : Value)), ((⟨g3, 1, none⟩ : Addr), (.bool false : Value)), ((⟨g3, 2, none⟩ : Addr), (.int .i64 d : Value)), ((⟨g3, 3, none⟩ : Addr), (.int .i64 0 : Value)), ((⟨g3, 4, none⟩ : Addr), (.int .i64 0 : Value)), ((⟨g3, 5, none⟩ : Addr), (.string ⟨#[]⟩ : Value))] := ⟨_, rfl⟩
  have HC0 : Hid (C w4) := Lib.hid (by rw [hC]; exact ⟨(cell_fr0 (cell_fr0 (cell_fr0 C1'.out.1 ST2.out) ST3.out) ST4.out), (cell_fr0 (cell_fr0 (cell_fr0 C1'.out.2.1 ST2.out) ST3.out) ST4.out), (cell_fr0 (cell_fr0 (cell_fr0 C1'.out.2.2.1 ST2.out) ST3.out) ST4.out), (cell_fr0 (cell_fr0 (cell_fr0 C1'.out.2.2.2.1 ST2.out) ST3.out) ST4.out), (cell_fr0 (cell_fr0 (cell_fr0 C1'.out.2.2.2.2.1 ST2.out) ST3.out) ST4.out), (cell_fr0 (cell_fr0 (cell_fr0 C1'.out.2.2.2.2.2 ST2.out) ST3.out) ST4.out), (cell_fr0 (cell_fr0 C2'.out.1 ST3.out) ST4.out), (cell_fr0 (cell_fr0 C2'.out.2.1 ST3.out) ST4.out), (cell_fr0 (cell_fr0 C2'.out.2.2.1 ST3.out) ST4.out), (cell_fr0 (cell_fr0 C2'.out.2.2.2.1 ST3.out) ST4.out), (cell_fr0 (cell_fr0 C2'.out.2.2.2.2.1 ST3.out) ST4.out), (cell_fr0 (cell_fr0 C2'.out.2.2.2.2.2 ST3.out) ST4.out), (cell_fr0 C3'.out.1 ST4.out), (cell_fr0 C3'.out.2.1 ST4.out), (cell_fr0 C3'.out.2.2.1 ST4.out), (cell_fr0 C3'.out.2.2.2.1 ST4.out), (cell_fr0 C3'.out.2.2.2.2.1 ST4.out), (cell_fr0 C3'.out.2.2.2.2.2 ST4.out), ((((F0.out.trans ST1.out).trans ST2.out).trans ST3.out).trans ST4.out)⟩)
  have T0 : ∀ Z, C Z → Z.cell? ⟨g1, 0, none⟩ = some (.int .i64 4) := fun Z h => by rw [hC] at h; exact h.1
  have T1 : ∀ Z, C Z → Z.cell? ⟨g1, 1, none⟩ = some (.bool false) := fun Z h => by rw [hC] at h; exact h.2.1
  have T2 : ∀ Z, C Z → Z.cell? ⟨g1, 2, none⟩ = some (.int .i64 s) := fun Z h => by rw [hC] at h; exact h.2.2.1
  have T3 : ∀ Z, C Z → Z.cell? ⟨g1, 3, none⟩ = some (.int .i64 0) := fun Z h => by rw [hC] at h; exact h.2.2.2.1
  have T4 : ∀ Z, C Z → Z.cell? ⟨g1, 4, none⟩ = some (.int .i64 0) := fun Z h => by rw [hC] at h; exact h.2.2.2.2.1
  have T5 : ∀ Z, C Z → Z.cell? ⟨g1, 5, none⟩ = some (.string ⟨#[]⟩) := fun Z h => by rw [hC] at h; exact h.2.2.2.2.2.1
  have T6 : ∀ Z, C Z → Z.cell? ⟨g2, 0, none⟩ = some (.int .i64 4) := fun Z h => by rw [hC] at h; exact h.2.2.2.2.2.2.1
  have T7 : ∀ Z, C Z → Z.cell? ⟨g2, 1, none⟩ = some (.bool false) := fun Z h => by rw [hC] at h; exact h.2.2.2.2.2.2.2.1
  have T8 : ∀ Z, C Z → Z.cell? ⟨g2, 2, none⟩ = some (.int .i64 c) := fun Z h => by rw [hC] at h; exact h.2.2.2.2.2.2.2.2.1
  have T9 : ∀ Z, C Z → Z.cell? ⟨g2, 3, none⟩ = some (.int .i64 0) := fun Z h => by rw [hC] at h; exact h.2.2.2.2.2.2.2.2.2.1
  have T10 : ∀ Z, C Z → Z.cell? ⟨g2, 4, none⟩ = some (.int .i64 0) := fun Z h => by rw [hC] at h; exact h.2.2.2.2.2.2.2.2.2.2.1
  have T11 : ∀ Z, C Z → Z.cell? ⟨g2, 5, none⟩ = some (.string ⟨#[]⟩) := fun Z h => by rw [hC] at h; exact h.2.2.2.2.2.2.2.2.2.2.2.1
  have T12 : ∀ Z, C Z → Z.cell? ⟨g3, 0, none⟩ = some (.int .i64 4) := fun Z h => by rw [hC] at h; exact h.2.2.2.2.2.2.2.2.2.2.2.2.1
  have T13 : ∀ Z, C Z → Z.cell? ⟨g3, 1, none⟩ = some (.bool false) := fun Z h => by rw [hC] at h; exact h.2.2.2.2.2.2.2.2.2.2.2.2.2.1
  have T14 : ∀ Z, C Z → Z.cell? ⟨g3, 2, none⟩ = some (.int .i64 d) := fun Z h => by rw [hC] at h; exact h.2.2.2.2.2.2.2.2.2.2.2.2.2.2.1
  have T15 : ∀ Z, C Z → Z.cell? ⟨g3, 3, none⟩ = some (.int .i64 0) := fun Z h => by rw [hC] at h; exact h.2.2.2.2.2.2.2.2.2.2.2.2.2.2.2.1
  have T16 : ∀ Z, C Z → Z.cell? ⟨g3, 4, none⟩ = some (.int .i64 0) := fun Z h => by rw [hC] at h; exact h.2.2.2.2.2.2.2.2.2.2.2.2.2.2.2.2.1
  have T17 : ∀ Z, C Z → Z.cell? ⟨g3, 5, none⟩ = some (.string ⟨#[]⟩) := fun Z h => by rw [hC] at h; exact h.2.2.2.2.2.2.2.2.2.2.2.2.2.2.2.2.2.1
  have CF : Hid (∀ Z Z', C Z → Fr (fun _ => False) Z Z' → C Z') := Lib.hid (fun Z Z' h k => by rw [hC] at h ⊢; exact h.fr k)
  have TF : Hid (∀ Z, C Z → Fr (fun _ => False) w Z) := Lib.hid (fun Z h => by rw [hC] at h; exact h.frame)
  clear hC
  clear C1' C2' C3' ST1 ST2 ST3 ST4 F0 FX NY
  have LS := Lib.hid (fun Z (h : C Z) => (SN.out Z).mono fun en w' hh => (⟨hh.1, CF.out _ _ h (Fr.of_grown _ hh.2)⟩ : _ ∧ C w'))
  have LC := Lib.hid (fun Z (h : C Z) => (CN.out Z).mono fun en w' hh => (⟨hh.1, CF.out _ _ h (Fr.of_grown _ hh.2)⟩ : _ ∧ C w'))
  have L1 := Lib.hid (fun Z (h : C Z) => (FS.out Z).mono fun en w' hh => (⟨hh.1, CF.out _ _ h (Fr.of_grown _ hh.2)⟩ : _ ∧ C w'))
  have L2 := Lib.hid (fun Z (h : C Z) => (FC.out Z).mono fun en w' hh => (⟨hh.1, CF.out _ _ h (Fr.of_grown _ hh.2)⟩ : _ ∧ C w'))
  have LD := Lib.hid (fun Z (h : C Z) => (DN.out Z).mono fun en w' hh => (⟨hh.1, CF.out _ _ h (Fr.of_grown _ hh.2)⟩ : _ ∧ C w'))
  have L3 := Lib.hid (fun Z (h : C Z) => (FD.out Z).mono fun en w' hh => (⟨hh.1, CF.out _ _ h (Fr.of_grown _ hh.2)⟩ : _ ∧ C w'))
  have wr : IntKind.i64.wrap (y * 65536) = y * 65536 := by unfold IntKind.wrap IntKind.bits IntKind.signed; simp; omega
  clear SN CN FS FC DN FD
  go_wp2_with fail
  refine wp_region_class (C := C) (by kernel_rfl) (by kernel_rfl) (CF.out _ _ HC0.out ((Fr.refl _ _).drew)) ?_
  repeat
    first
      | (refine quiet_no (by rfl) ?_
         try simp only [Act.put, List.setIfInBounds_toArray, List.set_cons_zero, List.set_cons_succ])
      | (refine quiet_yes ?_ (by rfl) (fun Z hZ => ?_) ?_
         rotate_left
         · unfold qAt Oper.quietAt
           first
             | (go_simp
                (all_goals first | with_reducible rfl | (with_reducible exact LS.out Z hZ) | (with_reducible exact LC.out Z hZ) | (with_reducible exact L1.out Z hZ) | (with_reducible exact L2.out Z hZ))
                done)
             | (have t0 := T0 Z hZ; have t1 := T1 Z hZ; have t2 := T2 Z hZ; have t3 := T3 Z hZ; have t4 := T4 Z hZ; have t5 := T5 Z hZ; have t6 := T6 Z hZ; have t7 := T7 Z hZ; have t8 := T8 Z hZ; have t9 := T9 Z hZ; have t10 := T10 Z hZ; have t11 := T11 Z hZ; have t12 := T12 Z hZ; have t13 := T13 Z hZ; have t14 := T14 Z hZ; have t15 := T15 Z hZ; have t16 := T16 Z hZ; have t17 := T17 Z hZ
                go_simp
                (all_goals with_reducible rfl)
                done)
         try simp only [Act.put, List.setIfInBounds_toArray, List.set_cons_zero, List.set_cons_succ])
  refine quiet_nil ?_
  intro Z1 hZ1
  go_wp2_with fail
  refine (LD.out _ hZ1).mono ?_
  rintro en Z2 ⟨rfl, hZ2⟩
  clear hZ1 LS LC L1 L2
  go_wp2_with fail
  refine (QN.out _).mono ?_
  rintro en Z3 ⟨rfl, rfl⟩
  go_wp2_with fail
  refine wp_region_class (C := C) (by kernel_rfl) (by kernel_rfl) (CF.out _ _ hZ2 ((Fr.refl _ _).drew)) ?_
  repeat
    first
      | (refine quiet_no (by rfl) ?_
         try simp only [Act.put, List.setIfInBounds_toArray, List.set_cons_zero, List.set_cons_succ])
      | (refine quiet_yes ?_ (by rfl) (fun Z hZ => ?_) ?_
         rotate_left
         · unfold qAt Oper.quietAt
           first
             | (go_simp
                (all_goals first | with_reducible rfl | (with_reducible exact L3.out Z hZ))
                done)
             | (have t0 := T0 Z hZ; have t1 := T1 Z hZ; have t2 := T2 Z hZ; have t3 := T3 Z hZ; have t4 := T4 Z hZ; have t5 := T5 Z hZ; have t6 := T6 Z hZ; have t7 := T7 Z hZ; have t8 := T8 Z hZ; have t9 := T9 Z hZ; have t10 := T10 Z hZ; have t11 := T11 Z hZ; have t12 := T12 Z hZ; have t13 := T13 Z hZ; have t14 := T14 Z hZ; have t15 := T15 Z hZ; have t16 := T16 Z hZ; have t17 := T17 Z hZ
                go_simp
                (all_goals with_reducible rfl)
                done)
         try simp only [Act.put, List.setIfInBounds_toArray, List.set_cons_zero, List.set_cons_succ])
  refine quiet_nil ?_
  intro Z4 hZ4
  clear hZ2 LD QN
  go_wp2_with fail
  refine wp_region_class (C := C) (by kernel_rfl) (by kernel_rfl) (CF.out _ _ hZ4 ((Fr.refl _ _).drew)) ?_
  repeat
    first
      | (refine quiet_no (by rfl) ?_
         try simp only [Act.put, List.setIfInBounds_toArray, List.set_cons_zero, List.set_cons_succ])
      | (refine quiet_yes ?_ (by rfl) (fun Z hZ => ?_) ?_
         rotate_left
         · unfold qAt Oper.quietAt
           first
             | (go_simp
                (all_goals first | with_reducible rfl )
                done)
             | (have t0 := T0 Z hZ; have t1 := T1 Z hZ; have t2 := T2 Z hZ; have t3 := T3 Z hZ; have t4 := T4 Z hZ; have t5 := T5 Z hZ; have t6 := T6 Z hZ; have t7 := T7 Z hZ; have t8 := T8 Z hZ; have t9 := T9 Z hZ; have t10 := T10 Z hZ; have t11 := T11 Z hZ; have t12 := T12 Z hZ; have t13 := T13 Z hZ; have t14 := T14 Z hZ; have t15 := T15 Z hZ; have t16 := T16 Z hZ; have t17 := T17 Z hZ
                go_simp
                (all_goals with_reducible rfl)
                done)
         try simp only [Act.put, List.setIfInBounds_toArray, List.set_cons_zero, List.set_cons_succ])
  refine quiet_nil ?_
  intro Z5 hZ5
  go_wp2_with fail
  go_ret
  exact ⟨rfl, Kept.of_fr (TF.out _ hZ5)⟩
theorem law_ArithTurns (a b : Int) (w0 : (Lit.int .i32 a).wf = true) (w1 : (Lit.int .i16 b).wf = true) (w : World) :
    Calls Try.prog 7 #[.int .i32 a, .int .i16 b] w fun en w' => en = .returned (.bool true) ∧ Kept w w' := by
  have ha : -2147483648 ≤ a ∧ a ≤ 2147483647 := by simp [Lit.wf, IntKind.min, IntKind.max, IntKind.signed, IntKind.bits] at w0; omega
  have hb : -32768 ≤ b ∧ b ≤ 32767 := by simp [Lit.wf, IntKind.min, IntKind.max, IntKind.signed, IntKind.bits] at w1; omega
  by_cases h : a.tmod 1073741823 = 0 ∧ b.tmod 16000 = 0
  · exact walk_turns_A a b ha hb _ _ rfl rfl (Lib.hid h) w
  · by_cases h2 : 0 ≤ a.tmod 1073741823
    · exact walk_turns_B a b ha hb _ _ rfl rfl h h2 w
    · exact walk_turns_C a b ha hb _ _ rfl rfl (by omega) w
end Go.Proofs.Ytfmmomdmemcbbaa
