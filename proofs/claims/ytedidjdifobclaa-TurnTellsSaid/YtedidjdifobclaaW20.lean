/- The walks of tympanref4: table, turn, first, Sin, Cos, quarter, side, between. -/
import Derived.Test.YtedidjdifobclaaW19
import Derived.Test.YtedidjdifobclaaW11
namespace Go.Proofs.Ytedidjdifobclaa
set_option linter.unusedVariables false
open Go.RowKit

set_option maxRecDepth 100000 in
theorem table4_any (k : Int) (h0 : 0 ≤ k) (h1 : k < 91) (w : World) :
    Calls Try.prog 107 #[.int .i64 k] w fun e w' => e = .returned (.int .i64 (Pl.tb k.toNat)) ∧ Grown w w' := by
  go_enter Try.func107, Try.ntmps107
  go_upto_region 1 with (fail)
  go_outline
  apply wp_region_lit
  refine wpList_build_to rfl 69 _ rfl tabA (by kernel_rfl) ?_
  refine wpList_alloc_to rfl 69 rfl tabZ (by kernel_rfl) ?_
  refine wpList_store_new rfl 69 _ _ rfl tabZ tabA rfl rfl (by kernel_rfl) (by kernel_rfl) (by kernel_rfl) ?_
  apply wpList_nil
  have hc := tab_cell w k.toNat (by omega)
  have hg := tab_get k.toNat (by omega)
  go_wp2_with fail
  go_ret
  exact ⟨rfl, (Grown.refl w).alloc _ _⟩

theorem rmuldiv_ok (a b d : Int) (ha : Pl.i64 a) (hb : Pl.i64 b) (hd : Pl.i64 d) (h0 : d ≠ 0) (h : Pl.i64 (Pl.share a b d)) (w : World) :
    Calls Try.prog 54 #[.int .i64 a, .int .i64 b, .int .i64 d] w fun e w' => e = .returned (.tuple #[.int .i64 (Pl.share a b d), .bool true]) ∧ Grown w w' := by
  obtain ⟨v, ok, _, R, hv⟩ := muldiv2_ex a b d ha hb hd
  rcases hv with ⟨_, _, rfl, rfl⟩ | ⟨hn, _, _⟩
  · exact R w
  · exact absurd hn (by simp [h0, h])

theorem turn4_any (v : Int) (w : World) :
    Calls Try.prog 104 #[.int .i64 v] w fun e w' => e = .returned (.int .i64 (v % 23592960)) ∧ w = w' := by
  have hb := Pl.tmod_bd v 23592960 (by omega)
  have he := Lib.hid (Pl.place_eq v 23592960 (by omega))
  by_cases h : v.tmod 23592960 < 0
  · go_enter Try.func104, Try.ntmps104
    go_wp2
    go_ret
    exact ⟨ret_int (by rw [← he.out, if_pos (by assumption)]), rfl⟩
  · go_enter Try.func104, Try.ntmps104
    go_wp2
    go_ret
    exact ⟨ret_int (by rw [← he.out, if_neg (by omega)]), rfl⟩

theorem first4_any (d : Int) (h : 0 ≤ d ∧ d ≤ 5898240) (w : World) :
    Calls Try.prog 105 #[.int .i64 d] w fun e w' => e = .returned (.int .i64 (Pl.sine d)) ∧ Grown w w' := by
  by_cases hr : d % 65536 = 0
  · have h0 : (d % 65536 == 0) = true := beq_iff_eq.2 hr
    have hs := Lib.hid (show Pl.sine d = Pl.tb (d / 65536).toNat by unfold Pl.sine; rw [if_pos hr])
    have T := Lib.hid (table4_any (d / 65536) (by omega) (by omega))
    clear hr
    go_enter Try.func105, Try.ntmps105
    go_wp2_with fail
    refine (T.out _).mono ?_
    rintro e w1 ⟨rfl, g1⟩
    go_wp2_with fail
    go_ret
    exact ⟨ret_int hs.out.symm, g1⟩
  · have h0 : (d % 65536 == 0) = false := beq_eq_false_iff_ne.2 hr
    have hs := show Pl.sine d = Pl.tb (d / 65536).toNat + Pl.share (Pl.tb ((d / 65536).toNat + 1) - Pl.tb (d / 65536).toNat) (d % 65536) 65536 by unfold Pl.sine; rw [if_neg hr]
    have hst := Pl.tb_step (d / 65536).toNat (by omega)
    have hbk := Pl.tb_bd (d / 65536).toNat (by omega)
    have hbk1 := Pl.tb_bd ((d / 65536).toNat + 1) (by omega)
    have hpb := Pl.part_bd (Pl.tb ((d / 65536).toNat + 1) - Pl.tb (d / 65536).toNat) (d % 65536) hst.1 (by omega)
    have T := fun w => table4_any (d / 65536) (by omega) (by omega) w
    have T1 := fun w => table4_any (d / 65536 + 1) (by omega) (by omega) w
    have M := fun w => rmuldiv_ok (Pl.tb ((d / 65536).toNat + 1) - Pl.tb (d / 65536).toNat) (d % 65536) 65536 (by unfold Pl.i64; omega) (by unfold Pl.i64; omega) (by decide) (by decide) (by unfold Pl.i64; omega) w
    have e1 : (d / 65536 + 1).toNat = (d / 65536).toNat + 1 := by omega
    rw [e1] at T1
    generalize Pl.tb ((d / 65536).toNat + 1) = t1 at *
    generalize Pl.tb (d / 65536).toNat = t0 at *
    generalize Pl.share (t1 - t0) (d % 65536) 65536 = m at *
    have hs := Lib.hid hs
    have T := Lib.hid T
    have T1 := Lib.hid T1
    have M := Lib.hid M
    clear hr e1
    go_enter Try.func105, Try.ntmps105
    go_wp2_with fail
    refine (T1.out _).mono ?_
    rintro e w1 ⟨rfl, g1⟩
    go_wp2_with fail
    refine (T.out _).mono ?_
    rintro e w2 ⟨rfl, g2⟩
    go_wp2_with fail
    refine (M.out _).mono ?_
    rintro e w3 ⟨rfl, g3⟩
    go_wp2_with fail
    refine (T.out _).mono ?_
    rintro e w4 ⟨rfl, g4⟩
    go_wp2_with fail
    go_ret
    exact ⟨ret_int hs.out.symm, grown_trans g1 (grown_trans g2 (grown_trans g3 g4))⟩

/-- of up to half a turn -/
theorem sin04_any (d : Int) (h : 0 ≤ d ∧ d ≤ 11796480) (w : World) :
    Calls Try.prog 70 #[.int .i64 d] w fun e w' => e = .returned (.int .i64 (Pl.sin0 d)) ∧ Grown w w' := by
  have hm : d % 23592960 = d := by omega
  have CB := fun w => turn4_any d w
  rw [hm] at CB
  have CB := Lib.hid CB
  clear hm
  by_cases hq : 5898240 < d
  · have hs := Lib.hid (show Pl.sin0 d = Pl.sine (11796480 - d) by unfold Pl.sin0; rw [if_pos hq])
    go_enter Try.func70, Try.ntmps70
    go_wp2_with fail
    refine (CB.out _).mono ?_
    rintro e w1 ⟨rfl, rfl⟩
    go_wp2_with fail
    refine (first4_any (11796480 - d) (by omega) _).mono ?_
    rintro e w2 ⟨rfl, g2⟩
    go_wp2_with fail
    go_ret
    exact ⟨ret_int (by rw [hs.out]), g2⟩
  · have hs := Lib.hid (show Pl.sin0 d = Pl.sine d by unfold Pl.sin0; rw [if_neg hq])
    go_enter Try.func70, Try.ntmps70
    go_wp2_with fail
    refine (CB.out _).mono ?_
    rintro e w1 ⟨rfl, rfl⟩
    go_wp2_with fail
    refine (first4_any d (by omega) _).mono ?_
    rintro e w2 ⟨rfl, g2⟩
    go_wp2_with fail
    go_ret
    exact ⟨ret_int (by rw [hs.out]), g2⟩

theorem sin4_any (v : Int) (w : World) :
    Calls Try.prog 70 #[.int .i64 v] w fun e w' => e = .returned (.int .i64 (Pl.sin v)) ∧ Grown w w' := by
  have CB := fun w => turn4_any v w
  have hb : 0 ≤ v % 23592960 ∧ v % 23592960 < 23592960 := by omega
  have hsv : Pl.sin v = if 11796480 < v % 23592960 then -Pl.sin0 (v % 23592960 - 11796480) else Pl.sin0 (v % 23592960) := rfl
  generalize v % 23592960 = d at *
  have CB := Lib.hid CB
  by_cases hq : 11796480 < d
  · rw [if_pos hq] at hsv
    have hs := Lib.hid hsv; clear hsv
    have hbd := Pl.sin0_bd (d - 11796480) (by omega) (by omega)
    go_enter Try.func70, Try.ntmps70
    go_wp2_with fail
    refine (CB.out _).mono ?_
    rintro e w1 ⟨rfl, rfl⟩
    go_wp2_with fail
    refine (sin04_any (d - 11796480) (by omega) _).mono ?_
    rintro e w2 ⟨rfl, g2⟩
    go_wp2_with fail
    go_ret
    exact ⟨ret_int (by rw [hs.out]), g2⟩
  · rw [if_neg hq] at hsv
    have hsd : Pl.sin0 d = Pl.sine (if 5898240 < d then 11796480 - d else d) := rfl
    rw [hsd] at hsv
    clear hsd
    by_cases hr : 5898240 < d
    · rw [if_pos hr] at hsv
      have hs := Lib.hid hsv; clear hsv
      go_enter Try.func70, Try.ntmps70
      go_wp2_with fail
      refine (CB.out _).mono ?_
      rintro e w1 ⟨rfl, rfl⟩
      go_wp2_with fail
      refine (first4_any (11796480 - d) (by omega) _).mono ?_
      rintro e w2 ⟨rfl, g2⟩
      go_wp2_with fail
      go_ret
      exact ⟨ret_int (by rw [hs.out]), g2⟩
    · rw [if_neg hr] at hsv
      have hs := Lib.hid hsv; clear hsv
      go_enter Try.func70, Try.ntmps70
      go_wp2_with fail
      refine (CB.out _).mono ?_
      rintro e w1 ⟨rfl, rfl⟩
      go_wp2_with fail
      refine (first4_any d (by omega) _).mono ?_
      rintro e w2 ⟨rfl, g2⟩
      go_wp2_with fail
      go_ret
      exact ⟨ret_int (by rw [hs.out]), g2⟩
theorem cos4_any (v : Int) (w : World) :
    Calls Try.prog 71 #[.int .i64 v] w fun e w' => e = .returned (.int .i64 (Pl.cos v)) ∧ Grown w w' := by
  have hb : 0 ≤ v % 23592960 ∧ v % 23592960 < 23592960 := by omega
  go_enter Try.func71, Try.ntmps71
  go_wp2_with fail
  refine (turn4_any v _).mono ?_
  rintro e w1 ⟨rfl, rfl⟩
  go_wp2_with fail
  refine (sin4_any (v % 23592960 + 5898240) _).mono ?_
  rintro e w2 ⟨rfl, g2⟩
  go_wp2_with fail
  go_ret
  exact ⟨rfl, g2⟩

theorem side4_any (v y x : Int) (hy : -1073741823 ≤ y ∧ y ≤ 1073741823) (hx : -1073741823 ≤ x ∧ x ≤ 1073741823) (w : World) :
    Calls Try.prog 102 #[.int .i64 v, .int .i64 y, .int .i64 x] w fun e w' => e = .returned (.int .i64 (Pl.cos v * y - Pl.sin v * x)) ∧ Grown w w' := by
  have b1 := Pl.mul_bd46 _ _ (Pl.cos_bd v) hy
  have b2 := Pl.mul_bd46 _ _ (Pl.sin_bd v) hx
  go_enter Try.func102, Try.ntmps102
  go_wp2_with fail
  refine (cos4_any v _).mono ?_
  rintro e w1 ⟨rfl, g1⟩
  go_wp2_with fail
  refine (sin4_any v _).mono ?_
  rintro e w2 ⟨rfl, g2⟩
  go_wp2_with fail
  go_ret
  exact ⟨rfl, grown_trans g1 g2⟩

theorem quarter4_any (y x : Int) (w : World) :
    Calls Try.prog 101 #[.int .i64 y, .int .i64 x] w fun e w' => e = .returned (.int .i64 (Pl.begin y x)) ∧ w = w' := by
  have hb : Pl.begin y x = if 0 < x ∧ 0 ≤ y then 0 else if x ≤ 0 ∧ 0 < y then 5898240 else if x < 0 then 11796480 else 17694720 := rfl
  have hc : (0 < x ∧ 0 ≤ y ∧ Hid (Pl.begin y x = 0)) ∨ (x ≤ 0 ∧ 0 < y ∧ Hid (Pl.begin y x = 5898240)) ∨ (x < 0 ∧ y ≤ 0 ∧ Hid (Pl.begin y x = 11796480)) ∨ (0 < x ∧ y < 0 ∧ Hid (Pl.begin y x = 17694720)) ∨ (x ≤ 0 ∧ 0 ≤ x ∧ y ≤ 0 ∧ Hid (Pl.begin y x = 17694720)) := by
    by_cases c1 : 0 < x
    · by_cases c2 : 0 ≤ y
      · exact .inl ⟨c1, c2, Lib.hid (by rw [hb, if_pos ⟨c1, c2⟩])⟩
      · exact .inr (.inr (.inr (.inl ⟨c1, by omega, Lib.hid (by rw [hb, if_neg (by omega), if_neg (by omega), if_neg (by omega)])⟩)))
    · by_cases c2 : 0 < y
      · exact .inr (.inl ⟨by omega, c2, Lib.hid (by rw [hb, if_neg (by omega), if_pos (by omega)])⟩)
      · by_cases c3 : x < 0
        · exact .inr (.inr (.inl ⟨c3, by omega, Lib.hid (by rw [hb, if_neg (by omega), if_neg (by omega), if_pos c3])⟩))
        · exact .inr (.inr (.inr (.inr ⟨by omega, by omega, by omega, Lib.hid (by rw [hb, if_neg (by omega), if_neg (by omega), if_neg c3])⟩)))
  clear hb
  rcases hc with ⟨h1, h2, h4⟩ | ⟨h1, h2, h4⟩ | ⟨h1, h2, h4⟩ | ⟨h1, h2, h4⟩ | ⟨h1, h3, h2, h4⟩
  all_goals
    go_enter Try.func101, Try.ntmps101
    go_wp2
    go_ret
    exact ⟨ret_int h4.out.symm, rfl⟩
end Go.Proofs.Ytedidjdifobclaa
