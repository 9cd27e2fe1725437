/- The walks of package turn: brought, sine, Sin, Cos. -/
import Derived.Test.YtedidjdifobclaaW8
import Derived.Test.YtedidjdifobclaaPlRoot
import Derived.Test.YtedidjdifobclaaPlTurn
import Derived.Test.YtedidjdifobclaaKit2
import Derived.Deep.Cut
import Derived.Deep.RegionWith
namespace Go.Proofs.Ytedidjdifobclaa
set_option linter.unusedVariables false
open Go.RowKit

theorem brought_any (v : Int) (w : World) :
    Calls Try.prog 91 #[.int .i64 v] w fun e w' => e = .returned (.int .i64 (v % 23592960)) ∧ w = w' := by
  have hb := Pl.tmod_bd v 23592960 (by omega)
  have he := Lib.hid (Pl.place_eq v 23592960 (by omega))
  by_cases h : v.tmod 23592960 < 0
  · go_enter Try.func91, Try.ntmps91
    go_wp2
    go_ret
    exact ⟨ret_int (by rw [← he.out, if_pos (by assumption)]), rfl⟩
  · go_enter Try.func91, Try.ntmps91
    go_wp2
    go_ret
    exact ⟨ret_int (by rw [← he.out, if_neg (by omega)]), rfl⟩

/-- the table as cells -/
def tabA : Array Value := (Pl.tabL.map (Value.int .i64)).toArray

def tabZ : Array Value := Array.replicate 91 (.int .i64 0)
theorem tab_get (k : Nat) (h : k < 91) : tabA[k]? = some (.int .i64 (Pl.tb k)) := by
  unfold tabA Pl.tb
  have hl : Pl.tabL.length = 91 := by decide +kernel
  simp [List.getElem?_eq_getElem (show k < Pl.tabL.length by omega)]
theorem tab_cell (w : World) (k : Nat) (h : k < 91) : (w.alloc (.cells tabA 69)).cell? ⟨w.heap.size, k, none⟩ = some (.int .i64 (Pl.tb k)) := by
  rw [cell_of_row _ _ _ _ _ _ (heap_alloc_new w _)]
  exact tab_get k h

set_option maxRecDepth 100000 in
theorem sine_whole (d : Int) (h : 0 ≤ d ∧ d ≤ 5898240) (hr : d % 65536 = 0) (w : World) :
    Calls Try.prog 92 #[.int .i64 d] w fun e w' => e = .returned (.int .i64 (Pl.sine d)) ∧ Grown w w' := by
  have h0 : (d % 65536 == 0) = true := beq_iff_eq.2 hr
  have hs := Lib.hid (show Pl.sine d = Pl.tb (d / 65536).toNat by unfold Pl.sine; rw [if_pos hr])
  clear hr
  go_enter Try.func92, Try.ntmps92
  go_upto_region 1 with (fail)
  go_outline
  apply wp_region_lit
  refine wpList_build_to rfl 69 _ rfl tabA (by kernel_rfl) ?_
  refine wpList_alloc_to rfl 69 rfl tabZ (by kernel_rfl) ?_
  refine wpList_store_new rfl 69 _ _ rfl tabZ tabA rfl rfl (by kernel_rfl) (by kernel_rfl) (by kernel_rfl) ?_
  apply wpList_nil
  have hc := tab_cell w (d / 65536).toNat (by omega)
  have hg := tab_get (d / 65536).toNat (by omega)
  go_wp2_with fail
  go_ret
  exact ⟨ret_int hs.out.symm, (Grown.refl w).alloc _ _⟩

set_option maxRecDepth 100000 in
theorem sine_part (d : Int) (h : 0 ≤ d ∧ d < 5898240) (hr : d % 65536 ≠ 0) (w : World) :
    Calls Try.prog 92 #[.int .i64 d] w fun e w' => e = .returned (.int .i64 (Pl.sine d)) ∧ Grown w w' := by
  have h0 : (d % 65536 == 0) = false := beq_eq_false_iff_ne.2 hr
  have hs := Lib.hid (show Pl.sine d = Pl.tb (d / 65536).toNat + Pl.share (Pl.tb ((d / 65536).toNat + 1) - Pl.tb (d / 65536).toNat) (d % 65536) 65536 by unfold Pl.sine; rw [if_neg hr])
  have hst := Pl.tb_step (d / 65536).toNat (by omega)
  have hbk := Pl.tb_bd (d / 65536).toNat (by omega)
  have hbk1 := Pl.tb_bd ((d / 65536).toNat + 1) (by omega)
  have hpb := Pl.part_bd (Pl.tb ((d / 65536).toNat + 1) - Pl.tb (d / 65536).toNat) (d % 65536) hst.1 (by omega)
  have CM := Lib.hid (fun w => fmul_ok (Pl.tb ((d / 65536).toNat + 1) - Pl.tb (d / 65536).toNat) (d % 65536) (by unfold Pl.fx; omega) (by unfold Pl.fx; omega) (by unfold Pl.fx; omega) w)
  have e1 : (d / 65536 + 1).toNat = (d / 65536).toNat + 1 := by omega
  clear hr
  go_enter Try.func92, Try.ntmps92
  go_upto_region 1 with (fail)
  apply wp_region_lit
  refine wpList_build_to rfl 69 _ rfl tabA (by kernel_rfl) ?_
  refine wpList_alloc_to rfl 69 rfl tabZ (by kernel_rfl) ?_
  refine wpList_store_new rfl 69 _ _ rfl tabZ tabA rfl rfl (by kernel_rfl) (by kernel_rfl) (by kernel_rfl) ?_
  apply wpList_nil
  have hc := tab_cell w (d / 65536).toNat (by omega)
  have hg := tab_get (d / 65536).toNat (by omega)
  have hc1 := tab_cell w ((d / 65536).toNat + 1) (by omega)
  have hg1 := tab_get ((d / 65536).toNat + 1) (by omega)
  go_wp2_with fail
  have f1 : IntKind.i64.wrap (d / 65536 + 1) = d / 65536 + 1 := IntWalk.i64_in _ (by omega)
  have f2 : (0 : Int) ≤ d / 65536 + 1 := by omega
  have f3 : d / 65536 + 1 < 91 := by omega
  have f4 : (0 : Int) ≤ d / 65536 := by omega
  have f5 : d / 65536 < 91 := by omega
  have f6 : IntKind.i64.wrap (Pl.tb ((d / 65536).toNat + 1) - Pl.tb (d / 65536).toNat) = Pl.tb ((d / 65536).toNat + 1) - Pl.tb (d / 65536).toNat := IntWalk.i64_in _ (by omega)
  go_region_with (go_at_call 31; refine (CM.out _).mono ?_; rintro e w2 ⟨rfl, g2⟩)
  all_goals
    clear f1 f6
    have hc2 := grown_cell g2 (by exact hc)
    go_wp2_with fail
    go_ret
    exact ⟨ret_int (by rw [hs.out]), grown_trans (Grown.drew ((Grown.refl w).alloc _ _)) g2⟩

theorem sine_any (d : Int) (h : 0 ≤ d ∧ d ≤ 5898240) (w : World) :
    Calls Try.prog 92 #[.int .i64 d] w fun e w' => e = .returned (.int .i64 (Pl.sine d)) ∧ Grown w w' := by
  by_cases hr : d % 65536 = 0
  · exact sine_whole d h hr w
  · exact sine_part d (by omega) hr w

/-- of up to half a turn -/
theorem sin0_any (d : Int) (h : 0 ≤ d ∧ d ≤ 11796480) (w : World) :
    Calls Try.prog 50 #[.int .i64 d] w fun e w' => e = .returned (.int .i64 (Pl.sin0 d)) ∧ Grown w w' := by
  have hm : d % 23592960 = d := by omega
  have CB := Lib.hid (fun w => brought_any d w)
  rw [hm] at CB
  clear hm
  by_cases hq : 5898240 < d
  · have hs := Lib.hid (show Pl.sin0 d = Pl.sine (11796480 - d) by unfold Pl.sin0; rw [if_pos hq])
    go_enter Try.func50, Try.ntmps50
    go_wp2_with fail
    refine (CB.out _).mono ?_
    rintro e w1 ⟨rfl, rfl⟩
    go_wp2_with fail
    refine (sine_any (11796480 - d) (by omega) _).mono ?_
    rintro e w2 ⟨rfl, g2⟩
    go_wp2_with fail
    go_ret
    exact ⟨ret_int (by rw [hs.out]), g2⟩
  · have hs := Lib.hid (show Pl.sin0 d = Pl.sine d by unfold Pl.sin0; rw [if_neg hq])
    go_enter Try.func50, Try.ntmps50
    go_wp2_with fail
    refine (CB.out _).mono ?_
    rintro e w1 ⟨rfl, rfl⟩
    go_wp2_with fail
    refine (sine_any d (by omega) _).mono ?_
    rintro e w2 ⟨rfl, g2⟩
    go_wp2_with fail
    go_ret
    exact ⟨ret_int (by rw [hs.out]), g2⟩

theorem sin_any (v : Int) (w : World) :
    Calls Try.prog 50 #[.int .i64 v] w fun e w' => e = .returned (.int .i64 (Pl.sin v)) ∧ Grown w w' := by
  have CB := Lib.hid (fun w => brought_any v w)
  have hb : 0 ≤ v % 23592960 ∧ v % 23592960 < 23592960 := by omega
  have hsv : Pl.sin v = if 11796480 < v % 23592960 then -Pl.sin0 (v % 23592960 - 11796480) else Pl.sin0 (v % 23592960) := rfl
  generalize v % 23592960 = d at *
  by_cases hq : 11796480 < d
  · rw [if_pos hq] at hsv
    have hs := Lib.hid hsv; clear hsv
    have hbd := Pl.sin0_bd (d - 11796480) (by omega) (by omega)
    go_enter Try.func50, Try.ntmps50
    go_wp2_with fail
    refine (CB.out _).mono ?_
    rintro e w1 ⟨rfl, rfl⟩
    go_wp2_with fail
    refine (sin0_any (d - 11796480) (by omega) _).mono ?_
    rintro e w2 ⟨rfl, g2⟩
    go_wp2_with fail
    go_ret
    exact ⟨ret_int (by rw [hs.out]), g2⟩
  · rw [if_neg hq] at hsv
    have hsd : Pl.sin0 d = Pl.sine (if 5898240 < d then 11796480 - d else d) := rfl
    rw [hsd] at hsv
    clear hsd
    by_cases hr : 5898240 < d
    · rw [if_pos hr] at hsv
      have hs := Lib.hid hsv; clear hsv
      go_enter Try.func50, Try.ntmps50
      go_wp2_with fail
      refine (CB.out _).mono ?_
      rintro e w1 ⟨rfl, rfl⟩
      go_wp2_with fail
      refine (sine_any (11796480 - d) (by omega) _).mono ?_
      rintro e w2 ⟨rfl, g2⟩
      go_wp2_with fail
      go_ret
      exact ⟨ret_int (by rw [hs.out]), g2⟩
    · rw [if_neg hr] at hsv
      have hs := Lib.hid hsv; clear hsv
      go_enter Try.func50, Try.ntmps50
      go_wp2_with fail
      refine (CB.out _).mono ?_
      rintro e w1 ⟨rfl, rfl⟩
      go_wp2_with fail
      refine (sine_any d (by omega) _).mono ?_
      rintro e w2 ⟨rfl, g2⟩
      go_wp2_with fail
      go_ret
      exact ⟨ret_int (by rw [hs.out]), g2⟩
theorem cos_any (v : Int) (w : World) :
    Calls Try.prog 51 #[.int .i64 v] w fun e w' => e = .returned (.int .i64 (Pl.cos v)) ∧ Grown w w' := by
  have hb : 0 ≤ v % 23592960 ∧ v % 23592960 < 23592960 := by omega
  go_enter Try.func51, Try.ntmps51
  go_wp2_with fail
  refine (brought_any v _).mono ?_
  rintro e w1 ⟨rfl, rfl⟩
  go_wp2_with fail
  refine (sin_any (v % 23592960 + 5898240) _).mono ?_
  rintro e w2 ⟨rfl, g2⟩
  go_wp2_with fail
  go_ret
  exact ⟨rfl, g2⟩
end Go.Proofs.Ytedidjdifobclaa
