/- The walk of tympanlaw3.FixRounds. -/
import Derived.Test.YtedidjdifobclaaL3
import Derived.Test.YtedidjdifobclaaPlLaw3
namespace Go.Proofs.Ytedidjdifobclaa
set_option linter.unusedVariables false
open Go.RowKit

set_option maxHeartbeats 4000000 in
theorem rounds_core (a x f c r t wh : Int) (hx : Hid (Pl.may3 a = x)) (hxf : -1073741823 ≤ x ∧ x ≤ 1073741823)
    (hf : Hid (Pl.ffloor x = f)) (hc : Hid (Pl.fceil x = c)) (hr : Hid (Pl.fround x = r)) (ht : Hid (Pl.ftrunc x = t)) (hw : Hid (Pl.fwhole x = wh)) (hn : Hid (Pl.ffloor (-x) = -c))
    (mf : (f.tmod 65536 != 0) = false) (mc : (c.tmod 65536 != 0) = false) (mr : (r.tmod 65536 != 0) = false) (mt : (t.tmod 65536 != 0) = false)
    (bf : -1073741824 ≤ f ∧ f ≤ 1073741824) (bc : -1073741824 ≤ c ∧ c ≤ 1073741824) (br : -1073741824 ≤ r ∧ r ≤ 1073741824) (bt : -1073741824 ≤ t ∧ t ≤ 1073741824) (bw : -16384 ≤ wh ∧ wh ≤ 16384)
    (k1 : f ≤ x ∧ x < f + 65536) (k2 : x ≤ c ∧ c < x + 65536) (k3 : -32768 ≤ r - x ∧ r - x ≤ 32768)
    (ktie : (r - x < 32768 ∧ -32768 < r - x) ∨ ((r - x == 32768) = true ∧ ((r.tdiv 65536).tmod 2 != 0) = false ∧ 0 ≤ r - x ∧ (r / 65536 % 2 != 0) = false) ∨ ((-(r - x) == 32768) = true ∧ ((r.tdiv 65536).tmod 2 != 0) = false ∧ r - x < 0 ∧ (r / 65536 % 2 != 0) = false))
    (kt : (x < 0 ∧ (t != c) = false) ∨ (0 ≤ x ∧ (t != f) = false)) (kw : (wh * 65536 == f) = true) (w : World) :
    Calls Try.prog 8 #[.int .i64 a] w fun e w' => e = .returned (.bool true) ∧ Grown w w' := by
  have CM := Lib.hid (fun w => may3_any a w)
  rw [hx.out] at CM
  have CF := Lib.hid (fun w => ffloor_any x w)
  rw [hf.out] at CF
  have CC := Lib.hid (fun w => fceil_any x w)
  rw [hc.out] at CC
  have CR := Lib.hid (fun w => fround_any x w)
  rw [hr.out] at CR
  have CT := Lib.hid (fun w => ftrunc_any x w)
  rw [ht.out] at CT
  have CW := Lib.hid (fun w => fwhole_any x w)
  rw [hw.out] at CW
  have CN := Lib.hid (fun w => ffloor_any (-x) w)
  rw [hn.out] at CN
  have hcc : (-c == -c) = true := by simp
  clear hx hf hc hr ht hw hn
  have i0 : ∀ w, (Instr.index 35 (.agg #[.int .i64 f, .int .i64 c, .int .i64 r, .int .i64 t]) (.int .i64 0)).run Try.prog w = .ok (.int .i64 f) w := fun _ => by kernel_rfl
  have i1 : ∀ w, (Instr.index 35 (.agg #[.int .i64 f, .int .i64 c, .int .i64 r, .int .i64 t]) (.int .i64 1)).run Try.prog w = .ok (.int .i64 c) w := fun _ => by kernel_rfl
  have i2 : ∀ w, (Instr.index 35 (.agg #[.int .i64 f, .int .i64 c, .int .i64 r, .int .i64 t]) (.int .i64 2)).run Try.prog w = .ok (.int .i64 r) w := fun _ => by kernel_rfl
  have i3 : ∀ w, (Instr.index 35 (.agg #[.int .i64 f, .int .i64 c, .int .i64 r, .int .i64 t]) (.int .i64 3)).run Try.prog w = .ok (.int .i64 t) w := fun _ => by kernel_rfl
  go_enter Try.func8, Try.ntmps8
  go_wp2_with fail
  refine (known3 _).mono ?_
  rintro e w1 ⟨rfl, g1⟩
  go_wp2_with fail
  refine (CM.out _).mono ?_
  rintro e w2 ⟨rfl, rfl⟩
  go_wp2_with fail
  refine (CF.out _).mono ?_
  rintro e w2 ⟨rfl, rfl⟩
  go_wp2_with fail
  refine (CC.out _).mono ?_
  rintro e w2 ⟨rfl, rfl⟩
  go_wp2_with fail
  refine (CR.out _).mono ?_
  rintro e w2 ⟨rfl, rfl⟩
  go_wp2_with fail
  refine (CT.out _).mono ?_
  rintro e w2 ⟨rfl, rfl⟩
  go_wp2_with fail
  go_loop [28] (fun i => ∃ k : Nat, k ≤ 4 ∧ i = .int .i64 (k : Int)) (fun i => (4 - intOf i).toNat)
  case atStart => exact ⟨0, by omega, rfl⟩
  case round =>
    obtain ⟨k, hk, rfl⟩ := hrel
    have hk' : k = 0 ∨ k = 1 ∨ k = 2 ∨ k = 3 ∨ k = 4 := by omega
    rcases hk' with rfl | rfl | rfl | rfl | rfl
    case inl =>
      go_wp2_with fail
      go_round
      case rel => exact ⟨1, by omega, by go_num⟩
      case measure => simp [intOf] <;> omega
    case inr.inl =>
      go_wp2_with fail
      go_round
      case rel => exact ⟨2, by omega, by go_num⟩
      case measure => simp [intOf] <;> omega
    case inr.inr.inl =>
      go_wp2_with fail
      go_round
      case rel => exact ⟨3, by omega, by go_num⟩
      case measure => simp [intOf] <;> omega
    case inr.inr.inr.inl =>
      go_wp2_with fail
      go_round
      case rel => exact ⟨4, by omega, by go_num⟩
      case measure => simp [intOf] <;> omega
    case inr.inr.inr.inr =>
      clear i0 i1 i2 i3 mf mc mr mt
      have ktie' : (r - x < 32768 ∧ 0 ≤ r - x) ∨ (-32768 < r - x ∧ r - x < 0) ∨ ((r - x == 32768) = true ∧ ((r.tdiv 65536).tmod 2 != 0) = false ∧ 0 ≤ r - x ∧ (r / 65536 % 2 != 0) = false) ∨ ((-(r - x) == 32768) = true ∧ ((r.tdiv 65536).tmod 2 != 0) = false ∧ r - x < 0 ∧ (r / 65536 % 2 != 0) = false) := by
        rcases ktie with ⟨e1, e2⟩ | ⟨e1, e2, e3, e5⟩ | ⟨e1, e2, e3, e5⟩
        · by_cases e4 : r - x < 0
          · exact .inr (.inl ⟨e2, e4⟩)
          · exact .inl ⟨e1, by omega⟩
        · exact .inr (.inr (.inl ⟨e1, e2, e3, e5⟩))
        · exact .inr (.inr (.inr ⟨e1, e2, e3, e5⟩))
      clear ktie
      rcases ktie' with ⟨e1, e2⟩ | ⟨e1, e2⟩ | ⟨e1, e2, e3, e5⟩ | ⟨e1, e2, e3, e5⟩ <;> rcases kt with ⟨f1, f2⟩ | ⟨f1, f2⟩
      all_goals
        go_wp2_with fail
        refine (CW.out _).mono ?_
        rintro e w2 ⟨rfl, rfl⟩
        go_wp2_with fail
        refine (CN.out _).mono ?_
        rintro e w2 ⟨rfl, rfl⟩
        go_wp2_with fail
        go_ret
        exact ⟨rfl, g1⟩

theorem tie_even {r : Int} (h : r / 65536 % 2 = 0) (hm : r % 65536 = 0) : ((r.tdiv 65536).tmod 2 != 0) = false ∧ (r / 65536 % 2 != 0) = false := by
  refine ⟨bne_eq_false_iff_eq.2 ?_, bne_eq_false_iff_eq.2 h⟩
  have e : r.tdiv 65536 = r / 65536 := by
    rw [Int.tdiv_eq_ediv_of_dvd (Int.dvd_of_emod_eq_zero hm)]
  rw [e]
  exact Pl.tmod_zero h
theorem walk_FixRounds (a : Int) (w0 : (Lit.int .i64 a).wf = true) (w : World) :
    Calls Try.prog 8 #[.int .i64 a] w fun e w' => e = .returned (.bool true) ∧ Grown w w' := by
  have hfx := Pl.may3_fx a
  obtain ⟨x, hx⟩ : ∃ x, Pl.may3 a = x := ⟨_, rfl⟩
  rw [hx] at hfx
  obtain ⟨m1, m2, m3, m4, b1, b2, b3, k1, k2, k3, kt, t1, t2, kw, kn⟩ := Pl.rounds_law x hfx
  have bt : -1073741824 ≤ Pl.ftrunc x ∧ Pl.ftrunc x ≤ 1073741824 := by
    by_cases h : x < 0
    · rw [t1 h]; exact b2
    · rw [t2 (by omega)]; exact b1
  refine rounds_core a x _ _ _ _ _ (Lib.hid hx) hfx (Lib.hid rfl) (Lib.hid rfl) (Lib.hid rfl) (Lib.hid rfl) (Lib.hid rfl) (Lib.hid kn)
    (bne_eq_false_iff_eq.2 (Pl.tmod_zero m1)) (bne_eq_false_iff_eq.2 (Pl.tmod_zero m2)) (bne_eq_false_iff_eq.2 (Pl.tmod_zero m3)) (bne_eq_false_iff_eq.2 (Pl.tmod_zero m4))
    b1 b2 b3 bt (by omega) k1 k2 k3 ?_ ?_ (beq_iff_eq.2 kw) w
  · by_cases c1 : Pl.fround x - x = 32768
    · have h := tie_even (kt (.inl c1)) m3
      exact .inr (.inl ⟨beq_iff_eq.2 c1, h.1, by omega, h.2⟩)
    · by_cases c2 : Pl.fround x - x = -32768
      · have h := tie_even (kt (.inr c2)) m3
        exact .inr (.inr ⟨beq_iff_eq.2 (by omega), h.1, by omega, h.2⟩)
      · exact .inl ⟨by omega, by omega⟩
  · by_cases h : x < 0
    · exact .inl ⟨h, bne_eq_false_iff_eq.2 (t1 h)⟩
    · exact .inr ⟨by omega, bne_eq_false_iff_eq.2 (t2 (by omega))⟩
end Go.Proofs.Ytedidjdifobclaa
