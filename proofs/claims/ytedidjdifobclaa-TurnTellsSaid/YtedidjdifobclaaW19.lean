/- The walks of tympanref3 (printed by wip/gen_ref3.py). -/
import Derived.Test.YtedidjdifobclaaW18
import Derived.Test.YtedidjdifobclaaW9
namespace Go.Proofs.Ytedidjdifobclaa
set_option linter.unusedVariables false
open Go.RowKit

theorem r3may_any (v : Int) (m : Bool) (hm : m = true ↔ (-1073741823 ≤ v ∧ v ≤ 1073741823)) (W : World) :
    Calls Try.prog 98 #[.int .i64 v] W fun e w' => e = Ending.returned (.bool m) ∧ W = w' := by
  go_enter Try.func98, Try.ntmps98
  go_wp2
  all_goals
    go_ret
    refine ⟨ret_bool ?_, rfl⟩
    first | exact (hm.2 (by refine ⟨?_, ?_⟩ <;> omega)).symm | (symm; rw [Bool.eq_iff_iff, hm, decide_eq_true_eq]; omega) | (symm; rw [Bool.eq_false_iff]; intro h; have h := hm.1 h; omega)

theorem r3held_ok (v : Int) (h : -1073741823 ≤ v ∧ v ≤ 1073741823) (W : World) :
    Calls Try.prog 99 #[.int .i64 v, .bool true] W fun e w' => e = Ending.returned (.tuple #[.int .i64 v, .bool true]) ∧ W = w' := by
  go_enter Try.func99, Try.ntmps99
  go_wp2_with fail
  refine (r3may_any v true ⟨fun _ => h, fun _ => rfl⟩ _).mono ?_
  rintro e w1 ⟨rfl, rfl⟩
  go_wp2
  go_ret2
  exact ⟨rfl, rfl⟩
theorem r3held_no (v : Int) (h : ¬ (-1073741823 ≤ v ∧ v ≤ 1073741823)) (W : World) :
    Calls Try.prog 99 #[.int .i64 v, .bool true] W fun e w' => e = Ending.returned (.tuple #[.int .i64 0, .bool false]) ∧ W = w' := by
  go_enter Try.func99, Try.ntmps99
  go_wp2_with fail
  refine (r3may_any v false ⟨fun h => absurd h (by decide), fun h' => absurd h' h⟩ _).mono ?_
  rintro e w1 ⟨rfl, rfl⟩
  go_wp2
  go_ret2
  exact ⟨rfl, rfl⟩
theorem r3from_ok (v : Int) (h : -16383 ≤ v ∧ v ≤ 16383) (W : World) :
    Calls Try.prog 58 #[.int .i64 v] W fun e w' => e = Ending.returned (.tuple #[.int .i64 (v * 65536), .bool true]) ∧ W = w' := by
  obtain ⟨h1, h2⟩ := h
  have H := Lib.hid (r3held_ok (v * 65536) ⟨by omega, by omega⟩)
  go_enter Try.func58, Try.ntmps58
  go_wp2_with fail
  refine (r3may_any v true ⟨fun _ => ⟨by omega, by omega⟩, fun _ => rfl⟩ _).mono ?_
  rintro e w1 ⟨rfl, rfl⟩
  go_wp2_with fail
  refine (H.out _).mono ?_
  rintro e w1 ⟨rfl, rfl⟩
  go_wp2
  go_ret2
  exact ⟨rfl, rfl⟩
theorem r3from_no (v : Int) (h : ¬ (-16383 ≤ v ∧ v ≤ 16383)) (W : World) :
    Calls Try.prog 58 #[.int .i64 v] W fun e w' => e = Ending.returned (.tuple #[.int .i64 0, .bool false]) ∧ W = w' := by
  by_cases hv : -1073741823 ≤ v ∧ v ≤ 1073741823
  · have H := Lib.hid (r3held_no (v * 65536) (by omega))
    obtain ⟨h1, h2⟩ := hv
    clear h
    go_enter Try.func58, Try.ntmps58
    go_wp2_with fail
    refine (r3may_any v true ⟨fun _ => ⟨by omega, by omega⟩, fun _ => rfl⟩ _).mono ?_
    rintro e w1 ⟨rfl, rfl⟩
    go_wp2_with fail
    refine (H.out _).mono ?_
    rintro e w1 ⟨rfl, rfl⟩
    go_wp2
    go_ret2
    exact ⟨rfl, rfl⟩
  · have H := Lib.hid hv
    clear hv h
    go_enter Try.func58, Try.ntmps58
    go_wp2_with fail
    refine (r3may_any v false ⟨fun h => absurd h (by decide), fun h' => absurd h' H.out⟩ _).mono ?_
    rintro e w1 ⟨rfl, rfl⟩
    go_wp2
    go_ret2
    exact ⟨rfl, rfl⟩

/-- the lowest bit -/
theorem Pl.and_1_i64 (x : Int) : bits .and .i64 x 1 = x % 2 := by
  have h1 := Pl.toNat_ofInt64 x
  show IntKind.i64.wrap ((BitVec.ofInt 64 x &&& BitVec.ofInt 64 1).toNat : Int) = _
  have e : (BitVec.ofInt 64 1).toNat = 2 ^ 1 - 1 := by decide
  rw [BitVec.toNat_and, e, Nat.and_two_pow_sub_one_eq_mod, IntKind.wrap_i64]
  generalize (BitVec.ofInt 64 x).toNat = N at *
  have : ((N % 2 ^ 1 : Nat) : Int) = (N : Int) % 2 := by simp
  rw [this, h1]
  omega
/-- the lowest 16 bits -/
theorem Pl.and_16_i64 (x : Int) : bits .and .i64 x 65535 = x % 65536 := by
  have h1 := Pl.toNat_ofInt64 x
  show IntKind.i64.wrap ((BitVec.ofInt 64 x &&& BitVec.ofInt 64 65535).toNat : Int) = _
  have e : (BitVec.ofInt 64 65535).toNat = 2 ^ 16 - 1 := by decide
  rw [BitVec.toNat_and, e, Nat.and_two_pow_sub_one_eq_mod, IntKind.wrap_i64]
  generalize (BitVec.ofInt 64 x).toNat = N at *
  have : ((N % 2 ^ 16 : Nat) : Int) = (N : Int) % 65536 := by simp
  rw [this, h1]
  omega
attribute [go_sem] Pl.and_1_i64 Pl.and_16_i64
theorem r3held_false (v : Int) (w : World) : Calls Try.prog 99 #[.int .i64 v, .bool false] w fun e w' => e = .returned (.tuple #[.int .i64 0, .bool false]) ∧ w = w' := by
  go_enter Try.func99, Try.ntmps99
  go_wp2
  go_ret2
  exact ⟨rfl, rfl⟩
theorem r3may_yes (v : Int) (h : Pl.fx v) (w : World) : Calls Try.prog 98 #[.int .i64 v] w fun e w' => e = .returned (.bool true) ∧ w = w' := r3may_any v true (by unfold Pl.fx at h; simp [h]) w
theorem r3may_no (v : Int) (h : ¬ Pl.fx v) (w : World) : Calls Try.prog 98 #[.int .i64 v] w fun e w' => e = .returned (.bool false) ∧ w = w' := r3may_any v false (by unfold Pl.fx at h; simp; omega) w

theorem radd3_noa (a b : Int) (h : ¬ Pl.fx a) (w : World) : Calls Try.prog 59 #[.int .i64 a, .int .i64 b] w fun e w' => e = .returned (.tuple #[.int .i64 0, .bool false]) ∧ Grown w w' := by
  have A := Lib.hid (r3may_no a h)
  clear h
  go_enter Try.func59, Try.ntmps59
  go_wp2_with fail
  refine (A.out _).mono ?_
  rintro e w1 ⟨rfl, rfl⟩
  go_wp2_with fail
  go_ret2
  exact ⟨rfl, Grown.refl _⟩
theorem radd3_nob (a b : Int) (ha : Pl.fx a) (h : ¬ Pl.fx b) (w : World) : Calls Try.prog 59 #[.int .i64 a, .int .i64 b] w fun e w' => e = .returned (.tuple #[.int .i64 0, .bool false]) ∧ Grown w w' := by
  have A := Lib.hid (r3may_yes a ha)
  have B := Lib.hid (r3may_no b h)
  clear h ha
  go_enter Try.func59, Try.ntmps59
  go_wp2_with fail
  refine (A.out _).mono ?_
  rintro e w1 ⟨rfl, rfl⟩
  go_wp2_with fail
  refine (B.out _).mono ?_
  rintro e w1 ⟨rfl, rfl⟩
  go_wp2_with fail
  go_ret2
  exact ⟨rfl, Grown.refl _⟩
theorem radd3_by (a b v : Int) (ok : Bool) (ha : Pl.fx a) (hb : Pl.fx b) (H : Hid (∀ w, Calls Try.prog 99 #[.int .i64 (a + b), .bool true] w fun e w' => e = .returned (.tuple #[.int .i64 v, .bool ok]) ∧ w = w')) (w : World) : Calls Try.prog 59 #[.int .i64 a, .int .i64 b] w fun e w' => e = .returned (.tuple #[.int .i64 v, .bool ok]) ∧ Grown w w' := by
  have A := Lib.hid (r3may_yes a ha)
  have B := Lib.hid (r3may_yes b hb)
  unfold Pl.fx at ha hb
  obtain ⟨a0, a1⟩ := ha
  obtain ⟨b0, b1⟩ := hb
  go_enter Try.func59, Try.ntmps59
  go_wp2_with fail
  refine (A.out _).mono ?_
  rintro e w1 ⟨rfl, rfl⟩
  go_wp2_with fail
  refine (B.out _).mono ?_
  rintro e w1 ⟨rfl, rfl⟩
  go_wp2_with fail
  refine (H.out _).mono ?_
  rintro e w1 ⟨rfl, rfl⟩
  go_wp2_with fail
  go_ret2
  exact ⟨rfl, Grown.refl _⟩
theorem add2_ex (a b : Int) : ∃ (v : Int) (ok : Bool), (∀ w, Calls Try.prog 42 #[.int .i64 a, .int .i64 b] w fun e w' => e = .returned (.tuple #[.int .i64 v, .bool ok]) ∧ Grown w w') ∧ (∀ w, Calls Try.prog 59 #[.int .i64 a, .int .i64 b] w fun e w' => e = .returned (.tuple #[.int .i64 v, .bool ok]) ∧ Grown w w') := by
  by_cases ha : Pl.fx a
  case neg => exact ⟨0, false, fun w => fadd_no a b (fun h => ha h.1) w, fun w => radd3_noa a b ha w⟩
  by_cases hb : Pl.fx b
  case neg => exact ⟨0, false, fun w => fadd_no a b (fun h => hb h.2.1) w, fun w => radd3_nob a b ha hb w⟩
  by_cases hc : Pl.fx (a + b)
  · exact ⟨a + b, true, fun w => fadd_ok a b ha hb hc w, fun w => radd3_by a b _ _ ha hb (Lib.hid fun w => r3held_ok _ (by unfold Pl.fx at hc; exact hc) w) w⟩
  · exact ⟨0, false, fun w => fadd_no a b (fun h => hc h.2.2) w, fun w => radd3_by a b _ _ ha hb (Lib.hid fun w => r3held_no _ (by unfold Pl.fx at hc; exact hc) w) w⟩

theorem rsub3_noa (a b : Int) (h : ¬ Pl.fx a) (w : World) : Calls Try.prog 60 #[.int .i64 a, .int .i64 b] w fun e w' => e = .returned (.tuple #[.int .i64 0, .bool false]) ∧ Grown w w' := by
  have A := Lib.hid (r3may_no a h)
  clear h
  go_enter Try.func60, Try.ntmps60
  go_wp2_with fail
  refine (A.out _).mono ?_
  rintro e w1 ⟨rfl, rfl⟩
  go_wp2_with fail
  go_ret2
  exact ⟨rfl, Grown.refl _⟩
theorem rsub3_nob (a b : Int) (ha : Pl.fx a) (h : ¬ Pl.fx b) (w : World) : Calls Try.prog 60 #[.int .i64 a, .int .i64 b] w fun e w' => e = .returned (.tuple #[.int .i64 0, .bool false]) ∧ Grown w w' := by
  have A := Lib.hid (r3may_yes a ha)
  have B := Lib.hid (r3may_no b h)
  clear h ha
  go_enter Try.func60, Try.ntmps60
  go_wp2_with fail
  refine (A.out _).mono ?_
  rintro e w1 ⟨rfl, rfl⟩
  go_wp2_with fail
  refine (B.out _).mono ?_
  rintro e w1 ⟨rfl, rfl⟩
  go_wp2_with fail
  go_ret2
  exact ⟨rfl, Grown.refl _⟩
theorem rsub3_by (a b v : Int) (ok : Bool) (ha : Pl.fx a) (hb : Pl.fx b) (H : Hid (∀ w, Calls Try.prog 99 #[.int .i64 (a - b), .bool true] w fun e w' => e = .returned (.tuple #[.int .i64 v, .bool ok]) ∧ w = w')) (w : World) : Calls Try.prog 60 #[.int .i64 a, .int .i64 b] w fun e w' => e = .returned (.tuple #[.int .i64 v, .bool ok]) ∧ Grown w w' := by
  have A := Lib.hid (r3may_yes a ha)
  have B := Lib.hid (r3may_yes b hb)
  unfold Pl.fx at ha hb
  obtain ⟨a0, a1⟩ := ha
  obtain ⟨b0, b1⟩ := hb
  go_enter Try.func60, Try.ntmps60
  go_wp2_with fail
  refine (A.out _).mono ?_
  rintro e w1 ⟨rfl, rfl⟩
  go_wp2_with fail
  refine (B.out _).mono ?_
  rintro e w1 ⟨rfl, rfl⟩
  go_wp2_with fail
  refine (H.out _).mono ?_
  rintro e w1 ⟨rfl, rfl⟩
  go_wp2_with fail
  go_ret2
  exact ⟨rfl, Grown.refl _⟩
theorem sub2_ex (a b : Int) : ∃ (v : Int) (ok : Bool), (∀ w, Calls Try.prog 43 #[.int .i64 a, .int .i64 b] w fun e w' => e = .returned (.tuple #[.int .i64 v, .bool ok]) ∧ Grown w w') ∧ (∀ w, Calls Try.prog 60 #[.int .i64 a, .int .i64 b] w fun e w' => e = .returned (.tuple #[.int .i64 v, .bool ok]) ∧ Grown w w') := by
  by_cases ha : Pl.fx a
  case neg => exact ⟨0, false, fun w => fsub_no a b (fun h => ha h.1) w, fun w => rsub3_noa a b ha w⟩
  by_cases hb : Pl.fx b
  case neg => exact ⟨0, false, fun w => fsub_no a b (fun h => hb h.2.1) w, fun w => rsub3_nob a b ha hb w⟩
  by_cases hc : Pl.fx (a - b)
  · exact ⟨a - b, true, fun w => fsub_ok a b ha hb hc w, fun w => rsub3_by a b _ _ ha hb (Lib.hid fun w => r3held_ok _ (by unfold Pl.fx at hc; exact hc) w) w⟩
  · exact ⟨0, false, fun w => fsub_no a b (fun h => hc h.2.2) w, fun w => rsub3_by a b _ _ ha hb (Lib.hid fun w => r3held_no _ (by unfold Pl.fx at hc; exact hc) w) w⟩

theorem rmul3_noa (a b : Int) (h : ¬ Pl.fx a) (w : World) : Calls Try.prog 61 #[.int .i64 a, .int .i64 b] w fun e w' => e = .returned (.tuple #[.int .i64 0, .bool false]) ∧ Grown w w' := by
  have A := Lib.hid (r3may_no a h)
  clear h
  go_enter Try.func61, Try.ntmps61
  go_wp2_with fail
  refine (A.out _).mono ?_
  rintro e w1 ⟨rfl, rfl⟩
  go_wp2_with fail
  go_ret2
  exact ⟨rfl, Grown.refl _⟩
theorem rmul3_nob (a b : Int) (ha : Pl.fx a) (h : ¬ Pl.fx b) (w : World) : Calls Try.prog 61 #[.int .i64 a, .int .i64 b] w fun e w' => e = .returned (.tuple #[.int .i64 0, .bool false]) ∧ Grown w w' := by
  have A := Lib.hid (r3may_yes a ha)
  have B := Lib.hid (r3may_no b h)
  clear h ha
  go_enter Try.func61, Try.ntmps61
  go_wp2_with fail
  refine (A.out _).mono ?_
  rintro e w1 ⟨rfl, rfl⟩
  go_wp2_with fail
  refine (B.out _).mono ?_
  rintro e w1 ⟨rfl, rfl⟩
  go_wp2_with fail
  go_ret2
  exact ⟨rfl, Grown.refl _⟩
theorem rmul3_by (a b u v : Int) (is ok : Bool) (ha : Pl.fx a) (hb : Pl.fx b) (M : Hid (∀ w, Calls Try.prog 54 #[.int .i64 a, .int .i64 b, .int .i64 65536] w fun e w' => e = .returned (.tuple #[.int .i64 u, .bool is]) ∧ Grown w w'))
    (H : Hid (∀ w, Calls Try.prog 99 #[.int .i64 u, .bool is] w fun e w' => e = .returned (.tuple #[.int .i64 v, .bool ok]) ∧ w = w')) (w : World) : Calls Try.prog 61 #[.int .i64 a, .int .i64 b] w fun e w' => e = .returned (.tuple #[.int .i64 v, .bool ok]) ∧ Grown w w' := by
  have A := Lib.hid (r3may_yes a ha)
  have B := Lib.hid (r3may_yes b hb)
  clear ha hb
  go_enter Try.func61, Try.ntmps61
  go_wp2_with fail
  refine (A.out _).mono ?_
  rintro e w1 ⟨rfl, rfl⟩
  go_wp2_with fail
  refine (B.out _).mono ?_
  rintro e w1 ⟨rfl, rfl⟩
  go_wp2_with fail
  refine (M.out _).mono ?_
  rintro e w1 ⟨rfl, g1⟩
  go_wp2_with fail
  refine (H.out _).mono ?_
  rintro e w2 ⟨rfl, rfl⟩
  go_wp2_with fail
  go_ret2
  exact ⟨rfl, g1⟩
theorem mul2_ex (a b : Int) : ∃ (v : Int) (ok : Bool), (∀ w, Calls Try.prog 31 #[.int .i64 a, .int .i64 b] w fun e w' => e = .returned (.tuple #[.int .i64 v, .bool ok]) ∧ Grown w w') ∧ (∀ w, Calls Try.prog 61 #[.int .i64 a, .int .i64 b] w fun e w' => e = .returned (.tuple #[.int .i64 v, .bool ok]) ∧ Grown w w') := by
  by_cases ha : Pl.fx a
  case neg => exact ⟨0, false, fun w => fmul_no a b (fun h => ha h.1) w, fun w => rmul3_noa a b ha w⟩
  by_cases hb : Pl.fx b
  case neg => exact ⟨0, false, fun w => fmul_no a b (fun h => hb h.2.1) w, fun w => rmul3_nob a b ha hb w⟩
  obtain ⟨u, is, _, M, hv⟩ := muldiv2_ex a b 65536 (fx_i64 ha) (fx_i64 hb) (by decide)
  rcases hv with ⟨h0, h1, rfl, rfl⟩ | ⟨h1, rfl, rfl⟩
  · by_cases hc : Pl.fx (Pl.share a b 65536)
    · exact ⟨_, true, fun w => fmul_ok a b ha hb hc w, fun w => rmul3_by a b _ _ _ _ ha hb (Lib.hid M) (Lib.hid fun w => r3held_ok _ (by unfold Pl.fx at hc; exact hc) w) w⟩
    · exact ⟨0, false, fun w => fmul_no a b (fun h => hc h.2.2) w, fun w => rmul3_by a b _ _ _ _ ha hb (Lib.hid M) (Lib.hid fun w => r3held_no _ (by unfold Pl.fx at hc; exact hc) w) w⟩
  · exact ⟨0, false, fun w => fmul_no a b (fun h => h1.elim (fun e => by cases e) (fun e => e (fx_i64 h.2.2))) w, fun w => rmul3_by a b _ _ _ _ ha hb (Lib.hid M) (Lib.hid fun w => r3held_false _ w) w⟩

theorem rdiv3_noa (a b : Int) (h : ¬ Pl.fx a) (w : World) : Calls Try.prog 62 #[.int .i64 a, .int .i64 b] w fun e w' => e = .returned (.tuple #[.int .i64 0, .bool false]) ∧ Grown w w' := by
  have A := Lib.hid (r3may_no a h)
  clear h
  go_enter Try.func62, Try.ntmps62
  go_wp2_with fail
  refine (A.out _).mono ?_
  rintro e w1 ⟨rfl, rfl⟩
  go_wp2_with fail
  go_ret2
  exact ⟨rfl, Grown.refl _⟩
theorem rdiv3_nob (a b : Int) (ha : Pl.fx a) (h : ¬ Pl.fx b) (w : World) : Calls Try.prog 62 #[.int .i64 a, .int .i64 b] w fun e w' => e = .returned (.tuple #[.int .i64 0, .bool false]) ∧ Grown w w' := by
  have A := Lib.hid (r3may_yes a ha)
  have B := Lib.hid (r3may_no b h)
  clear h ha
  go_enter Try.func62, Try.ntmps62
  go_wp2_with fail
  refine (A.out _).mono ?_
  rintro e w1 ⟨rfl, rfl⟩
  go_wp2_with fail
  refine (B.out _).mono ?_
  rintro e w1 ⟨rfl, rfl⟩
  go_wp2_with fail
  go_ret2
  exact ⟨rfl, Grown.refl _⟩
theorem rdiv3_by (a b u v : Int) (is ok : Bool) (ha : Pl.fx a) (hb : Pl.fx b) (M : Hid (∀ w, Calls Try.prog 54 #[.int .i64 a, .int .i64 65536, .int .i64 b] w fun e w' => e = .returned (.tuple #[.int .i64 u, .bool is]) ∧ Grown w w'))
    (H : Hid (∀ w, Calls Try.prog 99 #[.int .i64 u, .bool is] w fun e w' => e = .returned (.tuple #[.int .i64 v, .bool ok]) ∧ w = w')) (w : World) : Calls Try.prog 62 #[.int .i64 a, .int .i64 b] w fun e w' => e = .returned (.tuple #[.int .i64 v, .bool ok]) ∧ Grown w w' := by
  have A := Lib.hid (r3may_yes a ha)
  have B := Lib.hid (r3may_yes b hb)
  clear ha hb
  go_enter Try.func62, Try.ntmps62
  go_wp2_with fail
  refine (A.out _).mono ?_
  rintro e w1 ⟨rfl, rfl⟩
  go_wp2_with fail
  refine (B.out _).mono ?_
  rintro e w1 ⟨rfl, rfl⟩
  go_wp2_with fail
  refine (M.out _).mono ?_
  rintro e w1 ⟨rfl, g1⟩
  go_wp2_with fail
  refine (H.out _).mono ?_
  rintro e w2 ⟨rfl, rfl⟩
  go_wp2_with fail
  go_ret2
  exact ⟨rfl, g1⟩
theorem div2_ex (a b : Int) : ∃ (v : Int) (ok : Bool), (∀ w, Calls Try.prog 30 #[.int .i64 a, .int .i64 b] w fun e w' => e = .returned (.tuple #[.int .i64 v, .bool ok]) ∧ Grown w w') ∧ (∀ w, Calls Try.prog 62 #[.int .i64 a, .int .i64 b] w fun e w' => e = .returned (.tuple #[.int .i64 v, .bool ok]) ∧ Grown w w') := by
  by_cases ha : Pl.fx a
  case neg => exact ⟨0, false, fun w => fdiv_no a b (fun h => ha h.1) w, fun w => rdiv3_noa a b ha w⟩
  by_cases hb : Pl.fx b
  case neg => exact ⟨0, false, fun w => fdiv_no a b (fun h => hb h.2.1) w, fun w => rdiv3_nob a b ha hb w⟩
  obtain ⟨u, is, _, M, hv⟩ := muldiv2_ex a 65536 b (fx_i64 ha) (by decide) (fx_i64 hb)
  rcases hv with ⟨h0, h1, rfl, rfl⟩ | ⟨h1, rfl, rfl⟩
  · by_cases hc : Pl.fx (Pl.share a 65536 b)
    · exact ⟨_, true, fun w => fdiv_ok a b ha hb h0 hc w, fun w => rdiv3_by a b _ _ _ _ ha hb (Lib.hid M) (Lib.hid fun w => r3held_ok _ (by unfold Pl.fx at hc; exact hc) w) w⟩
    · exact ⟨0, false, fun w => fdiv_no a b (fun h => hc h.2.2.2) w, fun w => rdiv3_by a b _ _ _ _ ha hb (Lib.hid M) (Lib.hid fun w => r3held_no _ (by unfold Pl.fx at hc; exact hc) w) w⟩
  · exact ⟨0, false, fun w => fdiv_no a b (fun h => h1.elim (fun e => h.2.2.1 e) (fun e => e (fx_i64 h.2.2.2))) w, fun w => rdiv3_by a b _ _ _ _ ha hb (Lib.hid M) (Lib.hid fun w => r3held_false _ w) w⟩

theorem rcut3_any (a : Int) (w : World) : Calls Try.prog 100 #[.int .i64 a] w fun e w' => e = .returned (.int .i64 (Pl.clamp a)) ∧ w = w' := by
  have hc : (a < -1073741823 ∧ Hid (Pl.clamp a = -1073741823)) ∨ (1073741823 < a ∧ Hid (Pl.clamp a = 1073741823)) ∨ (-1073741823 ≤ a ∧ a ≤ 1073741823 ∧ Hid (Pl.clamp a = a)) := by
    by_cases h1 : a < -1073741823
    · exact .inl ⟨h1, Lib.hid (by unfold Pl.clamp; rw [if_pos h1])⟩
    · by_cases h2 : 1073741823 < a
      · exact .inr (.inl ⟨h2, Lib.hid (by unfold Pl.clamp; rw [if_neg h1, if_pos h2])⟩)
      · exact .inr (.inr ⟨by omega, by omega, Lib.hid (by unfold Pl.clamp; rw [if_neg h1, if_neg h2])⟩)
  rcases hc with ⟨h1, e⟩ | ⟨h1, e⟩ | ⟨h1, h2, e⟩
  all_goals
    go_enter Try.func100, Try.ntmps100
    go_wp2
    go_ret
    exact ⟨ret_int (by have := e.out; omega), rfl⟩
theorem rwhole3_any (a : Int) (w : World) : Calls Try.prog 68 #[.int .i64 a] w fun e w' => e = .returned (.int .i64 (Pl.fwhole a)) ∧ w = w' := by
  have hb := Pl.clamp_bd a
  go_enter Try.func68, Try.ntmps68
  go_wp2_with fail
  refine (rcut3_any a _).mono ?_
  rintro e w1 ⟨rfl, rfl⟩
  go_wp2
  go_ret
  exact ⟨rfl, rfl⟩
theorem rfloor3_any (a : Int) (w : World) : Calls Try.prog 64 #[.int .i64 a] w fun e w' => e = .returned (.int .i64 (Pl.ffloor a)) ∧ w = w' := by
  have hb := Pl.clamp_bd a
  have C := fun w => rwhole3_any a w
  unfold Pl.fwhole at C
  have C := Lib.hid C
  unfold Pl.ffloor
  go_enter Try.func64, Try.ntmps64
  go_wp2_with fail
  refine (C.out _).mono ?_
  rintro e w1 ⟨rfl, rfl⟩
  go_wp2
  go_ret
  exact ⟨rfl, rfl⟩
theorem Pl.clamp_neg_clamp (a : Int) : Pl.clamp (-Pl.clamp a) = -Pl.clamp a := by have := Pl.clamp_bd a; exact Pl.clamp_fx (by unfold Pl.fx; omega)
theorem rceil3_any (a : Int) (w : World) : Calls Try.prog 65 #[.int .i64 a] w fun e w' => e = .returned (.int .i64 (Pl.fceil a)) ∧ w = w' := by
  have hb := Pl.clamp_bd a
  have C := fun w => rfloor3_any (-Pl.clamp a) w
  unfold Pl.ffloor at C
  rw [Pl.clamp_neg_clamp] at C
  have C := Lib.hid C
  unfold Pl.fceil
  go_enter Try.func65, Try.ntmps65
  go_wp2_with fail
  refine (rcut3_any a _).mono ?_
  rintro e w1 ⟨rfl, rfl⟩
  go_wp2_with fail
  refine (C.out _).mono ?_
  rintro e w1 ⟨rfl, rfl⟩
  go_wp2
  go_ret
  exact ⟨rfl, rfl⟩
theorem rtrunc3_any (a : Int) (w : World) : Calls Try.prog 67 #[.int .i64 a] w fun e w' => e = .returned (.int .i64 (Pl.ftrunc a)) ∧ w = w' := by
  by_cases h : a < 0
  · have ht := Lib.hid (show Pl.ftrunc a = Pl.fceil a by unfold Pl.ftrunc; rw [if_pos h])
    go_enter Try.func67, Try.ntmps67
    go_wp2_with fail
    refine (rceil3_any a _).mono ?_
    rintro e w1 ⟨rfl, rfl⟩
    go_wp2
    go_ret
    exact ⟨ret_int ht.out.symm, rfl⟩
  · have ht := Lib.hid (show Pl.ftrunc a = Pl.ffloor a by unfold Pl.ftrunc; rw [if_neg h])
    go_enter Try.func67, Try.ntmps67
    go_wp2_with fail
    refine (rfloor3_any a _).mono ?_
    rintro e w1 ⟨rfl, rfl⟩
    go_wp2
    go_ret
    exact ⟨ret_int ht.out.symm, rfl⟩
theorem rround3_any (a : Int) (w : World) : Calls Try.prog 66 #[.int .i64 a] w fun e w' => e = .returned (.int .i64 (Pl.fround a)) ∧ w = w' := by
  have hb := Pl.clamp_bd a
  have he : Pl.ffloor a = Pl.clamp a / 65536 * 65536 := rfl
  have hw : Pl.fwhole a = Pl.clamp a / 65536 := rfl
  have hr : Pl.fround a = if 32768 < Pl.clamp a - Pl.ffloor a ∨ (Pl.clamp a - Pl.ffloor a = 32768 ∧ Pl.fwhole a % 2 = 1) then Pl.ffloor a + 65536 else Pl.ffloor a := rfl
  obtain ⟨c, hc⟩ : ∃ c, Pl.clamp a = c := ⟨_, rfl⟩
  obtain ⟨n, hn⟩ : ∃ n, Pl.fwhole a = n := ⟨_, rfl⟩
  obtain ⟨o, ho⟩ : ∃ o, c - n * 65536 = o := ⟨_, rfl⟩
  have W := fun w => rwhole3_any a w
  have K := fun w => rcut3_any a w
  rw [hn] at W hr hw
  rw [hc] at K hr he hb hw
  have W := Lib.hid W
  have K := Lib.hid K
  have nb : -16384 ≤ n ∧ n ≤ 16383 := by omega
  have ob : 0 ≤ o ∧ o ≤ 65535 := by omega
  have hcase : (32768 < o ∧ Hid (Pl.fround a = (n + 1) * 65536)) ∨ (o = 32768 ∧ n % 2 = 1 ∧ Hid (Pl.fround a = (n + 1) * 65536)) ∨ (o = 32768 ∧ n % 2 = 0 ∧ Hid (Pl.fround a = n * 65536)) ∨ (o < 32768 ∧ Hid (Pl.fround a = n * 65536)) := by
    by_cases c1 : 32768 < o
    · exact .inl ⟨c1, Lib.hid (by rw [hr, if_pos (by omega)]; omega)⟩
    · by_cases c2 : o = 32768
      · by_cases c3 : n % 2 = 1
        · exact .inr (.inl ⟨c2, c3, Lib.hid (by rw [hr, if_pos (by omega)]; omega)⟩)
        · exact .inr (.inr (.inl ⟨c2, by omega, Lib.hid (by rw [hr, if_neg (by omega)]; omega)⟩))
      · exact .inr (.inr (.inr ⟨by omega, Lib.hid (by rw [hr, if_neg (by omega)]; omega)⟩))
  obtain ⟨nb0, nb1⟩ := nb
  obtain ⟨ob0, ob1⟩ := ob
  clear hr hw he hn hc
  rcases hcase with ⟨h1, h4⟩ | ⟨h1, h2, h4⟩ | ⟨h1, h2, h4⟩ | ⟨h1, h4⟩
  · go_enter Try.func66, Try.ntmps66
    go_wp2_with fail
    refine (W.out _).mono ?_
    rintro e w1 ⟨rfl, rfl⟩
    go_wp2_with fail
    refine (K.out _).mono ?_
    rintro e w1 ⟨rfl, rfl⟩
    go_wp2_with fail
    go_ret
    exact ⟨ret_int h4.out.symm, rfl⟩
  · subst h1
    have e2 : (n % 2 == 1) = true := beq_iff_eq.2 h2
    go_enter Try.func66, Try.ntmps66
    go_wp2_with fail
    refine (W.out _).mono ?_
    rintro e w1 ⟨rfl, rfl⟩
    go_wp2_with fail
    refine (K.out _).mono ?_
    rintro e w1 ⟨rfl, rfl⟩
    go_wp2_with fail
    go_ret
    exact ⟨ret_int h4.out.symm, rfl⟩
  · subst h1
    have e2 : (n % 2 == 1) = false := beq_eq_false_iff_ne.2 (by omega)
    go_enter Try.func66, Try.ntmps66
    go_wp2_with fail
    refine (W.out _).mono ?_
    rintro e w1 ⟨rfl, rfl⟩
    go_wp2_with fail
    refine (K.out _).mono ?_
    rintro e w1 ⟨rfl, rfl⟩
    go_wp2_with fail
    go_ret
    exact ⟨ret_int h4.out.symm, rfl⟩
  · have e1 : (o == 32768) = false := beq_eq_false_iff_ne.2 (by omega)
    go_enter Try.func66, Try.ntmps66
    go_wp2_with fail
    refine (W.out _).mono ?_
    rintro e w1 ⟨rfl, rfl⟩
    go_wp2_with fail
    refine (K.out _).mono ?_
    rintro e w1 ⟨rfl, rfl⟩
    go_wp2_with fail
    go_ret
    exact ⟨ret_int h4.out.symm, rfl⟩
theorem rsqrt3_ok (a : Int) (h : 0 ≤ a ∧ a ≤ 1073741823) (w : World) : Calls Try.prog 63 #[.int .i64 a] w fun e w' => e = .returned (.tuple #[.int .i64 (Pl.root (a * 65536)), .bool true]) ∧ w = w' := by
  have hr := Pl.root_spec (a * 65536) (by omega) (by omega)
  have hb : 0 ≤ Pl.root (a * 65536) ∧ Pl.root (a * 65536) ≤ 4294967295 := ⟨hr.1, hr.2.1⟩
  clear hr
  go_enter Try.func63, Try.ntmps63
  go_wp2_with fail
  refine (r3may_yes a (by unfold Pl.fx; omega) _).mono ?_
  rintro e w1 ⟨rfl, rfl⟩
  go_wp2_with fail
  refine (root2_floor (a * 65536) (by omega) _).mono ?_
  rintro e w1 ⟨rfl, rfl⟩
  go_wp2_with fail
  go_ret2
  exact ⟨rfl, rfl⟩
theorem rsqrt3_no (a : Int) (h : ¬ (0 ≤ a ∧ a ≤ 1073741823)) (w : World) : Calls Try.prog 63 #[.int .i64 a] w fun e w' => e = .returned (.tuple #[.int .i64 0, .bool false]) ∧ w = w' := by
  by_cases h0 : a < 0
  · go_enter Try.func63, Try.ntmps63
    go_wp2_with fail
    go_ret2
    exact ⟨rfl, rfl⟩
  · have A := Lib.hid (r3may_no a (by unfold Pl.fx; omega))
    have h1 : 0 ≤ a := by omega
    clear h
    go_enter Try.func63, Try.ntmps63
    go_wp2_with fail
    refine (A.out _).mono ?_
    rintro e w1 ⟨rfl, rfl⟩
    go_wp2_with fail
    go_ret2
    exact ⟨rfl, rfl⟩
theorem sqrt2_ex (a : Int) : ∃ (v : Int) (ok : Bool), (∀ w, Calls Try.prog 44 #[.int .i64 a] w fun e w' => e = .returned (.tuple #[.int .i64 v, .bool ok]) ∧ w = w') ∧ (∀ w, Calls Try.prog 63 #[.int .i64 a] w fun e w' => e = .returned (.tuple #[.int .i64 v, .bool ok]) ∧ w = w') := by
  by_cases h : 0 ≤ a ∧ a ≤ 1073741823
  · exact ⟨_, true, fun w => fsqrt_ok a h w, fun w => rsqrt3_ok a h w⟩
  · exact ⟨0, false, fun w => fsqrt_no a h w, fun w => rsqrt3_no a h w⟩
theorem from2_ex (v : Int) : ∃ (u : Int) (ok : Bool), (∀ w, Calls Try.prog 57 #[.int .i64 v] w fun e w' => e = .returned (.tuple #[.int .i64 u, .bool ok]) ∧ w = w') ∧ (∀ w, Calls Try.prog 58 #[.int .i64 v] w fun e w' => e = .returned (.tuple #[.int .i64 u, .bool ok]) ∧ w = w') := by
  by_cases h : -16383 ≤ v ∧ v ≤ 16383
  · exact ⟨_, true, fun w => ffrom_ok v h w, fun w => r3from_ok v h w⟩
  · exact ⟨0, false, fun w => ffrom_no v h w, fun w => r3from_no v h w⟩
end Go.Proofs.Ytedidjdifobclaa
