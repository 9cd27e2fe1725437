/- The walks of the reference of layer 24: cmpTimes, Sign. -/
import Derived.Test.YtnienpalbfgflaaC1
namespace Go.Proofs.Ytnienpalbfgflaa
set_option linter.unusedVariables false
open Go.RowKit

set_option maxHeartbeats 1000000 in
set_option maxRecDepth 100000 in
theorem cmptimes_any (x n y : Int) (hx : 0 ≤ x ∧ x ≤ 18446744073709551615) (hn : 0 ≤ n ∧ n ≤ 18446744073709551615) (hy : 0 ≤ y) (w : World) :
    Calls Try.prog 59 #[.agg #[.int .u64 0, .int .u64 x], .int .u64 n, wideV y] w fun e w' => e = .returned (.int .i64 (Pl.cmp (x * n) y)) ∧ Grown w w' := by
  have hxn : 0 ≤ x * n := Int.mul_nonneg hx.1 hn.1
  have C1 := Lib.hid (fun Z => times24_any x n hx hn Z)
  have C2 := Lib.hid (fun Z => times24_any 0 n (by omega) hn Z)
  have C3 := Lib.hid (fun Z => cmp24_any (x * n) y hxn hy Z)
  have e0 : (0 : Int) * n = 0 := Int.zero_mul n
  rw [e0] at C2
  obtain ⟨h, hh⟩ : ∃ v, v = x * n / 18446744073709551616 := ⟨_, rfl⟩
  obtain ⟨l, hl⟩ : ∃ v, v = x * n % 18446744073709551616 := ⟨_, rfl⟩
  obtain ⟨yh, hyh⟩ : ∃ v, v = y / 18446744073709551616 := ⟨_, rfl⟩
  obtain ⟨yl, hyl⟩ : ∃ v, v = y % 18446744073709551616 := ⟨_, rfl⟩
  have hb : x * n ≤ 340282366920938463426481119284349108225 := Int.le_trans (Int.mul_le_mul_of_nonneg_right hx.2 hn.1) (by have := Int.mul_le_mul_of_nonneg_left hn.2 (show (0 : Int) ≤ 18446744073709551615 by omega); omega)
  have h0 : 0 ≤ h ∧ h ≤ 18446744073709551615 := by rw [hh]; omega
  have hnh : ¬ h < 0 := by omega
  simp only [wideV, ← hh, ← hl, ← hyh, ← hyl] at C1 C2 C3 ⊢
  rw [show (0 : Int) / 18446744073709551616 = 0 from rfl, show (0 : Int) % 18446744073709551616 = 0 from rfl] at C2
  clear hh hl hyh hyl hxn hb hx hn hy e0
  go_enter Try.func59, Try.ntmps59
  go_wp2_with fail
  refine (C1.out _).mono ?_
  rintro e w1 ⟨rfl, g1⟩
  have G1 := Lib.hid (grown_trans (((Grown.refl w).alloc _ _).alloc _ _) g1)
  have x0 : w1.cell? ⟨w.heap.size, 0, none⟩ = some (.int .u64 0) := grown_cell g1 (by simp [go_sem])
  have y0 : w1.cell? ⟨w.heap.size + 1, 0, none⟩ = some (.int .u64 yh) := grown_cell g1 (by simp [go_sem])
  have y1 : w1.cell? ⟨w.heap.size + 1, 1, none⟩ = some (.int .u64 yl) := grown_cell g1 (by simp [go_sem])
  have X0 := Lib.hid x0
  obtain ⟨p, hp⟩ : ∃ p, p = w.heap.size := ⟨_, rfl⟩
  obtain ⟨q, hq⟩ : ∃ q, q = w.heap.size + 1 := ⟨_, rfl⟩
  rw [← hp] at x0
  rw [← hq] at y0 y1
  rw [← hq, ← hp]
  clear hp hq g1 C1 X0
  have nx := fun (A : Array Value) (t : TypeId) => grown_cell ((Grown.refl w1).alloc A t) x0
  have ny := fun (A : Array Value) (t : TypeId) => grown_cell ((Grown.refl w1).alloc A t) y0
  go_wp2_with fail
  refine (C2.out _).mono ?_
  rintro e w2 ⟨rfl, g2⟩
  have G2 := Lib.hid (grown_trans (G1.out.alloc _ _) g2)
  have z0 : w2.cell? ⟨w1.heap.size, 0, none⟩ = some (.int .u64 h) := grown_cell g2 (by simp [go_sem])
  have z1 : w2.cell? ⟨w1.heap.size, 1, none⟩ = some (.int .u64 l) := grown_cell g2 (by simp [go_sem])
  have y2 : w2.cell? ⟨q, 0, none⟩ = some (.int .u64 yh) := grown_cell g2 (grown_cell ((Grown.refl _).alloc _ _) y0)
  have y3 : w2.cell? ⟨q, 1, none⟩ = some (.int .u64 yl) := grown_cell g2 (grown_cell ((Grown.refl _).alloc _ _) y1)
  obtain ⟨r, hr⟩ : ∃ r, r = w1.heap.size := ⟨_, rfl⟩
  rw [← hr] at z0 z1
  rw [← hr]
  clear hr x0 y0 y1 g2 C2 G1 nx ny
  have nz := fun (A : Array Value) (t : TypeId) => grown_cell ((Grown.refl w2).alloc A t) z0
  have nz1 := fun (A : Array Value) (t : TypeId) => grown_cell ((Grown.refl w2).alloc A t) z1
  have ny := fun (A : Array Value) (t : TypeId) => grown_cell ((Grown.refl w2).alloc A t) y2
  have ny3 := fun (A : Array Value) (t : TypeId) => grown_cell ((Grown.refl w2).alloc A t) y3
  go_wp2_with fail
  refine (C3.out _).mono ?_
  rintro e w3 ⟨rfl, g3⟩
  have G3 := Lib.hid (grown_trans (G2.out.alloc _ _) g3)
  clear g3 G2 z0 z1 y2 y3 nz ny nz1 ny3
  go_wp2_with fail
  go_ret
  exact ⟨rfl, G3.out⟩
theorem Pl.cmp_sg (x y : Int) : Pl.cmp x y = Pl.sg (x - y) := by
  unfold Pl.cmp Pl.sg
  (repeat' split) <;> omega
set_option maxHeartbeats 1000000 in
set_option maxRecDepth 100000 in
theorem sign24_d0n (p q : Int) (h : p < 0) (w : World) : Calls Try.prog 51 #[.int .i64 p, .int .i64 q, .int .i64 0] w fun e w' => e = .returned (.int .i64 (-1)) ∧ Grown w w' := by
  have S1 := Lib.hid (fun Z => sign24_any p Z)
  rw [show Pl.sg p = -1 by unfold Pl.sg; (repeat' split) <;> omega] at S1
  have S2 := Lib.hid (fun Z => sign24_any q Z)
  have S3 := Lib.hid (fun Z => sign24_any (-1) Z)
  rw [show Pl.sg (-1) = (-1) from rfl] at S3
  have bq := Pl.sg_bd q
  obtain ⟨b, hb⟩ : ∃ b, b = Pl.sg q := ⟨_, rfl⟩
  rw [← hb] at S2 bq
  clear hb h
  go_enter Try.func51, Try.ntmps51
  go_wp2_with fail
  refine (S1.out _).mono ?_
  rintro e w1 ⟨rfl, rfl⟩
  go_wp2_with fail
  refine (S2.out _).mono ?_
  rintro e w1 ⟨rfl, rfl⟩
  go_wp2_with fail
  refine (S3.out _).mono ?_
  rintro e w1 ⟨rfl, rfl⟩
  go_wp2_with fail
  go_ret
  exact ⟨rfl, Grown.refl _⟩
set_option maxHeartbeats 1000000 in
set_option maxRecDepth 100000 in
theorem sign24_d0z (p q : Int) (h : p = 0) (w : World) : Calls Try.prog 51 #[.int .i64 p, .int .i64 q, .int .i64 0] w fun e w' => e = .returned (.int .i64 0) ∧ Grown w w' := by
  have S1 := Lib.hid (fun Z => sign24_any p Z)
  rw [show Pl.sg p = 0 by unfold Pl.sg; (repeat' split) <;> omega] at S1
  have S2 := Lib.hid (fun Z => sign24_any q Z)
  have S3 := Lib.hid (fun Z => sign24_any 0 Z)
  rw [show Pl.sg 0 = 0 from rfl] at S3
  have bq := Pl.sg_bd q
  obtain ⟨b, hb⟩ : ∃ b, b = Pl.sg q := ⟨_, rfl⟩
  rw [← hb] at S2 bq
  clear hb h
  go_enter Try.func51, Try.ntmps51
  go_wp2_with fail
  refine (S1.out _).mono ?_
  rintro e w1 ⟨rfl, rfl⟩
  go_wp2_with fail
  refine (S2.out _).mono ?_
  rintro e w1 ⟨rfl, rfl⟩
  go_wp2_with fail
  refine (S3.out _).mono ?_
  rintro e w1 ⟨rfl, rfl⟩
  go_wp2_with fail
  go_ret
  exact ⟨rfl, Grown.refl _⟩
set_option maxHeartbeats 1000000 in
set_option maxRecDepth 100000 in
theorem sign24_d0p (p q : Int) (h : 0 < p) (w : World) : Calls Try.prog 51 #[.int .i64 p, .int .i64 q, .int .i64 0] w fun e w' => e = .returned (.int .i64 1) ∧ Grown w w' := by
  have S1 := Lib.hid (fun Z => sign24_any p Z)
  rw [show Pl.sg p = 1 by unfold Pl.sg; (repeat' split) <;> omega] at S1
  have S2 := Lib.hid (fun Z => sign24_any q Z)
  have S3 := Lib.hid (fun Z => sign24_any 1 Z)
  rw [show Pl.sg 1 = 1 from rfl] at S3
  have bq := Pl.sg_bd q
  obtain ⟨b, hb⟩ : ∃ b, b = Pl.sg q := ⟨_, rfl⟩
  rw [← hb] at S2 bq
  clear hb h
  go_enter Try.func51, Try.ntmps51
  go_wp2_with fail
  refine (S1.out _).mono ?_
  rintro e w1 ⟨rfl, rfl⟩
  go_wp2_with fail
  refine (S2.out _).mono ?_
  rintro e w1 ⟨rfl, rfl⟩
  go_wp2_with fail
  refine (S3.out _).mono ?_
  rintro e w1 ⟨rfl, rfl⟩
  go_wp2_with fail
  go_ret
  exact ⟨rfl, Grown.refl _⟩
set_option maxHeartbeats 1000000 in
set_option maxRecDepth 100000 in
theorem sign24_nn (p q d : Int) (hp : p < 0) (hq : q < 0) (hd : 0 < d) (w : World) : Calls Try.prog 51 #[.int .i64 p, .int .i64 q, .int .i64 d] w fun e w' => e = .returned (.int .i64 ((-1))) ∧ Grown w w' := by
  have S1 := Lib.hid (fun Z => sign24_any p Z)
  rw [show Pl.sg p = (-1) by unfold Pl.sg; (repeat' split) <;> omega] at S1
  have S2 := Lib.hid (fun Z => sign24_any q Z)
  rw [show Pl.sg q = (-1) by unfold Pl.sg; (repeat' split) <;> omega] at S2
  have d0 : (d == 0) = false := beq_eq_false_iff_ne.2 (by omega)
  have S3 := Lib.hid (fun Z => sign24_any (-2) Z)
  rw [show Pl.sg (-2) = (-1) from rfl] at S3
  clear hp hq hd
  go_enter Try.func51, Try.ntmps51
  go_wp2_with fail
  refine (S1.out _).mono ?_
  rintro e w1 ⟨rfl, rfl⟩
  go_wp2_with fail
  refine (S2.out _).mono ?_
  rintro e w1 ⟨rfl, rfl⟩
  go_wp2_with fail
  refine (S3.out _).mono ?_
  rintro e w1 ⟨rfl, rfl⟩
  go_wp2_with fail
  go_ret
  exact ⟨rfl, Grown.refl _⟩
set_option maxHeartbeats 1000000 in
set_option maxRecDepth 100000 in
theorem sign24_nz (p q d : Int) (hp : p < 0) (hq : q = 0) (hd : 0 < d) (w : World) : Calls Try.prog 51 #[.int .i64 p, .int .i64 q, .int .i64 d] w fun e w' => e = .returned (.int .i64 ((-1))) ∧ Grown w w' := by
  have S1 := Lib.hid (fun Z => sign24_any p Z)
  rw [show Pl.sg p = (-1) by unfold Pl.sg; (repeat' split) <;> omega] at S1
  have S2 := Lib.hid (fun Z => sign24_any q Z)
  rw [show Pl.sg q = 0 by unfold Pl.sg; (repeat' split) <;> omega] at S2
  have d0 : (d == 0) = false := beq_eq_false_iff_ne.2 (by omega)
  have S3 := Lib.hid (fun Z => sign24_any (-1) Z)
  rw [show Pl.sg (-1) = (-1) from rfl] at S3
  clear hp hq hd
  go_enter Try.func51, Try.ntmps51
  go_wp2_with fail
  refine (S1.out _).mono ?_
  rintro e w1 ⟨rfl, rfl⟩
  go_wp2_with fail
  refine (S2.out _).mono ?_
  rintro e w1 ⟨rfl, rfl⟩
  go_wp2_with fail
  refine (S3.out _).mono ?_
  rintro e w1 ⟨rfl, rfl⟩
  go_wp2_with fail
  go_ret
  exact ⟨rfl, Grown.refl _⟩
set_option maxHeartbeats 1000000 in
set_option maxRecDepth 100000 in
theorem sign24_np (p q d : Int) (hp : p < 0) (hq : 0 < q) (hd : 0 < d) (bp : -4611686018427387904 ≤ p ∧ p ≤ 4611686018427387904) (bq : -2147483648 ≤ q ∧ q ≤ 2147483648) (bd : d ≤ 2147483648) (w : World) : Calls Try.prog 51 #[.int .i64 p, .int .i64 q, .int .i64 d] w fun e w' => e = .returned (.int .i64 (Pl.cmp (q * q * d) (p * p))) ∧ Grown w w' := by
  have S1 := Lib.hid (fun Z => sign24_any p Z)
  rw [show Pl.sg p = (-1) by unfold Pl.sg; (repeat' split) <;> omega] at S1
  have S2 := Lib.hid (fun Z => sign24_any q Z)
  rw [show Pl.sg q = 1 by unfold Pl.sg; (repeat' split) <;> omega] at S2
  have d0 : (d == 0) = false := beq_eq_false_iff_ne.2 (by omega)
  have T1 := Lib.hid (fun Z => abs24_any q (by omega) Z)
  have T2 := Lib.hid (fun Z => abs24_any p (by omega) Z)
  have mq := Pl.mag_nn q
  have mp := Pl.mag_nn p
  have mq2 : Pl.mag q ≤ 2147483648 := by unfold Pl.mag; split <;> omega
  have mp2 : Pl.mag p ≤ 4611686018427387904 := by unfold Pl.mag; split <;> omega
  have eq : Pl.mag q * Pl.mag q = q * q := by unfold Pl.mag; split <;> grind
  have ep : Pl.mag p * Pl.mag p = p * p := by unfold Pl.mag; split <;> grind
  have T3 := Lib.hid (fun Z => times24_any (Pl.mag q) (Pl.mag q) (by omega) (by omega) Z)
  have T4 := Lib.hid (fun Z => times24_any (Pl.mag p) (Pl.mag p) (by omega) (by omega) Z)
  rw [eq] at T3
  rw [ep] at T4
  have qq : 0 ≤ q * q ∧ q * q ≤ 4611686018427387904 := by
    have := Int.mul_le_mul mq2 mq2 mq (by omega)
    have := Int.mul_nonneg mq mq
    omega
  have pp : 0 ≤ p * p := by have := Int.mul_nonneg mp mp; omega
  have T5 := Lib.hid (fun Z => cmptimes_any (q * q) d (p * p) (by omega) (by omega) pp Z)
  simp only [wideV] at T3 T4 T5
  rw [show q * q / 18446744073709551616 = 0 by omega, show q * q % 18446744073709551616 = q * q by omega] at T3
  have cb : -1 ≤ Pl.cmp (q * q * d) (p * p) ∧ Pl.cmp (q * q * d) (p * p) ≤ 1 := by rw [Pl.cmp_sg]; exact Pl.sg_bd _
  obtain ⟨c, hc⟩ : ∃ c, c = Pl.cmp (q * q * d) (p * p) := ⟨_, rfl⟩
  rw [← hc] at T5 cb ⊢
  obtain ⟨u, hu⟩ : ∃ u, u = q * q := ⟨_, rfl⟩
  obtain ⟨v1, hv1⟩ : ∃ u, u = p * p / 18446744073709551616 := ⟨_, rfl⟩
  obtain ⟨v2, hv2⟩ : ∃ u, u = p * p % 18446744073709551616 := ⟨_, rfl⟩
  rw [← hu] at T3 T5
  rw [← hv1, ← hv2] at T4 T5
  obtain ⟨m1, hm1⟩ : ∃ u, u = Pl.mag q := ⟨_, rfl⟩
  obtain ⟨m2, hm2⟩ : ∃ u, u = Pl.mag p := ⟨_, rfl⟩
  rw [← hm1] at T1 T3
  rw [← hm2] at T2 T4
  clear hp hq hc hu hv1 hv2 hm1 hm2 mq mp mq2 mp2 eq ep qq pp bp bq
  have bd' : 0 ≤ d ∧ d ≤ 2147483648 := by omega
  clear hd bd
  go_enter Try.func51, Try.ntmps51
  go_wp2_with fail
  refine (S1.out _).mono ?_
  rintro e w1 ⟨rfl, rfl⟩
  go_wp2_with fail
  refine (S2.out _).mono ?_
  rintro e w1 ⟨rfl, rfl⟩
  go_wp2_with fail
  refine (T1.out _).mono ?_
  rintro e w1 ⟨rfl, rfl⟩
  go_wp2_with fail
  refine (T1.out _).mono ?_
  rintro e w1 ⟨rfl, rfl⟩
  go_wp2_with fail
  refine (T3.out _).mono ?_
  rintro e w2 ⟨rfl, g2⟩
  have G2 := Lib.hid (g2.alloc #[.int .u64 0, .int .u64 u] 81)
  have x0 : (w2.alloc (.cells #[.int .u64 0, .int .u64 u] 81)).cell? ⟨w2.heap.size, 0, none⟩ = some (.int .u64 0) := by simp [go_sem]
  have x1 : (w2.alloc (.cells #[.int .u64 0, .int .u64 u] 81)).cell? ⟨w2.heap.size, 1, none⟩ = some (.int .u64 u) := by simp [go_sem]
  obtain ⟨r, hr⟩ : ∃ r, r = w2.heap.size := ⟨_, rfl⟩
  obtain ⟨Z2, hZ2⟩ : ∃ Z, Z = w2.alloc (.cells #[.int .u64 0, .int .u64 u] 81) := ⟨_, rfl⟩
  rw [← hZ2] at x0 x1 G2
  rw [← hr] at x0 x1
  clear g2
  go_wp2_with fail
  rw [← hZ2, ← hr]
  clear hZ2 hr
  refine (T2.out _).mono ?_
  rintro e w1 ⟨rfl, rfl⟩
  go_wp2_with fail
  refine (T2.out _).mono ?_
  rintro e w1 ⟨rfl, rfl⟩
  go_wp2_with fail
  refine (T4.out _).mono ?_
  rintro e w3 ⟨rfl, g3⟩
  have G3 := Lib.hid (grown_trans G2.out g3)
  have y0 : w3.cell? ⟨r, 0, none⟩ = some (.int .u64 0) := grown_cell g3 x0
  have y1 : w3.cell? ⟨r, 1, none⟩ = some (.int .u64 u) := grown_cell g3 x1
  clear g3 x0 x1 G2
  have ny := fun (A : Array Value) (t : TypeId) => grown_cell ((Grown.refl w3).alloc A t) y0
  have ny1 := fun (A : Array Value) (t : TypeId) => grown_cell ((Grown.refl w3).alloc A t) y1
  go_wp2_with fail
  refine (T5.out _).mono ?_
  rintro e w4 ⟨rfl, g4⟩
  have G4 := Lib.hid (grown_trans (G3.out.alloc _ _) g4)
  clear g4 G3 y0 y1 ny ny1
  go_wp2_with fail
  go_ret
  exact ⟨rfl, G4.out⟩
set_option maxHeartbeats 1000000 in
set_option maxRecDepth 100000 in
theorem sign24_zn (p q d : Int) (hp : p = 0) (hq : q < 0) (hd : 0 < d) (w : World) : Calls Try.prog 51 #[.int .i64 p, .int .i64 q, .int .i64 d] w fun e w' => e = .returned (.int .i64 ((-1))) ∧ Grown w w' := by
  have S1 := Lib.hid (fun Z => sign24_any p Z)
  rw [show Pl.sg p = 0 by unfold Pl.sg; (repeat' split) <;> omega] at S1
  have S2 := Lib.hid (fun Z => sign24_any q Z)
  rw [show Pl.sg q = (-1) by unfold Pl.sg; (repeat' split) <;> omega] at S2
  have d0 : (d == 0) = false := beq_eq_false_iff_ne.2 (by omega)
  have S3 := Lib.hid (fun Z => sign24_any (-1) Z)
  rw [show Pl.sg (-1) = (-1) from rfl] at S3
  clear hp hq hd
  go_enter Try.func51, Try.ntmps51
  go_wp2_with fail
  refine (S1.out _).mono ?_
  rintro e w1 ⟨rfl, rfl⟩
  go_wp2_with fail
  refine (S2.out _).mono ?_
  rintro e w1 ⟨rfl, rfl⟩
  go_wp2_with fail
  refine (S3.out _).mono ?_
  rintro e w1 ⟨rfl, rfl⟩
  go_wp2_with fail
  go_ret
  exact ⟨rfl, Grown.refl _⟩
set_option maxHeartbeats 1000000 in
set_option maxRecDepth 100000 in
theorem sign24_zz (p q d : Int) (hp : p = 0) (hq : q = 0) (hd : 0 < d) (w : World) : Calls Try.prog 51 #[.int .i64 p, .int .i64 q, .int .i64 d] w fun e w' => e = .returned (.int .i64 (0)) ∧ Grown w w' := by
  have S1 := Lib.hid (fun Z => sign24_any p Z)
  rw [show Pl.sg p = 0 by unfold Pl.sg; (repeat' split) <;> omega] at S1
  have S2 := Lib.hid (fun Z => sign24_any q Z)
  rw [show Pl.sg q = 0 by unfold Pl.sg; (repeat' split) <;> omega] at S2
  have d0 : (d == 0) = false := beq_eq_false_iff_ne.2 (by omega)
  have S3 := Lib.hid (fun Z => sign24_any 0 Z)
  rw [show Pl.sg 0 = 0 from rfl] at S3
  clear hp hq hd
  go_enter Try.func51, Try.ntmps51
  go_wp2_with fail
  refine (S1.out _).mono ?_
  rintro e w1 ⟨rfl, rfl⟩
  go_wp2_with fail
  refine (S2.out _).mono ?_
  rintro e w1 ⟨rfl, rfl⟩
  go_wp2_with fail
  refine (S3.out _).mono ?_
  rintro e w1 ⟨rfl, rfl⟩
  go_wp2_with fail
  go_ret
  exact ⟨rfl, Grown.refl _⟩
set_option maxHeartbeats 1000000 in
set_option maxRecDepth 100000 in
theorem sign24_zp (p q d : Int) (hp : p = 0) (hq : 0 < q) (hd : 0 < d) (w : World) : Calls Try.prog 51 #[.int .i64 p, .int .i64 q, .int .i64 d] w fun e w' => e = .returned (.int .i64 (1)) ∧ Grown w w' := by
  have S1 := Lib.hid (fun Z => sign24_any p Z)
  rw [show Pl.sg p = 0 by unfold Pl.sg; (repeat' split) <;> omega] at S1
  have S2 := Lib.hid (fun Z => sign24_any q Z)
  rw [show Pl.sg q = 1 by unfold Pl.sg; (repeat' split) <;> omega] at S2
  have d0 : (d == 0) = false := beq_eq_false_iff_ne.2 (by omega)
  have S3 := Lib.hid (fun Z => sign24_any 1 Z)
  rw [show Pl.sg 1 = 1 from rfl] at S3
  clear hp hq hd
  go_enter Try.func51, Try.ntmps51
  go_wp2_with fail
  refine (S1.out _).mono ?_
  rintro e w1 ⟨rfl, rfl⟩
  go_wp2_with fail
  refine (S2.out _).mono ?_
  rintro e w1 ⟨rfl, rfl⟩
  go_wp2_with fail
  refine (S3.out _).mono ?_
  rintro e w1 ⟨rfl, rfl⟩
  go_wp2_with fail
  go_ret
  exact ⟨rfl, Grown.refl _⟩
set_option maxHeartbeats 1000000 in
set_option maxRecDepth 100000 in
theorem sign24_pn (p q d : Int) (hp : 0 < p) (hq : q < 0) (hd : 0 < d) (bp : -4611686018427387904 ≤ p ∧ p ≤ 4611686018427387904) (bq : -2147483648 ≤ q ∧ q ≤ 2147483648) (bd : d ≤ 2147483648) (w : World) : Calls Try.prog 51 #[.int .i64 p, .int .i64 q, .int .i64 d] w fun e w' => e = .returned (.int .i64 (-Pl.cmp (q * q * d) (p * p))) ∧ Grown w w' := by
  have S1 := Lib.hid (fun Z => sign24_any p Z)
  rw [show Pl.sg p = 1 by unfold Pl.sg; (repeat' split) <;> omega] at S1
  have S2 := Lib.hid (fun Z => sign24_any q Z)
  rw [show Pl.sg q = (-1) by unfold Pl.sg; (repeat' split) <;> omega] at S2
  have d0 : (d == 0) = false := beq_eq_false_iff_ne.2 (by omega)
  have T1 := Lib.hid (fun Z => abs24_any q (by omega) Z)
  have T2 := Lib.hid (fun Z => abs24_any p (by omega) Z)
  have mq := Pl.mag_nn q
  have mp := Pl.mag_nn p
  have mq2 : Pl.mag q ≤ 2147483648 := by unfold Pl.mag; split <;> omega
  have mp2 : Pl.mag p ≤ 4611686018427387904 := by unfold Pl.mag; split <;> omega
  have eq : Pl.mag q * Pl.mag q = q * q := by unfold Pl.mag; split <;> grind
  have ep : Pl.mag p * Pl.mag p = p * p := by unfold Pl.mag; split <;> grind
  have T3 := Lib.hid (fun Z => times24_any (Pl.mag q) (Pl.mag q) (by omega) (by omega) Z)
  have T4 := Lib.hid (fun Z => times24_any (Pl.mag p) (Pl.mag p) (by omega) (by omega) Z)
  rw [eq] at T3
  rw [ep] at T4
  have qq : 0 ≤ q * q ∧ q * q ≤ 4611686018427387904 := by
    have := Int.mul_le_mul mq2 mq2 mq (by omega)
    have := Int.mul_nonneg mq mq
    omega
  have pp : 0 ≤ p * p := by have := Int.mul_nonneg mp mp; omega
  have T5 := Lib.hid (fun Z => cmptimes_any (q * q) d (p * p) (by omega) (by omega) pp Z)
  simp only [wideV] at T3 T4 T5
  rw [show q * q / 18446744073709551616 = 0 by omega, show q * q % 18446744073709551616 = q * q by omega] at T3
  have cb : -1 ≤ Pl.cmp (q * q * d) (p * p) ∧ Pl.cmp (q * q * d) (p * p) ≤ 1 := by rw [Pl.cmp_sg]; exact Pl.sg_bd _
  obtain ⟨c, hc⟩ : ∃ c, c = Pl.cmp (q * q * d) (p * p) := ⟨_, rfl⟩
  rw [← hc] at T5 cb ⊢
  obtain ⟨u, hu⟩ : ∃ u, u = q * q := ⟨_, rfl⟩
  obtain ⟨v1, hv1⟩ : ∃ u, u = p * p / 18446744073709551616 := ⟨_, rfl⟩
  obtain ⟨v2, hv2⟩ : ∃ u, u = p * p % 18446744073709551616 := ⟨_, rfl⟩
  rw [← hu] at T3 T5
  rw [← hv1, ← hv2] at T4 T5
  obtain ⟨m1, hm1⟩ : ∃ u, u = Pl.mag q := ⟨_, rfl⟩
  obtain ⟨m2, hm2⟩ : ∃ u, u = Pl.mag p := ⟨_, rfl⟩
  rw [← hm1] at T1 T3
  rw [← hm2] at T2 T4
  clear hp hq hc hu hv1 hv2 hm1 hm2 mq mp mq2 mp2 eq ep qq pp bp bq
  have bd' : 0 ≤ d ∧ d ≤ 2147483648 := by omega
  clear hd bd
  go_enter Try.func51, Try.ntmps51
  go_wp2_with fail
  refine (S1.out _).mono ?_
  rintro e w1 ⟨rfl, rfl⟩
  go_wp2_with fail
  refine (S2.out _).mono ?_
  rintro e w1 ⟨rfl, rfl⟩
  go_wp2_with fail
  refine (T1.out _).mono ?_
  rintro e w1 ⟨rfl, rfl⟩
  go_wp2_with fail
  refine (T1.out _).mono ?_
  rintro e w1 ⟨rfl, rfl⟩
  go_wp2_with fail
  refine (T3.out _).mono ?_
  rintro e w2 ⟨rfl, g2⟩
  have G2 := Lib.hid (g2.alloc #[.int .u64 0, .int .u64 u] 81)
  have x0 : (w2.alloc (.cells #[.int .u64 0, .int .u64 u] 81)).cell? ⟨w2.heap.size, 0, none⟩ = some (.int .u64 0) := by simp [go_sem]
  have x1 : (w2.alloc (.cells #[.int .u64 0, .int .u64 u] 81)).cell? ⟨w2.heap.size, 1, none⟩ = some (.int .u64 u) := by simp [go_sem]
  obtain ⟨r, hr⟩ : ∃ r, r = w2.heap.size := ⟨_, rfl⟩
  obtain ⟨Z2, hZ2⟩ : ∃ Z, Z = w2.alloc (.cells #[.int .u64 0, .int .u64 u] 81) := ⟨_, rfl⟩
  rw [← hZ2] at x0 x1 G2
  rw [← hr] at x0 x1
  clear g2
  go_wp2_with fail
  rw [← hZ2, ← hr]
  clear hZ2 hr
  refine (T2.out _).mono ?_
  rintro e w1 ⟨rfl, rfl⟩
  go_wp2_with fail
  refine (T2.out _).mono ?_
  rintro e w1 ⟨rfl, rfl⟩
  go_wp2_with fail
  refine (T4.out _).mono ?_
  rintro e w3 ⟨rfl, g3⟩
  have G3 := Lib.hid (grown_trans G2.out g3)
  have y0 : w3.cell? ⟨r, 0, none⟩ = some (.int .u64 0) := grown_cell g3 x0
  have y1 : w3.cell? ⟨r, 1, none⟩ = some (.int .u64 u) := grown_cell g3 x1
  clear g3 x0 x1 G2
  have ny := fun (A : Array Value) (t : TypeId) => grown_cell ((Grown.refl w3).alloc A t) y0
  have ny1 := fun (A : Array Value) (t : TypeId) => grown_cell ((Grown.refl w3).alloc A t) y1
  go_wp2_with fail
  refine (T5.out _).mono ?_
  rintro e w4 ⟨rfl, g4⟩
  have G4 := Lib.hid (grown_trans (G3.out.alloc _ _) g4)
  clear g4 G3 y0 y1 ny ny1
  go_wp2_with fail
  go_ret
  exact ⟨rfl, G4.out⟩
set_option maxHeartbeats 1000000 in
set_option maxRecDepth 100000 in
theorem sign24_pz (p q d : Int) (hp : 0 < p) (hq : q = 0) (hd : 0 < d) (w : World) : Calls Try.prog 51 #[.int .i64 p, .int .i64 q, .int .i64 d] w fun e w' => e = .returned (.int .i64 (1)) ∧ Grown w w' := by
  have S1 := Lib.hid (fun Z => sign24_any p Z)
  rw [show Pl.sg p = 1 by unfold Pl.sg; (repeat' split) <;> omega] at S1
  have S2 := Lib.hid (fun Z => sign24_any q Z)
  rw [show Pl.sg q = 0 by unfold Pl.sg; (repeat' split) <;> omega] at S2
  have d0 : (d == 0) = false := beq_eq_false_iff_ne.2 (by omega)
  have S3 := Lib.hid (fun Z => sign24_any 1 Z)
  rw [show Pl.sg 1 = 1 from rfl] at S3
  clear hp hq hd
  go_enter Try.func51, Try.ntmps51
  go_wp2_with fail
  refine (S1.out _).mono ?_
  rintro e w1 ⟨rfl, rfl⟩
  go_wp2_with fail
  refine (S2.out _).mono ?_
  rintro e w1 ⟨rfl, rfl⟩
  go_wp2_with fail
  refine (S3.out _).mono ?_
  rintro e w1 ⟨rfl, rfl⟩
  go_wp2_with fail
  go_ret
  exact ⟨rfl, Grown.refl _⟩
set_option maxHeartbeats 1000000 in
set_option maxRecDepth 100000 in
theorem sign24_pp (p q d : Int) (hp : 0 < p) (hq : 0 < q) (hd : 0 < d) (w : World) : Calls Try.prog 51 #[.int .i64 p, .int .i64 q, .int .i64 d] w fun e w' => e = .returned (.int .i64 (1)) ∧ Grown w w' := by
  have S1 := Lib.hid (fun Z => sign24_any p Z)
  rw [show Pl.sg p = 1 by unfold Pl.sg; (repeat' split) <;> omega] at S1
  have S2 := Lib.hid (fun Z => sign24_any q Z)
  rw [show Pl.sg q = 1 by unfold Pl.sg; (repeat' split) <;> omega] at S2
  have d0 : (d == 0) = false := beq_eq_false_iff_ne.2 (by omega)
  have S3 := Lib.hid (fun Z => sign24_any 2 Z)
  rw [show Pl.sg 2 = 1 from rfl] at S3
  clear hp hq hd
  go_enter Try.func51, Try.ntmps51
  go_wp2_with fail
  refine (S1.out _).mono ?_
  rintro e w1 ⟨rfl, rfl⟩
  go_wp2_with fail
  refine (S2.out _).mono ?_
  rintro e w1 ⟨rfl, rfl⟩
  go_wp2_with fail
  refine (S3.out _).mono ?_
  rintro e w1 ⟨rfl, rfl⟩
  go_wp2_with fail
  go_ret
  exact ⟨rfl, Grown.refl _⟩
end Go.Proofs.Ytnienpalbfgflaa
