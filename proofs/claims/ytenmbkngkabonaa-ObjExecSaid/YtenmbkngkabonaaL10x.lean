/- The walk of tympanlaw10.ObjExec. -/
import Derived.Test.YtenmbkngkabonaaO12
import Derived.Test.YtenmbkngkabonaaO5
import Derived.Test.YtenmbkngkabonaaO6
import Derived.Deep.RegionHeld3
namespace Go.Proofs.Ytenmbkngkabonaa
set_option linter.unusedVariables false
open Go.RowKit

abbrev Ex4 (w : World) (A B C D : Nat) (k : Int) (x : Bool) (n a l : Int) (s : ByteArray) (k' : Int) (x' : Bool) (n' a' l' : Int) (s' : ByteArray) (y y' : Bool) (W : World) : Prop :=
  ObS w A k x n a l s W ∧ ObS w B k' x' n' a' l' s' W ∧ ObS w C k y n a l s W ∧ ObS w D k' y' n' a' l' s' W
theorem Ex4.grow {w W W' : World} {A B C D : Nat} {k : Int} {x : Bool} {n a l : Int} {s : ByteArray} {k' : Int} {x' : Bool} {n' a' l' : Int} {s' : ByteArray} {y y' : Bool} (h : Ex4 w A B C D k x n a l s k' x' n' a' l' s' y y' W) (g : Grown W W') : Ex4 w A B C D k x n a l s k' x' n' a' l' s' y y' W' :=
  ⟨h.1.grow g, h.2.1.grow g, h.2.2.1.grow g, h.2.2.2.grow g⟩

abbrev Ex24 (w : World) (A B C D : Nat) (k : Int) (x : Bool) (n a l : Int) (s : ByteArray) (k' : Int) (x' : Bool) (n' a' l' : Int) (s' : ByteArray) (y y' : Bool) (W : World) : Prop :=
  W.cell? ⟨A, 0, none⟩ = some (.int .i64 k) ∧ W.cell? ⟨A, 1, none⟩ = some (.bool x) ∧ W.cell? ⟨A, 2, none⟩ = some (.int .i64 n) ∧ W.cell? ⟨A, 3, none⟩ = some (.int .i64 a) ∧ W.cell? ⟨A, 4, none⟩ = some (.int .i64 l) ∧ W.cell? ⟨A, 5, none⟩ = some (.string s) ∧ W.cell? ⟨B, 0, none⟩ = some (.int .i64 k') ∧ W.cell? ⟨B, 1, none⟩ = some (.bool x') ∧ W.cell? ⟨B, 2, none⟩ = some (.int .i64 n') ∧ W.cell? ⟨B, 3, none⟩ = some (.int .i64 a') ∧ W.cell? ⟨B, 4, none⟩ = some (.int .i64 l') ∧ W.cell? ⟨B, 5, none⟩ = some (.string s') ∧ W.cell? ⟨C, 0, none⟩ = some (.int .i64 k) ∧ W.cell? ⟨C, 1, none⟩ = some (.bool y) ∧ W.cell? ⟨C, 2, none⟩ = some (.int .i64 n) ∧ W.cell? ⟨C, 3, none⟩ = some (.int .i64 a) ∧ W.cell? ⟨C, 4, none⟩ = some (.int .i64 l) ∧ W.cell? ⟨C, 5, none⟩ = some (.string s) ∧ W.cell? ⟨D, 0, none⟩ = some (.int .i64 k') ∧ W.cell? ⟨D, 1, none⟩ = some (.bool y') ∧ W.cell? ⟨D, 2, none⟩ = some (.int .i64 n') ∧ W.cell? ⟨D, 3, none⟩ = some (.int .i64 a') ∧ W.cell? ⟨D, 4, none⟩ = some (.int .i64 l') ∧ W.cell? ⟨D, 5, none⟩ = some (.string s') ∧ Grown w W
theorem Ex24.grow {w W W' : World} {A B C D : Nat} {k : Int} {x : Bool} {n a l : Int} {s : ByteArray} {k' : Int} {x' : Bool} {n' a' l' : Int} {s' : ByteArray} {y y' : Bool} (h : Ex24 w A B C D k x n a l s k' x' n' a' l' s' y y' W) (hg : Grown W W') : Ex24 w A B C D k x n a l s k' x' n' a' l' s' y y' W' :=
  ⟨grown_cell hg h.1, grown_cell hg h.2.1, grown_cell hg h.2.2.1, grown_cell hg h.2.2.2.1, grown_cell hg h.2.2.2.2.1, grown_cell hg h.2.2.2.2.2.1, grown_cell hg h.2.2.2.2.2.2.1, grown_cell hg h.2.2.2.2.2.2.2.1, grown_cell hg h.2.2.2.2.2.2.2.2.1, grown_cell hg h.2.2.2.2.2.2.2.2.2.1, grown_cell hg h.2.2.2.2.2.2.2.2.2.2.1, grown_cell hg h.2.2.2.2.2.2.2.2.2.2.2.1, grown_cell hg h.2.2.2.2.2.2.2.2.2.2.2.2.1, grown_cell hg h.2.2.2.2.2.2.2.2.2.2.2.2.2.1, grown_cell hg h.2.2.2.2.2.2.2.2.2.2.2.2.2.2.1, grown_cell hg h.2.2.2.2.2.2.2.2.2.2.2.2.2.2.2.1, grown_cell hg h.2.2.2.2.2.2.2.2.2.2.2.2.2.2.2.2.1, grown_cell hg h.2.2.2.2.2.2.2.2.2.2.2.2.2.2.2.2.2.1, grown_cell hg h.2.2.2.2.2.2.2.2.2.2.2.2.2.2.2.2.2.2.1, grown_cell hg h.2.2.2.2.2.2.2.2.2.2.2.2.2.2.2.2.2.2.2.1, grown_cell hg h.2.2.2.2.2.2.2.2.2.2.2.2.2.2.2.2.2.2.2.2.1, grown_cell hg h.2.2.2.2.2.2.2.2.2.2.2.2.2.2.2.2.2.2.2.2.2.1, grown_cell hg h.2.2.2.2.2.2.2.2.2.2.2.2.2.2.2.2.2.2.2.2.2.2.1, grown_cell hg h.2.2.2.2.2.2.2.2.2.2.2.2.2.2.2.2.2.2.2.2.2.2.2.1, grown_trans h.2.2.2.2.2.2.2.2.2.2.2.2.2.2.2.2.2.2.2.2.2.2.2.2 hg⟩

set_option maxHeartbeats 2000000 in
theorem exec_core (k : Int) (x : Bool) (n a l : Int) (s : ByteArray) (k' : Int) (x' : Bool) (n' a' l' : Int) (s' : ByteArray) (y y' : Bool) (p ok : Bool) (v : Int) (q m : Bool) (t : ByteArray) (r : Bool)
    (LE : Hid (∀ x x' W, Calls Try.prog 33 #[obv k x n a l s, obv k' x' n' a' l' s'] W fun e w' => e = Ending.returned (.tuple #[.bool p, .bool ok]) ∧ Grown W w'))
    (NU : Hid (∀ x W, Calls Try.prog 45 #[obv k x n a l s] W fun e w' => e = Ending.returned (.tuple #[.int .i64 v, .bool q]) ∧ Grown W w'))
    (MA : Hid (∀ x W, Calls Try.prog 35 #[obv k x n a l s] W fun e w' => e = Ending.returned (.bool m) ∧ Grown W w'))
    (TY : Hid (∀ x W, Calls Try.prog 36 #[obv k x n a l s] W fun e w' => e = Ending.returned (.string t) ∧ Grown W w'))
    (SA : Hid (∀ x x' W, Calls Try.prog 34 #[obv k x n a l s, obv k' x' n' a' l' s'] W fun e w' => e = Ending.returned (.bool r) ∧ Grown W w'))
    (SB : Hid (∀ x x' W, Calls Try.prog 34 #[obv k' x' n' a' l' s', obv k x n a l s] W fun e w' => e = Ending.returned (.bool r) ∧ Grown W w'))
    (SS : Hid (∀ x x' W, Calls Try.prog 34 #[obv k x n a l s, obv k x' n a l s] W fun e w' => e = Ending.returned (.bool true) ∧ Grown W w')) (w : World) :
    Calls Try.prog 13 #[obv k x n a l s, obv k' x' n' a' l' s', .bool y, .bool y'] w fun e w' => e = Ending.returned (.bool true) ∧ Grown w w' := by
  go_enter Try.func13, Try.ntmps13
  go_wp2_with fail
  refine (known_yes _).mono ?_
  rintro e w1 ⟨rfl, g1⟩
  have hA : ObS w w.heap.size k x n a l s w1 := ObS.grow (by exact ⟨by simp [go_sem], by simp [go_sem], by simp [go_sem], by simp [go_sem], by simp [go_sem], by simp [go_sem], by (repeat (first | exact Grown.refl _ | assumption | apply Grown.drew | apply Grown.alloc))⟩) g1
  have hB : ObS w (w.heap.size + 1) k' x' n' a' l' s' w1 := ObS.grow (by exact ⟨by simp [go_sem], by simp [go_sem], by simp [go_sem], by simp [go_sem], by simp [go_sem], by simp [go_sem], by (repeat (first | exact Grown.refl _ | assumption | apply Grown.drew | apply Grown.alloc))⟩) g1
  have hA1 := fun o t => hA.grow ((Grown.refl w1).alloc o t)
  have hB1 := fun o t => hB.grow ((Grown.refl w1).alloc o t)
  have hA2 := fun o t o' t' => hA.grow (((Grown.refl w1).alloc o t).alloc o' t')
  have hB2 := fun o t o' t' => hB.grow (((Grown.refl w1).alloc o t).alloc o' t')
  obtain ⟨a0, a1, a2, a3, a4, a5, ga⟩ := id hA
  obtain ⟨b0, b1, b2, b3, b4, b5, gb⟩ := id hB
  have a0i := fun o t => (hA1 o t).1
  have a0j := fun o t o' t' => (hA2 o t o' t').1
  have a1i := fun o t => (hA1 o t).2.1
  have a1j := fun o t o' t' => (hA2 o t o' t').2.1
  have a2i := fun o t => (hA1 o t).2.2.1
  have a2j := fun o t o' t' => (hA2 o t o' t').2.2.1
  have a3i := fun o t => (hA1 o t).2.2.2.1
  have a3j := fun o t o' t' => (hA2 o t o' t').2.2.2.1
  have a4i := fun o t => (hA1 o t).2.2.2.2.1
  have a4j := fun o t o' t' => (hA2 o t o' t').2.2.2.2.1
  have a5i := fun o t => (hA1 o t).2.2.2.2.2.1
  have a5j := fun o t o' t' => (hA2 o t o' t').2.2.2.2.2.1
  have b0i := fun o t => (hB1 o t).1
  have b0j := fun o t o' t' => (hB2 o t o' t').1
  have b1i := fun o t => (hB1 o t).2.1
  have b1j := fun o t o' t' => (hB2 o t o' t').2.1
  have b2i := fun o t => (hB1 o t).2.2.1
  have b2j := fun o t o' t' => (hB2 o t o' t').2.2.1
  have b3i := fun o t => (hB1 o t).2.2.2.1
  have b3j := fun o t o' t' => (hB2 o t o' t').2.2.2.1
  have b4i := fun o t => (hB1 o t).2.2.2.2.1
  have b4j := fun o t o' t' => (hB2 o t o' t').2.2.2.2.1
  have b5i := fun o t => (hB1 o t).2.2.2.2.2.1
  have b5j := fun o t o' t' => (hB2 o t o' t').2.2.2.2.2.1
  clear hA1 hB1 hA2 hB2 hA hB g1
  go_wp2_with fail
  go_region
  --TAIL
  · clear a0i a0j a1i a1j a2i a2j a3i a3j a4i a4j a5i a5j b0i b0j b1i b1j b2i b2j b3i b3j b4i b4j b5i b5j
    have gn : Grown w1 ((w1.alloc (Obj.cells #[Value.int IntKind.i64 k, Value.bool y, Value.int IntKind.i64 n, Value.int IntKind.i64 a, Value.int IntKind.i64 l, Value.string s] 38)).alloc (Obj.cells #[Value.int IntKind.i64 k', Value.bool y', Value.int IntKind.i64 n', Value.int IntKind.i64 a', Value.int IntKind.i64 l', Value.string s'] 38)) := (Grown.refl w1).alloc _ _ |>.alloc _ _
    have X2 : Ex4 w w.heap.size (w.heap.size + 1) w1.heap.size (w1.heap.size + 1) k x n a l s k' x' n' a' l' s' y y' ((w1.alloc (Obj.cells #[Value.int IntKind.i64 k, Value.bool y, Value.int IntKind.i64 n, Value.int IntKind.i64 a, Value.int IntKind.i64 l, Value.string s] 38)).alloc (Obj.cells #[Value.int IntKind.i64 k', Value.bool y', Value.int IntKind.i64 n', Value.int IntKind.i64 a', Value.int IntKind.i64 l', Value.string s'] 38)) :=
      ⟨ObS.grow ⟨a0, a1, a2, a3, a4, a5, ga⟩ gn, ObS.grow ⟨b0, b1, b2, b3, b4, b5, gb⟩ gn, ⟨by simp [go_sem], by simp [go_sem], by simp [go_sem], by simp [go_sem], by simp [go_sem], by simp [go_sem], grown_trans ga gn⟩, ⟨by simp [go_sem], by simp [go_sem], by simp [go_sem], by simp [go_sem], by simp [go_sem], by simp [go_sem], grown_trans ga gn⟩⟩
    have ge : Grown w ((w1.alloc (Obj.cells #[Value.int IntKind.i64 k, Value.bool y, Value.int IntKind.i64 n, Value.int IntKind.i64 a, Value.int IntKind.i64 l, Value.string s] 38)).alloc (Obj.cells #[Value.int IntKind.i64 k', Value.bool y', Value.int IntKind.i64 n', Value.int IntKind.i64 a', Value.int IntKind.i64 l', Value.string s'] 38)) := grown_trans ga gn
    obtain ⟨⟨a20, a21, a22, a23, a24, a25, a2g⟩, ⟨b20, b21, b22, b23, b24, b25, b2g⟩, ⟨c20, c21, c22, c23, c24, c25, c2g⟩, ⟨d20, d21, d22, d23, d24, d25, d2g⟩⟩ := id X2
    clear a0 a1 a2 a3 a4 a5 b0 b1 b2 b3 b4 b5 ga gb gn
    go_wp2_with fail
    refine (LE.out _ _ _).mono ?_
    rintro e w3 ⟨rfl, g3⟩
    have X3 := X2.grow (grown_trans (by (repeat (first | exact Grown.refl _ | assumption | apply Grown.drew | apply Grown.alloc))) g3)
    clear a20 a21 a22 a23 a24 a25 a2g b20 b21 b22 b23 b24 b25 b2g c20 c21 c22 c23 c24 c25 c2g d20 d21 d22 d23 d24 d25 d2g ge g3
    obtain ⟨⟨a30, a31, a32, a33, a34, a35, a3g⟩, ⟨b30, b31, b32, b33, b34, b35, b3g⟩, ⟨c30, c31, c32, c33, c34, c35, c3g⟩, ⟨d30, d31, d32, d33, d34, d35, d3g⟩⟩ := id X3
    go_wp2_with fail
    refine (LE.out _ _ _).mono ?_
    rintro e w4 ⟨rfl, g4⟩
    have X4 := X3.grow (grown_trans (by (repeat (first | exact Grown.refl _ | assumption | apply Grown.drew | apply Grown.alloc))) g4)
    clear a30 a31 a32 a33 a34 a35 a3g b30 b31 b32 b33 b34 b35 b3g c30 c31 c32 c33 c34 c35 c3g d30 d31 d32 d33 d34 d35 d3g g4
    obtain ⟨⟨a40, a41, a42, a43, a44, a45, a4g⟩, ⟨b40, b41, b42, b43, b44, b45, b4g⟩, ⟨c40, c41, c42, c43, c44, c45, c4g⟩, ⟨d40, d41, d42, d43, d44, d45, d4g⟩⟩ := id X4
    go_wp2_with fail
    refine (NU.out _ _).mono ?_
    rintro e w5 ⟨rfl, g5⟩
    have X5 := X4.grow (grown_trans (by (repeat (first | exact Grown.refl _ | assumption | apply Grown.drew | apply Grown.alloc))) g5)
    clear a40 a41 a42 a43 a44 a45 a4g b40 b41 b42 b43 b44 b45 b4g c40 c41 c42 c43 c44 c45 c4g d40 d41 d42 d43 d44 d45 d4g g5
    obtain ⟨⟨a50, a51, a52, a53, a54, a55, a5g⟩, ⟨b50, b51, b52, b53, b54, b55, b5g⟩, ⟨c50, c51, c52, c53, c54, c55, c5g⟩, ⟨d50, d51, d52, d53, d54, d55, d5g⟩⟩ := id X5
    go_wp2_with fail
    refine (NU.out _ _).mono ?_
    rintro e w6 ⟨rfl, g6⟩
    have X6 := X5.grow (grown_trans (by (repeat (first | exact Grown.refl _ | assumption | apply Grown.drew | apply Grown.alloc))) g6)
    clear a50 a51 a52 a53 a54 a55 a5g b50 b51 b52 b53 b54 b55 b5g c50 c51 c52 c53 c54 c55 c5g d50 d51 d52 d53 d54 d55 d5g g6
    obtain ⟨⟨a60, a61, a62, a63, a64, a65, a6g⟩, ⟨b60, b61, b62, b63, b64, b65, b6g⟩, ⟨c60, c61, c62, c63, c64, c65, c6g⟩, ⟨d60, d61, d62, d63, d64, d65, d6g⟩⟩ := id X6
    go_wp2_with fail
    clear a60 a61 a62 a63 a64 a65 a6g b60 b61 b62 b63 b64 b65 b6g c60 c61 c62 c63 c64 c65 c6g d60 d61 d62 d63 d64 d65 d6g
    obtain ⟨A, hA⟩ : ∃ A, w.heap.size = A := ⟨_, rfl⟩
    obtain ⟨B, hB⟩ : ∃ B, w.heap.size + 1 = B := ⟨_, rfl⟩
    obtain ⟨C, hC⟩ : ∃ C, w1.heap.size = C := ⟨_, rfl⟩
    obtain ⟨D, hD⟩ : ∃ D, (w1.heap.size + 1) = D := ⟨_, rfl⟩
    have X : Ex24 w A B C D k x n a l s k' x' n' a' l' s' y y' w6 := by
      obtain ⟨⟨az0, az1, az2, az3, az4, az5, azg⟩, ⟨bz0, bz1, bz2, bz3, bz4, bz5, bzg⟩, ⟨cz0, cz1, cz2, cz3, cz4, cz5, czg⟩, ⟨dz0, dz1, dz2, dz3, dz4, dz5, dzg⟩⟩ := X6
      subst hC hD hA hB
      exact ⟨az0, az1, az2, az3, az4, az5, bz0, bz1, bz2, bz3, bz4, bz5, cz0, cz1, cz2, cz3, cz4, cz5, dz0, dz1, dz2, dz3, dz4, dz5, azg⟩
    clear X2 X3 X4 X5 X6
    rw [hB, hA, hD, hC]
    have DM := Lib.hid (fun (z : Bool) W (h : Ex24 w A B C D k x n a l s k' x' n' a' l' s' y y' W) => (MA.out z W).mono fun e W' ⟨he, hg⟩ => (⟨he, Ex24.grow h hg⟩ : e = Ending.returned (.bool m) ∧ Ex24 w A B C D k x n a l s k' x' n' a' l' s' y y' W'))
    have DT := Lib.hid (fun (z : Bool) W (h : Ex24 w A B C D k x n a l s k' x' n' a' l' s' y y' W) => (TY.out z W).mono fun e W' ⟨he, hg⟩ => (⟨he, Ex24.grow h hg⟩ : e = Ending.returned (.string t) ∧ Ex24 w A B C D k x n a l s k' x' n' a' l' s' y y' W'))
    have DA := Lib.hid (fun (z z' : Bool) W (h : Ex24 w A B C D k x n a l s k' x' n' a' l' s' y y' W) => (SA.out z z' W).mono fun e W' ⟨he, hg⟩ => (⟨he, Ex24.grow h hg⟩ : e = Ending.returned (.bool r) ∧ Ex24 w A B C D k x n a l s k' x' n' a' l' s' y y' W'))
    have DB := Lib.hid (fun (z z' : Bool) W (h : Ex24 w A B C D k x n a l s k' x' n' a' l' s' y y' W) => (SB.out z z' W).mono fun e W' ⟨he, hg⟩ => (⟨he, Ex24.grow h hg⟩ : e = Ending.returned (.bool r) ∧ Ex24 w A B C D k x n a l s k' x' n' a' l' s' y y' W'))
    have DS := Lib.hid (fun (z z' : Bool) W (h : Ex24 w A B C D k x n a l s k' x' n' a' l' s' y y' W) => (SS.out z z' W).mono fun e W' ⟨he, hg⟩ => (⟨he, Ex24.grow h hg⟩ : e = Ending.returned (.bool true) ∧ Ex24 w A B C D k x n a l s k' x' n' a' l' s' y y' W'))
    clear SA SB SS MA TY LE NU
    go_region_held3 (fun W => W.cell? ⟨A, 0, none⟩ = some (.int .i64 k) ∧ W.cell? ⟨A, 1, none⟩ = some (.bool x) ∧ W.cell? ⟨A, 2, none⟩ = some (.int .i64 n) ∧ W.cell? ⟨A, 3, none⟩ = some (.int .i64 a) ∧ W.cell? ⟨A, 4, none⟩ = some (.int .i64 l) ∧ W.cell? ⟨A, 5, none⟩ = some (.string s) ∧ W.cell? ⟨B, 0, none⟩ = some (.int .i64 k') ∧ W.cell? ⟨B, 1, none⟩ = some (.bool x') ∧ W.cell? ⟨B, 2, none⟩ = some (.int .i64 n') ∧ W.cell? ⟨B, 3, none⟩ = some (.int .i64 a') ∧ W.cell? ⟨B, 4, none⟩ = some (.int .i64 l') ∧ W.cell? ⟨B, 5, none⟩ = some (.string s') ∧ W.cell? ⟨C, 0, none⟩ = some (.int .i64 k) ∧ W.cell? ⟨C, 1, none⟩ = some (.bool y) ∧ W.cell? ⟨C, 2, none⟩ = some (.int .i64 n) ∧ W.cell? ⟨C, 3, none⟩ = some (.int .i64 a) ∧ W.cell? ⟨C, 4, none⟩ = some (.int .i64 l) ∧ W.cell? ⟨C, 5, none⟩ = some (.string s) ∧ W.cell? ⟨D, 0, none⟩ = some (.int .i64 k') ∧ W.cell? ⟨D, 1, none⟩ = some (.bool y') ∧ W.cell? ⟨D, 2, none⟩ = some (.int .i64 n') ∧ W.cell? ⟨D, 3, none⟩ = some (.int .i64 a') ∧ W.cell? ⟨D, 4, none⟩ = some (.int .i64 l') ∧ W.cell? ⟨D, 5, none⟩ = some (.string s') ∧ Grown w W)
      (first | assumption)
      (first | (go_at_call 35; with_reducible refine (DM.out _ _ ?_).mono ?_; (assumption); rintro e w' ⟨rfl, hS⟩) | (go_at_call 36; with_reducible refine (DT.out _ _ ?_).mono ?_; (assumption); rintro e w' ⟨rfl, hS⟩) | (go_at_call 34; with_reducible refine (DA.out _ _ _ ?_).mono ?_; (assumption); rintro e w' ⟨rfl, hS⟩) | (go_at_call 34; with_reducible refine (DB.out _ _ _ ?_).mono ?_; (assumption); rintro e w' ⟨rfl, hS⟩) | (go_at_call 34; with_reducible refine (DS.out _ _ _ ?_).mono ?_; (assumption); rintro e w' ⟨rfl, hS⟩))
    rename_i hSw
    go_wp2_with fail
    go_ret
    exact ⟨rfl, hSw.2.2.2.2.2.2.2.2.2.2.2.2.2.2.2.2.2.2.2.2.2.2.2.2⟩
  · clear a0i a0j a1i a1j a2i a2j a3i a3j a4i a4j a5i a5j b0i b0j b1i b1j b2i b2j b3i b3j b4i b4j b5i b5j
    have gn : Grown w1 ((w1.alloc (Obj.cells #[Value.int IntKind.i64 k', Value.bool y', Value.int IntKind.i64 n', Value.int IntKind.i64 a', Value.int IntKind.i64 l', Value.string s'] 38)).alloc (Obj.cells #[Value.int IntKind.i64 k, Value.bool y, Value.int IntKind.i64 n, Value.int IntKind.i64 a, Value.int IntKind.i64 l, Value.string s] 38)) := (Grown.refl w1).alloc _ _ |>.alloc _ _
    have X2 : Ex4 w w.heap.size (w.heap.size + 1) (w1.heap.size + 1) w1.heap.size k x n a l s k' x' n' a' l' s' y y' ((w1.alloc (Obj.cells #[Value.int IntKind.i64 k', Value.bool y', Value.int IntKind.i64 n', Value.int IntKind.i64 a', Value.int IntKind.i64 l', Value.string s'] 38)).alloc (Obj.cells #[Value.int IntKind.i64 k, Value.bool y, Value.int IntKind.i64 n, Value.int IntKind.i64 a, Value.int IntKind.i64 l, Value.string s] 38)) :=
      ⟨ObS.grow ⟨a0, a1, a2, a3, a4, a5, ga⟩ gn, ObS.grow ⟨b0, b1, b2, b3, b4, b5, gb⟩ gn, ⟨by simp [go_sem], by simp [go_sem], by simp [go_sem], by simp [go_sem], by simp [go_sem], by simp [go_sem], grown_trans ga gn⟩, ⟨by simp [go_sem], by simp [go_sem], by simp [go_sem], by simp [go_sem], by simp [go_sem], by simp [go_sem], grown_trans ga gn⟩⟩
    have ge : Grown w ((w1.alloc (Obj.cells #[Value.int IntKind.i64 k', Value.bool y', Value.int IntKind.i64 n', Value.int IntKind.i64 a', Value.int IntKind.i64 l', Value.string s'] 38)).alloc (Obj.cells #[Value.int IntKind.i64 k, Value.bool y, Value.int IntKind.i64 n, Value.int IntKind.i64 a, Value.int IntKind.i64 l, Value.string s] 38)) := grown_trans ga gn
    obtain ⟨⟨a20, a21, a22, a23, a24, a25, a2g⟩, ⟨b20, b21, b22, b23, b24, b25, b2g⟩, ⟨c20, c21, c22, c23, c24, c25, c2g⟩, ⟨d20, d21, d22, d23, d24, d25, d2g⟩⟩ := id X2
    clear a0 a1 a2 a3 a4 a5 b0 b1 b2 b3 b4 b5 ga gb gn
    go_wp2_with fail
    refine (LE.out _ _ _).mono ?_
    rintro e w3 ⟨rfl, g3⟩
    have X3 := X2.grow (grown_trans (by (repeat (first | exact Grown.refl _ | assumption | apply Grown.drew | apply Grown.alloc))) g3)
    clear a20 a21 a22 a23 a24 a25 a2g b20 b21 b22 b23 b24 b25 b2g c20 c21 c22 c23 c24 c25 c2g d20 d21 d22 d23 d24 d25 d2g ge g3
    obtain ⟨⟨a30, a31, a32, a33, a34, a35, a3g⟩, ⟨b30, b31, b32, b33, b34, b35, b3g⟩, ⟨c30, c31, c32, c33, c34, c35, c3g⟩, ⟨d30, d31, d32, d33, d34, d35, d3g⟩⟩ := id X3
    go_wp2_with fail
    refine (LE.out _ _ _).mono ?_
    rintro e w4 ⟨rfl, g4⟩
    have X4 := X3.grow (grown_trans (by (repeat (first | exact Grown.refl _ | assumption | apply Grown.drew | apply Grown.alloc))) g4)
    clear a30 a31 a32 a33 a34 a35 a3g b30 b31 b32 b33 b34 b35 b3g c30 c31 c32 c33 c34 c35 c3g d30 d31 d32 d33 d34 d35 d3g g4
    obtain ⟨⟨a40, a41, a42, a43, a44, a45, a4g⟩, ⟨b40, b41, b42, b43, b44, b45, b4g⟩, ⟨c40, c41, c42, c43, c44, c45, c4g⟩, ⟨d40, d41, d42, d43, d44, d45, d4g⟩⟩ := id X4
    go_wp2_with fail
    refine (NU.out _ _).mono ?_
    rintro e w5 ⟨rfl, g5⟩
    have X5 := X4.grow (grown_trans (by (repeat (first | exact Grown.refl _ | assumption | apply Grown.drew | apply Grown.alloc))) g5)
    clear a40 a41 a42 a43 a44 a45 a4g b40 b41 b42 b43 b44 b45 b4g c40 c41 c42 c43 c44 c45 c4g d40 d41 d42 d43 d44 d45 d4g g5
    obtain ⟨⟨a50, a51, a52, a53, a54, a55, a5g⟩, ⟨b50, b51, b52, b53, b54, b55, b5g⟩, ⟨c50, c51, c52, c53, c54, c55, c5g⟩, ⟨d50, d51, d52, d53, d54, d55, d5g⟩⟩ := id X5
    go_wp2_with fail
    refine (NU.out _ _).mono ?_
    rintro e w6 ⟨rfl, g6⟩
    have X6 := X5.grow (grown_trans (by (repeat (first | exact Grown.refl _ | assumption | apply Grown.drew | apply Grown.alloc))) g6)
    clear a50 a51 a52 a53 a54 a55 a5g b50 b51 b52 b53 b54 b55 b5g c50 c51 c52 c53 c54 c55 c5g d50 d51 d52 d53 d54 d55 d5g g6
    obtain ⟨⟨a60, a61, a62, a63, a64, a65, a6g⟩, ⟨b60, b61, b62, b63, b64, b65, b6g⟩, ⟨c60, c61, c62, c63, c64, c65, c6g⟩, ⟨d60, d61, d62, d63, d64, d65, d6g⟩⟩ := id X6
    go_wp2_with fail
    clear a60 a61 a62 a63 a64 a65 a6g b60 b61 b62 b63 b64 b65 b6g c60 c61 c62 c63 c64 c65 c6g d60 d61 d62 d63 d64 d65 d6g
    obtain ⟨A, hA⟩ : ∃ A, w.heap.size = A := ⟨_, rfl⟩
    obtain ⟨B, hB⟩ : ∃ B, w.heap.size + 1 = B := ⟨_, rfl⟩
    obtain ⟨C, hC⟩ : ∃ C, (w1.heap.size + 1) = C := ⟨_, rfl⟩
    obtain ⟨D, hD⟩ : ∃ D, w1.heap.size = D := ⟨_, rfl⟩
    have X : Ex24 w A B C D k x n a l s k' x' n' a' l' s' y y' w6 := by
      obtain ⟨⟨az0, az1, az2, az3, az4, az5, azg⟩, ⟨bz0, bz1, bz2, bz3, bz4, bz5, bzg⟩, ⟨cz0, cz1, cz2, cz3, cz4, cz5, czg⟩, ⟨dz0, dz1, dz2, dz3, dz4, dz5, dzg⟩⟩ := X6
      subst hC hD hA hB
      exact ⟨az0, az1, az2, az3, az4, az5, bz0, bz1, bz2, bz3, bz4, bz5, cz0, cz1, cz2, cz3, cz4, cz5, dz0, dz1, dz2, dz3, dz4, dz5, azg⟩
    clear X2 X3 X4 X5 X6
    rw [hB, hA, hC, hD]
    have DM := Lib.hid (fun (z : Bool) W (h : Ex24 w A B C D k x n a l s k' x' n' a' l' s' y y' W) => (MA.out z W).mono fun e W' ⟨he, hg⟩ => (⟨he, Ex24.grow h hg⟩ : e = Ending.returned (.bool m) ∧ Ex24 w A B C D k x n a l s k' x' n' a' l' s' y y' W'))
    have DT := Lib.hid (fun (z : Bool) W (h : Ex24 w A B C D k x n a l s k' x' n' a' l' s' y y' W) => (TY.out z W).mono fun e W' ⟨he, hg⟩ => (⟨he, Ex24.grow h hg⟩ : e = Ending.returned (.string t) ∧ Ex24 w A B C D k x n a l s k' x' n' a' l' s' y y' W'))
    have DA := Lib.hid (fun (z z' : Bool) W (h : Ex24 w A B C D k x n a l s k' x' n' a' l' s' y y' W) => (SA.out z z' W).mono fun e W' ⟨he, hg⟩ => (⟨he, Ex24.grow h hg⟩ : e = Ending.returned (.bool r) ∧ Ex24 w A B C D k x n a l s k' x' n' a' l' s' y y' W'))
    have DB := Lib.hid (fun (z z' : Bool) W (h : Ex24 w A B C D k x n a l s k' x' n' a' l' s' y y' W) => (SB.out z z' W).mono fun e W' ⟨he, hg⟩ => (⟨he, Ex24.grow h hg⟩ : e = Ending.returned (.bool r) ∧ Ex24 w A B C D k x n a l s k' x' n' a' l' s' y y' W'))
    have DS := Lib.hid (fun (z z' : Bool) W (h : Ex24 w A B C D k x n a l s k' x' n' a' l' s' y y' W) => (SS.out z z' W).mono fun e W' ⟨he, hg⟩ => (⟨he, Ex24.grow h hg⟩ : e = Ending.returned (.bool true) ∧ Ex24 w A B C D k x n a l s k' x' n' a' l' s' y y' W'))
    clear SA SB SS MA TY LE NU
    go_region_held3 (fun W => W.cell? ⟨A, 0, none⟩ = some (.int .i64 k) ∧ W.cell? ⟨A, 1, none⟩ = some (.bool x) ∧ W.cell? ⟨A, 2, none⟩ = some (.int .i64 n) ∧ W.cell? ⟨A, 3, none⟩ = some (.int .i64 a) ∧ W.cell? ⟨A, 4, none⟩ = some (.int .i64 l) ∧ W.cell? ⟨A, 5, none⟩ = some (.string s) ∧ W.cell? ⟨B, 0, none⟩ = some (.int .i64 k') ∧ W.cell? ⟨B, 1, none⟩ = some (.bool x') ∧ W.cell? ⟨B, 2, none⟩ = some (.int .i64 n') ∧ W.cell? ⟨B, 3, none⟩ = some (.int .i64 a') ∧ W.cell? ⟨B, 4, none⟩ = some (.int .i64 l') ∧ W.cell? ⟨B, 5, none⟩ = some (.string s') ∧ W.cell? ⟨C, 0, none⟩ = some (.int .i64 k) ∧ W.cell? ⟨C, 1, none⟩ = some (.bool y) ∧ W.cell? ⟨C, 2, none⟩ = some (.int .i64 n) ∧ W.cell? ⟨C, 3, none⟩ = some (.int .i64 a) ∧ W.cell? ⟨C, 4, none⟩ = some (.int .i64 l) ∧ W.cell? ⟨C, 5, none⟩ = some (.string s) ∧ W.cell? ⟨D, 0, none⟩ = some (.int .i64 k') ∧ W.cell? ⟨D, 1, none⟩ = some (.bool y') ∧ W.cell? ⟨D, 2, none⟩ = some (.int .i64 n') ∧ W.cell? ⟨D, 3, none⟩ = some (.int .i64 a') ∧ W.cell? ⟨D, 4, none⟩ = some (.int .i64 l') ∧ W.cell? ⟨D, 5, none⟩ = some (.string s') ∧ Grown w W)
      (first | assumption)
      (first | (go_at_call 35; with_reducible refine (DM.out _ _ ?_).mono ?_; (assumption); rintro e w' ⟨rfl, hS⟩) | (go_at_call 36; with_reducible refine (DT.out _ _ ?_).mono ?_; (assumption); rintro e w' ⟨rfl, hS⟩) | (go_at_call 34; with_reducible refine (DA.out _ _ _ ?_).mono ?_; (assumption); rintro e w' ⟨rfl, hS⟩) | (go_at_call 34; with_reducible refine (DB.out _ _ _ ?_).mono ?_; (assumption); rintro e w' ⟨rfl, hS⟩) | (go_at_call 34; with_reducible refine (DS.out _ _ _ ?_).mono ?_; (assumption); rintro e w' ⟨rfl, hS⟩))
    rename_i hSw
    go_wp2_with fail
    go_ret
    exact ⟨rfl, hSw.2.2.2.2.2.2.2.2.2.2.2.2.2.2.2.2.2.2.2.2.2.2.2.2⟩
end Go.Proofs.Ytenmbkngkabonaa
