/- The reference's Hits (layer 26), of any edge that may be. -/
import Derived.Test.YtnienpalbfgflaaC8
namespace Go.Proofs.Ytnienpalbfgflaa
set_option linter.unusedVariables false
open Go.RowKit

def Pl.flatH (L : List Pl.Sp) : List Value := L.flatMap Pl.sc
theorem Pl.sc_one (s : Pl.Sp) : ∀ u ∈ Pl.sc s, u.oneCell' = true := fun u hu => by
  unfold Pl.sc at hu
  simp only [List.mem_cons, List.not_mem_nil, or_false] at hu
  rcases hu with rfl | rfl | rfl | rfl | rfl <;> rfl
theorem Pl.flatH_get : ∀ (L : List Pl.Sp) (j : Nat) (s : Pl.Sp), L[j]? = some s → ∀ r, r < 5 → (Pl.flatH L)[j * 5 + r]? = (Pl.sc s)[r]?
  | [], j, o, h, _, _ => by simp at h
  | q :: L, 0, o, h, r, hr => by
    simp at h
    subst h
    simp only [Pl.flatH, List.flatMap_cons, Nat.zero_mul, Nat.zero_add]
    rw [List.getElem?_append_left (by simp [Pl.sc]; exact hr)]
  | q :: L, j + 1, o, h, r, hr => by
    have ih := Pl.flatH_get L j o (by simpa using h) r hr
    simp only [Pl.flatH, List.flatMap_cons] at ih ⊢
    rw [List.getElem?_append_right (by simp [Pl.sc]; omega)]
    rw [← ih]
    congr 1
    simp [Pl.sc]
    omega
theorem Try.hitInfo : (Try.prog.info? 67).map (fun i => (i.zero, i.size, i.bytes)) = some (some (.agg #[.int .i64 0, .int .i64 0, .int .i64 0, .int .i64 0, .int .i64 0]), 5, 40) := by kernel_rfl
theorem own_rowH {base : Nat} {v : Value} {L : List Pl.Sp} {W : World} (c : W.ownsRow base 67 5 v L.length (Pl.flatH L)) : RowH W v L := by
  have hl := own_lt c
  rcases c.2 with ⟨rfl, h0⟩ | ⟨g, cap, cur, rfl, hb, hg, hc, r⟩
  · exact .inl ⟨List.eq_nil_of_length_eq_zero h0, rfl⟩
  · refine .inr ⟨g, cap, rfl, hc, hl g rfl, fun j u hu => ?_⟩
    have e0 := Pl.flatH_get L j u hu 0 (by omega)
    have e1 := Pl.flatH_get L j u hu 1 (by omega)
    have e2 := Pl.flatH_get L j u hu 2 (by omega)
    have e3 := Pl.flatH_get L j u hu 3 (by omega)
    have e4 := Pl.flatH_get L j u hu 4 (by omega)
    rw [Nat.add_zero] at e0
    refine ⟨?_, ?_, ?_, ?_, ?_⟩
    · have := c.cells rfl (j * 5) (.int .i64 u.t) (by rw [e0]; rfl)
      rw [Addr.add_lit, Nat.zero_add] at this
      exact this
    · have := c.cells rfl (j * 5 + 1) (.int .i64 u.p) (by rw [e1]; rfl)
      rw [Addr.add_lit, Nat.zero_add] at this
      exact this
    · have := c.cells rfl (j * 5 + 2) (.int .i64 u.q) (by rw [e2]; rfl)
      rw [Addr.add_lit, Nat.zero_add] at this
      exact this
    · have := c.cells rfl (j * 5 + 3) (.int .i64 u.d) (by rw [e3]; rfl)
      rw [Addr.add_lit, Nat.zero_add] at this
      exact this
    · have := c.cells rfl (j * 5 + 4) (.int .i64 u.m) (by rw [e4]; rfl)
      rw [Addr.add_lit, Nat.zero_add] at this
      exact this
theorem RowH.fr {P : Nat → Prop} {W W' : World} {v : Value} {L : List Pl.Sp} (h : RowH W v L) (k : Fr P W W') (hp : ∀ g, v.ownBlock = some g → ¬ P g) : RowH W' v L := by
  rcases h with h | ⟨g, cap, rfl, hc, hg, h⟩
  · exact .inl h
  · exact .inr ⟨g, cap, rfl, hc, Nat.lt_of_lt_of_le hg k.2.2.1, fun j s hj => by
      have n := hp g rfl
      obtain ⟨a0, a1, a2, a3, a4⟩ := h j s hj
      exact ⟨(k.cell (a := ⟨g, j * 5, none⟩) hg n).trans a0, (k.cell (a := ⟨g, j * 5 + 1, none⟩) hg n).trans a1, (k.cell (a := ⟨g, j * 5 + 2, none⟩) hg n).trans a2, (k.cell (a := ⟨g, j * 5 + 3, none⟩) hg n).trans a3, (k.cell (a := ⟨g, j * 5 + 4, none⟩) hg n).trans a4⟩⟩
theorem RowH.fr0 {W W' : World} {v : Value} {L : List Pl.Sp} (h : RowH W v L) (k : Fr (fun _ => False) W W') : RowH W' v L := h.fr k (fun _ _ f => f)
theorem Blk.fr0 {W Z Z' : World} {p : Nat} {L : List Value} (h : Blk W p L Z) (k : Fr (fun _ => False) Z Z') : Blk W p L Z' := by
  obtain ⟨h1, h2, h3, h4⟩ := h
  exact ⟨h1, Nat.lt_of_lt_of_le h2 k.2.2.1, fun j u hu => (k.cell (a := ⟨p, j, none⟩) h2 (fun f => f)).trans (h3 j u hu), fun j => (k.frozen (a := ⟨p, j, none⟩) h2 (fun f => f)).trans (h4 j)⟩
def HitsOut (L : List Pl.Sp) (W : World) : Ending → World → Prop := fun en w' => ∃ v, en = .returned v ∧ RowH w' v L ∧ Fr (fun _ => False) W w'

set_option maxHeartbeats 8000000 in
set_option maxRecDepth 100000 in
theorem hits_nn (x0 y0 cx cy x1 y1 y a b c B P d : Int) (U D : Pl.Sp) (h1 : -8191 ≤ x0 ∧ x0 ≤ 8191) (h2 : -8191 ≤ y0 ∧ y0 ≤ 8191) (h3 : -8191 ≤ cx ∧ cx ≤ 8191) (h4 : -8191 ≤ cy ∧ cy ≤ 8191) (h5 : -8191 ≤ x1 ∧ x1 ≤ 8191) (h6 : -8191 ≤ y1 ∧ y1 ≤ 8191) (h7 : -8191 ≤ y ∧ y ≤ 8191)
    (ha : y0 - 2 * cy + y1 = a) (hb : cy - y0 = b) (hc : y0 - y = c) (hB : b * b = B) (hP : a * c = P) (hd : B - P = d) (hn : 0 < d ∨ (d = 0 ∧ 0 < a)) (ha1 : a ≠ 0)
    (C1 : Hid (∀ Z, Calls Try.prog 47 #[.int .i64 a, .int .i64 b, .int .i64 1, .int .i64 d] Z fun en w' => en = .returned (.bool false) ∧ Grown Z w')) (C3 : Hid (∀ Z, Calls Try.prog 50 #[.int .i64 a, .int .i64 b, .int .i64 (-1), .int .i64 d] Z fun en w' => en = .returned (.bool true) ∧ Grown Z w')) (W : World) :
    Calls Try.prog 36 #[.agg #[.int .i64 x0, .int .i64 y0, .bool true, .int .i64 cx, .int .i64 cy, .int .i64 x1, .int .i64 y1], .int .i64 y] W (HitsOut ([] ++ []) W) := by
  have k1 := Pl.bd_mul 16382 16382 (show -16382 ≤ b ∧ b ≤ 16382 by omega) (show -16382 ≤ b ∧ b ≤ 16382 by omega)
  have k2 := Pl.bd_mul 32764 16382 (show -32764 ≤ a ∧ a ≤ 32764 by omega) (show -16382 ≤ c ∧ c ≤ 16382 by omega)
  rw [hB] at k1
  rw [hP] at k2
  obtain ⟨k3, k4⟩ := k1
  obtain ⟨k5, k6⟩ := k2
  have hab : (a == 0) = false := beq_eq_false_iff_ne.2 ha1
  have hdd : (d == 0) = false ∨ ((d == 0) = true ∧ 0 < a) := hn.imp (fun h => beq_eq_false_iff_ne.2 (by omega)) (fun h => ⟨beq_iff_eq.2 h.1, h.2⟩)
  have hd0 : 0 ≤ d := by omega
  clear hn ha1
  obtain ⟨ut, up, uq, ud, um⟩ := U
  obtain ⟨dt, dp, dq, dd, dm⟩ := D
  rcases hdd with hdd | ⟨hdd, hap⟩
  all_goals
    go_enter Try.func36, Try.ntmps36
    go_wp2_with fail
    go_quiet (fail)
    generalize hZ : World.drewN _ _ = w0
    have BK0 : Hid (Blk W W.heap.size [.int .i64 x0, .int .i64 y0, .bool true, .int .i64 cx, .int .i64 cy, .int .i64 x1, .int .i64 y1] w0) := Lib.hid (by rw [← hZ]; exact (Blk.new #[.int .i64 x0, .int .i64 y0, .bool true, .int .i64 cx, .int .i64 cy, .int .i64 x1, .int .i64 y1] 25 (Nat.le_refl _)).drewN _)
    have F0 : Hid (Fr (fun _ => False) W w0) := Lib.hid (by rw [← hZ]; exact Fr.of_grown _ (grown_drewN ((Grown.refl W).alloc _ _) _))
    clear hZ
    go_wp2_with fail
    refine (C1.out _).mono ?_
    rintro en w1 ⟨rfl, g⟩
    have F1 := Lib.hid (F0.out.trans (Fr.of_grown _ g))
    have BK1 := Lib.hid (BK0.out.grow g)
    clear g
    clear F0 BK0
    go_wp2_with fail
    refine (C3.out _).mono ?_
    rintro en w2 ⟨rfl, g⟩
    have F2 := Lib.hid (F1.out.trans (Fr.of_grown _ g))
    have BK2 := Lib.hid (BK1.out.grow g)
    clear g
    clear F1 BK1
    go_wp2_with fail
    go_ret
    exact ⟨_, rfl, .inl ⟨rfl, rfl⟩, F2.out⟩
set_option maxHeartbeats 8000000 in
set_option maxRecDepth 100000 in
theorem hits_no (x0 y0 cx cy x1 y1 y a b c B P d : Int) (U D : Pl.Sp) (h1 : -8191 ≤ x0 ∧ x0 ≤ 8191) (h2 : -8191 ≤ y0 ∧ y0 ≤ 8191) (h3 : -8191 ≤ cx ∧ cx ≤ 8191) (h4 : -8191 ≤ cy ∧ cy ≤ 8191) (h5 : -8191 ≤ x1 ∧ x1 ≤ 8191) (h6 : -8191 ≤ y1 ∧ y1 ≤ 8191) (h7 : -8191 ≤ y ∧ y ≤ 8191)
    (ha : y0 - 2 * cy + y1 = a) (hb : cy - y0 = b) (hc : y0 - y = c) (hB : b * b = B) (hP : a * c = P) (hd : B - P = d) (hn : 0 < d ∨ (d = 0 ∧ 0 < a)) (ha1 : a ≠ 0)
    (C1 : Hid (∀ Z, Calls Try.prog 47 #[.int .i64 a, .int .i64 b, .int .i64 1, .int .i64 d] Z fun en w' => en = .returned (.bool false) ∧ Grown Z w')) (C3 : Hid (∀ Z, Calls Try.prog 50 #[.int .i64 a, .int .i64 b, .int .i64 (-1), .int .i64 d] Z fun en w' => en = .returned (.bool false) ∧ Grown Z w')) (C4 : Hid (∀ Z, Calls Try.prog 48 #[.int .i64 a, .int .i64 b, .int .i64 (-1), .int .i64 d, .bool false] Z fun en w' => en = .returned (.bool false) ∧ Grown Z w')) (W : World) :
    Calls Try.prog 36 #[.agg #[.int .i64 x0, .int .i64 y0, .bool true, .int .i64 cx, .int .i64 cy, .int .i64 x1, .int .i64 y1], .int .i64 y] W (HitsOut ([] ++ []) W) := by
  have k1 := Pl.bd_mul 16382 16382 (show -16382 ≤ b ∧ b ≤ 16382 by omega) (show -16382 ≤ b ∧ b ≤ 16382 by omega)
  have k2 := Pl.bd_mul 32764 16382 (show -32764 ≤ a ∧ a ≤ 32764 by omega) (show -16382 ≤ c ∧ c ≤ 16382 by omega)
  rw [hB] at k1
  rw [hP] at k2
  obtain ⟨k3, k4⟩ := k1
  obtain ⟨k5, k6⟩ := k2
  have hab : (a == 0) = false := beq_eq_false_iff_ne.2 ha1
  have hdd : (d == 0) = false ∨ ((d == 0) = true ∧ 0 < a) := hn.imp (fun h => beq_eq_false_iff_ne.2 (by omega)) (fun h => ⟨beq_iff_eq.2 h.1, h.2⟩)
  have hd0 : 0 ≤ d := by omega
  clear hn ha1
  obtain ⟨ut, up, uq, ud, um⟩ := U
  obtain ⟨dt, dp, dq, dd, dm⟩ := D
  rcases hdd with hdd | ⟨hdd, hap⟩
  all_goals
    go_enter Try.func36, Try.ntmps36
    go_wp2_with fail
    go_quiet (fail)
    generalize hZ : World.drewN _ _ = w0
    have BK0 : Hid (Blk W W.heap.size [.int .i64 x0, .int .i64 y0, .bool true, .int .i64 cx, .int .i64 cy, .int .i64 x1, .int .i64 y1] w0) := Lib.hid (by rw [← hZ]; exact (Blk.new #[.int .i64 x0, .int .i64 y0, .bool true, .int .i64 cx, .int .i64 cy, .int .i64 x1, .int .i64 y1] 25 (Nat.le_refl _)).drewN _)
    have F0 : Hid (Fr (fun _ => False) W w0) := Lib.hid (by rw [← hZ]; exact Fr.of_grown _ (grown_drewN ((Grown.refl W).alloc _ _) _))
    clear hZ
    go_wp2_with fail
    refine (C1.out _).mono ?_
    rintro en w1 ⟨rfl, g⟩
    have F1 := Lib.hid (F0.out.trans (Fr.of_grown _ g))
    have BK1 := Lib.hid (BK0.out.grow g)
    clear g
    clear F0 BK0
    go_wp2_with fail
    refine (C3.out _).mono ?_
    rintro en w2 ⟨rfl, g⟩
    have F2 := Lib.hid (F1.out.trans (Fr.of_grown _ g))
    have BK2 := Lib.hid (BK1.out.grow g)
    clear g
    clear F1 BK1
    go_wp2_with fail
    refine (C4.out _).mono ?_
    rintro en w3 ⟨rfl, g⟩
    have F3 := Lib.hid (F2.out.trans (Fr.of_grown _ g))
    have BK3 := Lib.hid (BK2.out.grow g)
    clear g
    clear F2 BK2
    go_wp2_with fail
    go_ret
    exact ⟨_, rfl, .inl ⟨rfl, rfl⟩, F3.out⟩
set_option maxHeartbeats 8000000 in
set_option maxRecDepth 100000 in
theorem hits_ny (x0 y0 cx cy x1 y1 y a b c B P d : Int) (U D : Pl.Sp) (h1 : -8191 ≤ x0 ∧ x0 ≤ 8191) (h2 : -8191 ≤ y0 ∧ y0 ≤ 8191) (h3 : -8191 ≤ cx ∧ cx ≤ 8191) (h4 : -8191 ≤ cy ∧ cy ≤ 8191) (h5 : -8191 ≤ x1 ∧ x1 ≤ 8191) (h6 : -8191 ≤ y1 ∧ y1 ≤ 8191) (h7 : -8191 ≤ y ∧ y ≤ 8191)
    (ha : y0 - 2 * cy + y1 = a) (hb : cy - y0 = b) (hc : y0 - y = c) (hB : b * b = B) (hP : a * c = P) (hd : B - P = d) (hn : 0 < d ∨ (d = 0 ∧ 0 < a)) (ha1 : a ≠ 0)
    (C1 : Hid (∀ Z, Calls Try.prog 47 #[.int .i64 a, .int .i64 b, .int .i64 1, .int .i64 d] Z fun en w' => en = .returned (.bool false) ∧ Grown Z w')) (C3 : Hid (∀ Z, Calls Try.prog 50 #[.int .i64 a, .int .i64 b, .int .i64 (-1), .int .i64 d] Z fun en w' => en = .returned (.bool false) ∧ Grown Z w')) (C4 : Hid (∀ Z, Calls Try.prog 48 #[.int .i64 a, .int .i64 b, .int .i64 (-1), .int .i64 d, .bool false] Z fun en w' => en = .returned (.bool true) ∧ Grown Z w')) (H2 : Hid (∀ Z, Calls Try.prog 49 #[.agg #[.int .i64 x0, .int .i64 y0, .bool true, .int .i64 cx, .int .i64 cy, .int .i64 x1, .int .i64 y1], .int .i64 a, .int .i64 b, .int .i64 (-1), .int .i64 d] Z fun en w' => en = .returned (hv D) ∧ Grown Z w')) (W : World) :
    Calls Try.prog 36 #[.agg #[.int .i64 x0, .int .i64 y0, .bool true, .int .i64 cx, .int .i64 cy, .int .i64 x1, .int .i64 y1], .int .i64 y] W (HitsOut ([] ++ [D]) W) := by
  have k1 := Pl.bd_mul 16382 16382 (show -16382 ≤ b ∧ b ≤ 16382 by omega) (show -16382 ≤ b ∧ b ≤ 16382 by omega)
  have k2 := Pl.bd_mul 32764 16382 (show -32764 ≤ a ∧ a ≤ 32764 by omega) (show -16382 ≤ c ∧ c ≤ 16382 by omega)
  rw [hB] at k1
  rw [hP] at k2
  obtain ⟨k3, k4⟩ := k1
  obtain ⟨k5, k6⟩ := k2
  have hab : (a == 0) = false := beq_eq_false_iff_ne.2 ha1
  have hdd : (d == 0) = false ∨ ((d == 0) = true ∧ 0 < a) := hn.imp (fun h => beq_eq_false_iff_ne.2 (by omega)) (fun h => ⟨beq_iff_eq.2 h.1, h.2⟩)
  have hd0 : 0 ≤ d := by omega
  clear hn ha1
  obtain ⟨ut, up, uq, ud, um⟩ := U
  obtain ⟨dt, dp, dq, dd, dm⟩ := D
  rcases hdd with hdd | ⟨hdd, hap⟩
  all_goals
    go_enter Try.func36, Try.ntmps36
    go_wp2_with fail
    go_quiet (fail)
    generalize hZ : World.drewN _ _ = w0
    have BK0 : Hid (Blk W W.heap.size [.int .i64 x0, .int .i64 y0, .bool true, .int .i64 cx, .int .i64 cy, .int .i64 x1, .int .i64 y1] w0) := Lib.hid (by rw [← hZ]; exact (Blk.new #[.int .i64 x0, .int .i64 y0, .bool true, .int .i64 cx, .int .i64 cy, .int .i64 x1, .int .i64 y1] 25 (Nat.le_refl _)).drewN _)
    have F0 : Hid (Fr (fun _ => False) W w0) := Lib.hid (by rw [← hZ]; exact Fr.of_grown _ (grown_drewN ((Grown.refl W).alloc _ _) _))
    clear hZ
    go_wp2_with fail
    refine (C1.out _).mono ?_
    rintro en w1 ⟨rfl, g⟩
    have F1 := Lib.hid (F0.out.trans (Fr.of_grown _ g))
    have BK1 := Lib.hid (BK0.out.grow g)
    clear g
    clear F0 BK0
    go_wp2_with fail
    refine (C3.out _).mono ?_
    rintro en w2 ⟨rfl, g⟩
    have F2 := Lib.hid (F1.out.trans (Fr.of_grown _ g))
    have BK2 := Lib.hid (BK1.out.grow g)
    clear g
    clear F1 BK1
    go_wp2_with fail
    refine (C4.out _).mono ?_
    rintro en w3 ⟨rfl, g⟩
    have F3 := Lib.hid (F2.out.trans (Fr.of_grown _ g))
    have BK3 := Lib.hid (BK2.out.grow g)
    clear g
    clear F2 BK2
    obtain ⟨e0, e1, e2, e3, e4, e5, e6⟩ := BK3.out.at0
    go_wp2_with fail
    refine (H2.out _).mono ?_
    rintro en w4 ⟨rfl, g⟩
    have F4 := Lib.hid (F3.out.trans (Fr.of_grown _ g))
    have BK4 := Lib.hid (BK3.out.grow g)
    clear g
    clear F3 BK3
    clear e0 e1 e2 e3 e4 e5 e6
    simp only [hv]
    obtain ⟨i0, hi, hz0, hz1, hz2⟩ := info_parts Try.hitInfo
    have HII := Lib.hid hi
    have FZ := Lib.hid (F4.out.trans (Fr.alloc (fun _ => False) w4 (.cells #[.int .i64 dt, .int .i64 dp, .int .i64 dq, .int .i64 dd, .int .i64 dm] 67)))
    have BZ := Lib.hid (BK4.out.alloc #[.int .i64 dt, .int .i64 dp, .int .i64 dq, .int .i64 dd, .int .i64 dm] 67)
    have HOZ := Lib.hid (World.ownsRow_nil (w4.alloc (.cells #[.int .i64 dt, .int .i64 dp, .int .i64 dq, .int .i64 dd, .int .i64 dm] 67)) W.heap.size 67 5)
    have HBS : Hid (W.heap.size ≤ (w4.alloc (.cells #[.int .i64 dt, .int .i64 dp, .int .i64 dq, .int .i64 dd, .int .i64 dm] 67)).heap.size) := Lib.hid FZ.out.2.2.1
    have HCC : Hid (∀ ad, some (⟨w4.heap.size, 0, none⟩ : Addr) = some ad → ∀ j u, (Pl.sc ⟨dt, dp, dq, dd, dm⟩)[j]? = some u → (w4.alloc (.cells #[.int .i64 dt, .int .i64 dp, .int .i64 dq, .int .i64 dd, .int .i64 dm] 67)).cell? (ad.add j) = some u) := Lib.hid (fun ad q j u hu => by
      injection q with q
      subst q
      exact alloc_cell _ _ _ j u hu)
    clear hi F4 BK4
    go_wp2_with (at_builtin; refine wpList_append_all _ W.heap.size 64 67 i0 _ 5 40 Try.underlying64 HII.out hz0 hz1 hz2 rfl (by decide) (.slice none 0 0) 0 [] HOZ.out (some ⟨w4.heap.size, 0, none⟩) 1 1 (Pl.sc ⟨dt, dp, dq, dd, dm⟩) (by intro q; cases q) rfl HCC.out (Pl.sc_one _) (by decide) (by decide) HBS.out (hgd := rfl) (.tmp 93) (.tmp 99) rfl (by simp [Act.eval]) (by simp [Act.eval]) ?_)
    intro lv1 w5 r g hg
    have FG := Lib.hid (Fr.grown (fun _ => False) g (fun k hk => by cases hk))
    have F5 := Lib.hid (FZ.out.trans FG.out)
    have BK5 := Lib.hid (BZ.out.fr0 FG.out)
    clear FG
    have HO5 := Lib.hid r
    clear r g hg FZ BZ HOZ HBS HCC HII hz0 hz1 hz2
    go_wp2_with fail
    go_ret
    exact ⟨_, rfl, own_rowH (by simpa [Pl.flatH] using HO5.out), F5.out⟩
set_option maxHeartbeats 8000000 in
set_option maxRecDepth 100000 in
theorem hits_on (x0 y0 cx cy x1 y1 y a b c B P d : Int) (U D : Pl.Sp) (h1 : -8191 ≤ x0 ∧ x0 ≤ 8191) (h2 : -8191 ≤ y0 ∧ y0 ≤ 8191) (h3 : -8191 ≤ cx ∧ cx ≤ 8191) (h4 : -8191 ≤ cy ∧ cy ≤ 8191) (h5 : -8191 ≤ x1 ∧ x1 ≤ 8191) (h6 : -8191 ≤ y1 ∧ y1 ≤ 8191) (h7 : -8191 ≤ y ∧ y ≤ 8191)
    (ha : y0 - 2 * cy + y1 = a) (hb : cy - y0 = b) (hc : y0 - y = c) (hB : b * b = B) (hP : a * c = P) (hd : B - P = d) (hn : 0 < d ∨ (d = 0 ∧ 0 < a)) (ha1 : a ≠ 0)
    (C1 : Hid (∀ Z, Calls Try.prog 47 #[.int .i64 a, .int .i64 b, .int .i64 1, .int .i64 d] Z fun en w' => en = .returned (.bool true) ∧ Grown Z w')) (C2 : Hid (∀ Z, Calls Try.prog 48 #[.int .i64 a, .int .i64 b, .int .i64 1, .int .i64 d, .bool true] Z fun en w' => en = .returned (.bool true) ∧ Grown Z w')) (C3 : Hid (∀ Z, Calls Try.prog 50 #[.int .i64 a, .int .i64 b, .int .i64 (-1), .int .i64 d] Z fun en w' => en = .returned (.bool true) ∧ Grown Z w')) (W : World) :
    Calls Try.prog 36 #[.agg #[.int .i64 x0, .int .i64 y0, .bool true, .int .i64 cx, .int .i64 cy, .int .i64 x1, .int .i64 y1], .int .i64 y] W (HitsOut ([] ++ []) W) := by
  have k1 := Pl.bd_mul 16382 16382 (show -16382 ≤ b ∧ b ≤ 16382 by omega) (show -16382 ≤ b ∧ b ≤ 16382 by omega)
  have k2 := Pl.bd_mul 32764 16382 (show -32764 ≤ a ∧ a ≤ 32764 by omega) (show -16382 ≤ c ∧ c ≤ 16382 by omega)
  rw [hB] at k1
  rw [hP] at k2
  obtain ⟨k3, k4⟩ := k1
  obtain ⟨k5, k6⟩ := k2
  have hab : (a == 0) = false := beq_eq_false_iff_ne.2 ha1
  have hdd : (d == 0) = false ∨ ((d == 0) = true ∧ 0 < a) := hn.imp (fun h => beq_eq_false_iff_ne.2 (by omega)) (fun h => ⟨beq_iff_eq.2 h.1, h.2⟩)
  have hd0 : 0 ≤ d := by omega
  clear hn ha1
  obtain ⟨ut, up, uq, ud, um⟩ := U
  obtain ⟨dt, dp, dq, dd, dm⟩ := D
  rcases hdd with hdd | ⟨hdd, hap⟩
  all_goals
    go_enter Try.func36, Try.ntmps36
    go_wp2_with fail
    go_quiet (fail)
    generalize hZ : World.drewN _ _ = w0
    have BK0 : Hid (Blk W W.heap.size [.int .i64 x0, .int .i64 y0, .bool true, .int .i64 cx, .int .i64 cy, .int .i64 x1, .int .i64 y1] w0) := Lib.hid (by rw [← hZ]; exact (Blk.new #[.int .i64 x0, .int .i64 y0, .bool true, .int .i64 cx, .int .i64 cy, .int .i64 x1, .int .i64 y1] 25 (Nat.le_refl _)).drewN _)
    have F0 : Hid (Fr (fun _ => False) W w0) := Lib.hid (by rw [← hZ]; exact Fr.of_grown _ (grown_drewN ((Grown.refl W).alloc _ _) _))
    clear hZ
    go_wp2_with fail
    refine (C1.out _).mono ?_
    rintro en w1 ⟨rfl, g⟩
    have F1 := Lib.hid (F0.out.trans (Fr.of_grown _ g))
    have BK1 := Lib.hid (BK0.out.grow g)
    clear g
    clear F0 BK0
    go_wp2_with fail
    refine (C2.out _).mono ?_
    rintro en w2 ⟨rfl, g⟩
    have F2 := Lib.hid (F1.out.trans (Fr.of_grown _ g))
    have BK2 := Lib.hid (BK1.out.grow g)
    clear g
    clear F1 BK1
    go_wp2_with fail
    refine (C3.out _).mono ?_
    rintro en w3 ⟨rfl, g⟩
    have F3 := Lib.hid (F2.out.trans (Fr.of_grown _ g))
    have BK3 := Lib.hid (BK2.out.grow g)
    clear g
    clear F2 BK2
    go_wp2_with fail
    go_ret
    exact ⟨_, rfl, .inl ⟨rfl, rfl⟩, F3.out⟩
set_option maxHeartbeats 8000000 in
set_option maxRecDepth 100000 in
theorem hits_oo (x0 y0 cx cy x1 y1 y a b c B P d : Int) (U D : Pl.Sp) (h1 : -8191 ≤ x0 ∧ x0 ≤ 8191) (h2 : -8191 ≤ y0 ∧ y0 ≤ 8191) (h3 : -8191 ≤ cx ∧ cx ≤ 8191) (h4 : -8191 ≤ cy ∧ cy ≤ 8191) (h5 : -8191 ≤ x1 ∧ x1 ≤ 8191) (h6 : -8191 ≤ y1 ∧ y1 ≤ 8191) (h7 : -8191 ≤ y ∧ y ≤ 8191)
    (ha : y0 - 2 * cy + y1 = a) (hb : cy - y0 = b) (hc : y0 - y = c) (hB : b * b = B) (hP : a * c = P) (hd : B - P = d) (hn : 0 < d ∨ (d = 0 ∧ 0 < a)) (ha1 : a ≠ 0)
    (C1 : Hid (∀ Z, Calls Try.prog 47 #[.int .i64 a, .int .i64 b, .int .i64 1, .int .i64 d] Z fun en w' => en = .returned (.bool true) ∧ Grown Z w')) (C2 : Hid (∀ Z, Calls Try.prog 48 #[.int .i64 a, .int .i64 b, .int .i64 1, .int .i64 d, .bool true] Z fun en w' => en = .returned (.bool true) ∧ Grown Z w')) (C3 : Hid (∀ Z, Calls Try.prog 50 #[.int .i64 a, .int .i64 b, .int .i64 (-1), .int .i64 d] Z fun en w' => en = .returned (.bool false) ∧ Grown Z w')) (C4 : Hid (∀ Z, Calls Try.prog 48 #[.int .i64 a, .int .i64 b, .int .i64 (-1), .int .i64 d, .bool false] Z fun en w' => en = .returned (.bool false) ∧ Grown Z w')) (W : World) :
    Calls Try.prog 36 #[.agg #[.int .i64 x0, .int .i64 y0, .bool true, .int .i64 cx, .int .i64 cy, .int .i64 x1, .int .i64 y1], .int .i64 y] W (HitsOut ([] ++ []) W) := by
  have k1 := Pl.bd_mul 16382 16382 (show -16382 ≤ b ∧ b ≤ 16382 by omega) (show -16382 ≤ b ∧ b ≤ 16382 by omega)
  have k2 := Pl.bd_mul 32764 16382 (show -32764 ≤ a ∧ a ≤ 32764 by omega) (show -16382 ≤ c ∧ c ≤ 16382 by omega)
  rw [hB] at k1
  rw [hP] at k2
  obtain ⟨k3, k4⟩ := k1
  obtain ⟨k5, k6⟩ := k2
  have hab : (a == 0) = false := beq_eq_false_iff_ne.2 ha1
  have hdd : (d == 0) = false ∨ ((d == 0) = true ∧ 0 < a) := hn.imp (fun h => beq_eq_false_iff_ne.2 (by omega)) (fun h => ⟨beq_iff_eq.2 h.1, h.2⟩)
  have hd0 : 0 ≤ d := by omega
  clear hn ha1
  obtain ⟨ut, up, uq, ud, um⟩ := U
  obtain ⟨dt, dp, dq, dd, dm⟩ := D
  rcases hdd with hdd | ⟨hdd, hap⟩
  all_goals
    go_enter Try.func36, Try.ntmps36
    go_wp2_with fail
    go_quiet (fail)
    generalize hZ : World.drewN _ _ = w0
    have BK0 : Hid (Blk W W.heap.size [.int .i64 x0, .int .i64 y0, .bool true, .int .i64 cx, .int .i64 cy, .int .i64 x1, .int .i64 y1] w0) := Lib.hid (by rw [← hZ]; exact (Blk.new #[.int .i64 x0, .int .i64 y0, .bool true, .int .i64 cx, .int .i64 cy, .int .i64 x1, .int .i64 y1] 25 (Nat.le_refl _)).drewN _)
    have F0 : Hid (Fr (fun _ => False) W w0) := Lib.hid (by rw [← hZ]; exact Fr.of_grown _ (grown_drewN ((Grown.refl W).alloc _ _) _))
    clear hZ
    go_wp2_with fail
    refine (C1.out _).mono ?_
    rintro en w1 ⟨rfl, g⟩
    have F1 := Lib.hid (F0.out.trans (Fr.of_grown _ g))
    have BK1 := Lib.hid (BK0.out.grow g)
    clear g
    clear F0 BK0
    go_wp2_with fail
    refine (C2.out _).mono ?_
    rintro en w2 ⟨rfl, g⟩
    have F2 := Lib.hid (F1.out.trans (Fr.of_grown _ g))
    have BK2 := Lib.hid (BK1.out.grow g)
    clear g
    clear F1 BK1
    go_wp2_with fail
    refine (C3.out _).mono ?_
    rintro en w3 ⟨rfl, g⟩
    have F3 := Lib.hid (F2.out.trans (Fr.of_grown _ g))
    have BK3 := Lib.hid (BK2.out.grow g)
    clear g
    clear F2 BK2
    go_wp2_with fail
    refine (C4.out _).mono ?_
    rintro en w4 ⟨rfl, g⟩
    have F4 := Lib.hid (F3.out.trans (Fr.of_grown _ g))
    have BK4 := Lib.hid (BK3.out.grow g)
    clear g
    clear F3 BK3
    go_wp2_with fail
    go_ret
    exact ⟨_, rfl, .inl ⟨rfl, rfl⟩, F4.out⟩
set_option maxHeartbeats 8000000 in
set_option maxRecDepth 100000 in
theorem hits_oy (x0 y0 cx cy x1 y1 y a b c B P d : Int) (U D : Pl.Sp) (h1 : -8191 ≤ x0 ∧ x0 ≤ 8191) (h2 : -8191 ≤ y0 ∧ y0 ≤ 8191) (h3 : -8191 ≤ cx ∧ cx ≤ 8191) (h4 : -8191 ≤ cy ∧ cy ≤ 8191) (h5 : -8191 ≤ x1 ∧ x1 ≤ 8191) (h6 : -8191 ≤ y1 ∧ y1 ≤ 8191) (h7 : -8191 ≤ y ∧ y ≤ 8191)
    (ha : y0 - 2 * cy + y1 = a) (hb : cy - y0 = b) (hc : y0 - y = c) (hB : b * b = B) (hP : a * c = P) (hd : B - P = d) (hn : 0 < d ∨ (d = 0 ∧ 0 < a)) (ha1 : a ≠ 0)
    (C1 : Hid (∀ Z, Calls Try.prog 47 #[.int .i64 a, .int .i64 b, .int .i64 1, .int .i64 d] Z fun en w' => en = .returned (.bool true) ∧ Grown Z w')) (C2 : Hid (∀ Z, Calls Try.prog 48 #[.int .i64 a, .int .i64 b, .int .i64 1, .int .i64 d, .bool true] Z fun en w' => en = .returned (.bool true) ∧ Grown Z w')) (C3 : Hid (∀ Z, Calls Try.prog 50 #[.int .i64 a, .int .i64 b, .int .i64 (-1), .int .i64 d] Z fun en w' => en = .returned (.bool false) ∧ Grown Z w')) (C4 : Hid (∀ Z, Calls Try.prog 48 #[.int .i64 a, .int .i64 b, .int .i64 (-1), .int .i64 d, .bool false] Z fun en w' => en = .returned (.bool true) ∧ Grown Z w')) (H2 : Hid (∀ Z, Calls Try.prog 49 #[.agg #[.int .i64 x0, .int .i64 y0, .bool true, .int .i64 cx, .int .i64 cy, .int .i64 x1, .int .i64 y1], .int .i64 a, .int .i64 b, .int .i64 (-1), .int .i64 d] Z fun en w' => en = .returned (hv D) ∧ Grown Z w')) (W : World) :
    Calls Try.prog 36 #[.agg #[.int .i64 x0, .int .i64 y0, .bool true, .int .i64 cx, .int .i64 cy, .int .i64 x1, .int .i64 y1], .int .i64 y] W (HitsOut ([] ++ [D]) W) := by
  have k1 := Pl.bd_mul 16382 16382 (show -16382 ≤ b ∧ b ≤ 16382 by omega) (show -16382 ≤ b ∧ b ≤ 16382 by omega)
  have k2 := Pl.bd_mul 32764 16382 (show -32764 ≤ a ∧ a ≤ 32764 by omega) (show -16382 ≤ c ∧ c ≤ 16382 by omega)
  rw [hB] at k1
  rw [hP] at k2
  obtain ⟨k3, k4⟩ := k1
  obtain ⟨k5, k6⟩ := k2
  have hab : (a == 0) = false := beq_eq_false_iff_ne.2 ha1
  have hdd : (d == 0) = false ∨ ((d == 0) = true ∧ 0 < a) := hn.imp (fun h => beq_eq_false_iff_ne.2 (by omega)) (fun h => ⟨beq_iff_eq.2 h.1, h.2⟩)
  have hd0 : 0 ≤ d := by omega
  clear hn ha1
  obtain ⟨ut, up, uq, ud, um⟩ := U
  obtain ⟨dt, dp, dq, dd, dm⟩ := D
  rcases hdd with hdd | ⟨hdd, hap⟩
  all_goals
    go_enter Try.func36, Try.ntmps36
    go_wp2_with fail
    go_quiet (fail)
    generalize hZ : World.drewN _ _ = w0
    have BK0 : Hid (Blk W W.heap.size [.int .i64 x0, .int .i64 y0, .bool true, .int .i64 cx, .int .i64 cy, .int .i64 x1, .int .i64 y1] w0) := Lib.hid (by rw [← hZ]; exact (Blk.new #[.int .i64 x0, .int .i64 y0, .bool true, .int .i64 cx, .int .i64 cy, .int .i64 x1, .int .i64 y1] 25 (Nat.le_refl _)).drewN _)
    have F0 : Hid (Fr (fun _ => False) W w0) := Lib.hid (by rw [← hZ]; exact Fr.of_grown _ (grown_drewN ((Grown.refl W).alloc _ _) _))
    clear hZ
    go_wp2_with fail
    refine (C1.out _).mono ?_
    rintro en w1 ⟨rfl, g⟩
    have F1 := Lib.hid (F0.out.trans (Fr.of_grown _ g))
    have BK1 := Lib.hid (BK0.out.grow g)
    clear g
    clear F0 BK0
    go_wp2_with fail
    refine (C2.out _).mono ?_
    rintro en w2 ⟨rfl, g⟩
    have F2 := Lib.hid (F1.out.trans (Fr.of_grown _ g))
    have BK2 := Lib.hid (BK1.out.grow g)
    clear g
    clear F1 BK1
    go_wp2_with fail
    refine (C3.out _).mono ?_
    rintro en w3 ⟨rfl, g⟩
    have F3 := Lib.hid (F2.out.trans (Fr.of_grown _ g))
    have BK3 := Lib.hid (BK2.out.grow g)
    clear g
    clear F2 BK2
    go_wp2_with fail
    refine (C4.out _).mono ?_
    rintro en w4 ⟨rfl, g⟩
    have F4 := Lib.hid (F3.out.trans (Fr.of_grown _ g))
    have BK4 := Lib.hid (BK3.out.grow g)
    clear g
    clear F3 BK3
    obtain ⟨e0, e1, e2, e3, e4, e5, e6⟩ := BK4.out.at0
    go_wp2_with fail
    refine (H2.out _).mono ?_
    rintro en w5 ⟨rfl, g⟩
    have F5 := Lib.hid (F4.out.trans (Fr.of_grown _ g))
    have BK5 := Lib.hid (BK4.out.grow g)
    clear g
    clear F4 BK4
    clear e0 e1 e2 e3 e4 e5 e6
    simp only [hv]
    obtain ⟨i0, hi, hz0, hz1, hz2⟩ := info_parts Try.hitInfo
    have HII := Lib.hid hi
    have FZ := Lib.hid (F5.out.trans (Fr.alloc (fun _ => False) w5 (.cells #[.int .i64 dt, .int .i64 dp, .int .i64 dq, .int .i64 dd, .int .i64 dm] 67)))
    have BZ := Lib.hid (BK5.out.alloc #[.int .i64 dt, .int .i64 dp, .int .i64 dq, .int .i64 dd, .int .i64 dm] 67)
    have HOZ := Lib.hid (World.ownsRow_nil (w5.alloc (.cells #[.int .i64 dt, .int .i64 dp, .int .i64 dq, .int .i64 dd, .int .i64 dm] 67)) W.heap.size 67 5)
    have HBS : Hid (W.heap.size ≤ (w5.alloc (.cells #[.int .i64 dt, .int .i64 dp, .int .i64 dq, .int .i64 dd, .int .i64 dm] 67)).heap.size) := Lib.hid FZ.out.2.2.1
    have HCC : Hid (∀ ad, some (⟨w5.heap.size, 0, none⟩ : Addr) = some ad → ∀ j u, (Pl.sc ⟨dt, dp, dq, dd, dm⟩)[j]? = some u → (w5.alloc (.cells #[.int .i64 dt, .int .i64 dp, .int .i64 dq, .int .i64 dd, .int .i64 dm] 67)).cell? (ad.add j) = some u) := Lib.hid (fun ad q j u hu => by
      injection q with q
      subst q
      exact alloc_cell _ _ _ j u hu)
    clear hi F5 BK5
    go_wp2_with (at_builtin; refine wpList_append_all _ W.heap.size 64 67 i0 _ 5 40 Try.underlying64 HII.out hz0 hz1 hz2 rfl (by decide) (.slice none 0 0) 0 [] HOZ.out (some ⟨w5.heap.size, 0, none⟩) 1 1 (Pl.sc ⟨dt, dp, dq, dd, dm⟩) (by intro q; cases q) rfl HCC.out (Pl.sc_one _) (by decide) (by decide) HBS.out (hgd := rfl) (.tmp 93) (.tmp 99) rfl (by simp [Act.eval]) (by simp [Act.eval]) ?_)
    intro lv1 w6 r g hg
    have FG := Lib.hid (Fr.grown (fun _ => False) g (fun k hk => by cases hk))
    have F6 := Lib.hid (FZ.out.trans FG.out)
    have BK6 := Lib.hid (BZ.out.fr0 FG.out)
    clear FG
    have HO6 := Lib.hid r
    clear r g hg FZ BZ HOZ HBS HCC HII hz0 hz1 hz2
    go_wp2_with fail
    go_ret
    exact ⟨_, rfl, own_rowH (by simpa [Pl.flatH] using HO6.out), F6.out⟩
set_option maxHeartbeats 8000000 in
set_option maxRecDepth 100000 in
theorem hits_yn (x0 y0 cx cy x1 y1 y a b c B P d : Int) (U D : Pl.Sp) (h1 : -8191 ≤ x0 ∧ x0 ≤ 8191) (h2 : -8191 ≤ y0 ∧ y0 ≤ 8191) (h3 : -8191 ≤ cx ∧ cx ≤ 8191) (h4 : -8191 ≤ cy ∧ cy ≤ 8191) (h5 : -8191 ≤ x1 ∧ x1 ≤ 8191) (h6 : -8191 ≤ y1 ∧ y1 ≤ 8191) (h7 : -8191 ≤ y ∧ y ≤ 8191)
    (ha : y0 - 2 * cy + y1 = a) (hb : cy - y0 = b) (hc : y0 - y = c) (hB : b * b = B) (hP : a * c = P) (hd : B - P = d) (hn : 0 < d ∨ (d = 0 ∧ 0 < a)) (ha1 : a ≠ 0)
    (C1 : Hid (∀ Z, Calls Try.prog 47 #[.int .i64 a, .int .i64 b, .int .i64 1, .int .i64 d] Z fun en w' => en = .returned (.bool true) ∧ Grown Z w')) (C2 : Hid (∀ Z, Calls Try.prog 48 #[.int .i64 a, .int .i64 b, .int .i64 1, .int .i64 d, .bool true] Z fun en w' => en = .returned (.bool false) ∧ Grown Z w')) (C3 : Hid (∀ Z, Calls Try.prog 50 #[.int .i64 a, .int .i64 b, .int .i64 (-1), .int .i64 d] Z fun en w' => en = .returned (.bool true) ∧ Grown Z w')) (H1 : Hid (∀ Z, Calls Try.prog 49 #[.agg #[.int .i64 x0, .int .i64 y0, .bool true, .int .i64 cx, .int .i64 cy, .int .i64 x1, .int .i64 y1], .int .i64 a, .int .i64 b, .int .i64 1, .int .i64 d] Z fun en w' => en = .returned (hv U) ∧ Grown Z w')) (W : World) :
    Calls Try.prog 36 #[.agg #[.int .i64 x0, .int .i64 y0, .bool true, .int .i64 cx, .int .i64 cy, .int .i64 x1, .int .i64 y1], .int .i64 y] W (HitsOut ([U] ++ []) W) := by
  have k1 := Pl.bd_mul 16382 16382 (show -16382 ≤ b ∧ b ≤ 16382 by omega) (show -16382 ≤ b ∧ b ≤ 16382 by omega)
  have k2 := Pl.bd_mul 32764 16382 (show -32764 ≤ a ∧ a ≤ 32764 by omega) (show -16382 ≤ c ∧ c ≤ 16382 by omega)
  rw [hB] at k1
  rw [hP] at k2
  obtain ⟨k3, k4⟩ := k1
  obtain ⟨k5, k6⟩ := k2
  have hab : (a == 0) = false := beq_eq_false_iff_ne.2 ha1
  have hdd : (d == 0) = false ∨ ((d == 0) = true ∧ 0 < a) := hn.imp (fun h => beq_eq_false_iff_ne.2 (by omega)) (fun h => ⟨beq_iff_eq.2 h.1, h.2⟩)
  have hd0 : 0 ≤ d := by omega
  clear hn ha1
  obtain ⟨ut, up, uq, ud, um⟩ := U
  obtain ⟨dt, dp, dq, dd, dm⟩ := D
  rcases hdd with hdd | ⟨hdd, hap⟩
  all_goals
    go_enter Try.func36, Try.ntmps36
    go_wp2_with fail
    go_quiet (fail)
    generalize hZ : World.drewN _ _ = w0
    have BK0 : Hid (Blk W W.heap.size [.int .i64 x0, .int .i64 y0, .bool true, .int .i64 cx, .int .i64 cy, .int .i64 x1, .int .i64 y1] w0) := Lib.hid (by rw [← hZ]; exact (Blk.new #[.int .i64 x0, .int .i64 y0, .bool true, .int .i64 cx, .int .i64 cy, .int .i64 x1, .int .i64 y1] 25 (Nat.le_refl _)).drewN _)
    have F0 : Hid (Fr (fun _ => False) W w0) := Lib.hid (by rw [← hZ]; exact Fr.of_grown _ (grown_drewN ((Grown.refl W).alloc _ _) _))
    clear hZ
    go_wp2_with fail
    refine (C1.out _).mono ?_
    rintro en w1 ⟨rfl, g⟩
    have F1 := Lib.hid (F0.out.trans (Fr.of_grown _ g))
    have BK1 := Lib.hid (BK0.out.grow g)
    clear g
    clear F0 BK0
    go_wp2_with fail
    refine (C2.out _).mono ?_
    rintro en w2 ⟨rfl, g⟩
    have F2 := Lib.hid (F1.out.trans (Fr.of_grown _ g))
    have BK2 := Lib.hid (BK1.out.grow g)
    clear g
    clear F1 BK1
    obtain ⟨e0, e1, e2, e3, e4, e5, e6⟩ := BK2.out.at0
    go_wp2_with fail
    refine (H1.out _).mono ?_
    rintro en w3 ⟨rfl, g⟩
    have F3 := Lib.hid (F2.out.trans (Fr.of_grown _ g))
    have BK3 := Lib.hid (BK2.out.grow g)
    clear g
    clear F2 BK2
    clear e0 e1 e2 e3 e4 e5 e6
    simp only [hv]
    obtain ⟨i0, hi, hz0, hz1, hz2⟩ := info_parts Try.hitInfo
    have HII := Lib.hid hi
    have FZ := Lib.hid (F3.out.trans (Fr.alloc (fun _ => False) w3 (.cells #[.int .i64 ut, .int .i64 up, .int .i64 uq, .int .i64 ud, .int .i64 um] 67)))
    have BZ := Lib.hid (BK3.out.alloc #[.int .i64 ut, .int .i64 up, .int .i64 uq, .int .i64 ud, .int .i64 um] 67)
    have HOZ := Lib.hid (World.ownsRow_nil (w3.alloc (.cells #[.int .i64 ut, .int .i64 up, .int .i64 uq, .int .i64 ud, .int .i64 um] 67)) W.heap.size 67 5)
    have HBS : Hid (W.heap.size ≤ (w3.alloc (.cells #[.int .i64 ut, .int .i64 up, .int .i64 uq, .int .i64 ud, .int .i64 um] 67)).heap.size) := Lib.hid FZ.out.2.2.1
    have HCC : Hid (∀ ad, some (⟨w3.heap.size, 0, none⟩ : Addr) = some ad → ∀ j u, (Pl.sc ⟨ut, up, uq, ud, um⟩)[j]? = some u → (w3.alloc (.cells #[.int .i64 ut, .int .i64 up, .int .i64 uq, .int .i64 ud, .int .i64 um] 67)).cell? (ad.add j) = some u) := Lib.hid (fun ad q j u hu => by
      injection q with q
      subst q
      exact alloc_cell _ _ _ j u hu)
    clear hi F3 BK3
    go_wp2_with (at_builtin; refine wpList_append_all _ W.heap.size 64 67 i0 _ 5 40 Try.underlying64 HII.out hz0 hz1 hz2 rfl (by decide) (.slice none 0 0) 0 [] HOZ.out (some ⟨w3.heap.size, 0, none⟩) 1 1 (Pl.sc ⟨ut, up, uq, ud, um⟩) (by intro q; cases q) rfl HCC.out (Pl.sc_one _) (by decide) (by decide) HBS.out (hgd := rfl) (.tmp 74) (.tmp 80) rfl (by simp [Act.eval]) (by simp [Act.eval]) ?_)
    intro lv1 w4 r g hg
    have FG := Lib.hid (Fr.grown (fun _ => False) g (fun k hk => by cases hk))
    have F4 := Lib.hid (FZ.out.trans FG.out)
    have BK4 := Lib.hid (BZ.out.fr0 FG.out)
    clear FG
    have HO4 := Lib.hid r
    clear r g hg FZ BZ HOZ HBS HCC HII hz0 hz1 hz2
    go_wp2_with fail
    refine (C3.out _).mono ?_
    rintro en w5 ⟨rfl, g⟩
    have F5 := Lib.hid (F4.out.trans (Fr.of_grown _ g))
    have BK5 := Lib.hid (BK4.out.grow g)
    have HO5 := Lib.hid (own_fr HO4.out (Fr.of_grown (fun _ => False) g) (fun _ _ f => f))
    clear g
    clear F4 BK4 HO4
    go_wp2_with fail
    go_ret
    exact ⟨_, rfl, own_rowH (by simpa [Pl.flatH] using HO5.out), F5.out⟩
set_option maxHeartbeats 8000000 in
set_option maxRecDepth 100000 in
theorem hits_yo (x0 y0 cx cy x1 y1 y a b c B P d : Int) (U D : Pl.Sp) (h1 : -8191 ≤ x0 ∧ x0 ≤ 8191) (h2 : -8191 ≤ y0 ∧ y0 ≤ 8191) (h3 : -8191 ≤ cx ∧ cx ≤ 8191) (h4 : -8191 ≤ cy ∧ cy ≤ 8191) (h5 : -8191 ≤ x1 ∧ x1 ≤ 8191) (h6 : -8191 ≤ y1 ∧ y1 ≤ 8191) (h7 : -8191 ≤ y ∧ y ≤ 8191)
    (ha : y0 - 2 * cy + y1 = a) (hb : cy - y0 = b) (hc : y0 - y = c) (hB : b * b = B) (hP : a * c = P) (hd : B - P = d) (hn : 0 < d ∨ (d = 0 ∧ 0 < a)) (ha1 : a ≠ 0)
    (C1 : Hid (∀ Z, Calls Try.prog 47 #[.int .i64 a, .int .i64 b, .int .i64 1, .int .i64 d] Z fun en w' => en = .returned (.bool true) ∧ Grown Z w')) (C2 : Hid (∀ Z, Calls Try.prog 48 #[.int .i64 a, .int .i64 b, .int .i64 1, .int .i64 d, .bool true] Z fun en w' => en = .returned (.bool false) ∧ Grown Z w')) (C3 : Hid (∀ Z, Calls Try.prog 50 #[.int .i64 a, .int .i64 b, .int .i64 (-1), .int .i64 d] Z fun en w' => en = .returned (.bool false) ∧ Grown Z w')) (C4 : Hid (∀ Z, Calls Try.prog 48 #[.int .i64 a, .int .i64 b, .int .i64 (-1), .int .i64 d, .bool false] Z fun en w' => en = .returned (.bool false) ∧ Grown Z w')) (H1 : Hid (∀ Z, Calls Try.prog 49 #[.agg #[.int .i64 x0, .int .i64 y0, .bool true, .int .i64 cx, .int .i64 cy, .int .i64 x1, .int .i64 y1], .int .i64 a, .int .i64 b, .int .i64 1, .int .i64 d] Z fun en w' => en = .returned (hv U) ∧ Grown Z w')) (W : World) :
    Calls Try.prog 36 #[.agg #[.int .i64 x0, .int .i64 y0, .bool true, .int .i64 cx, .int .i64 cy, .int .i64 x1, .int .i64 y1], .int .i64 y] W (HitsOut ([U] ++ []) W) := by
  have k1 := Pl.bd_mul 16382 16382 (show -16382 ≤ b ∧ b ≤ 16382 by omega) (show -16382 ≤ b ∧ b ≤ 16382 by omega)
  have k2 := Pl.bd_mul 32764 16382 (show -32764 ≤ a ∧ a ≤ 32764 by omega) (show -16382 ≤ c ∧ c ≤ 16382 by omega)
  rw [hB] at k1
  rw [hP] at k2
  obtain ⟨k3, k4⟩ := k1
  obtain ⟨k5, k6⟩ := k2
  have hab : (a == 0) = false := beq_eq_false_iff_ne.2 ha1
  have hdd : (d == 0) = false ∨ ((d == 0) = true ∧ 0 < a) := hn.imp (fun h => beq_eq_false_iff_ne.2 (by omega)) (fun h => ⟨beq_iff_eq.2 h.1, h.2⟩)
  have hd0 : 0 ≤ d := by omega
  clear hn ha1
  obtain ⟨ut, up, uq, ud, um⟩ := U
  obtain ⟨dt, dp, dq, dd, dm⟩ := D
  rcases hdd with hdd | ⟨hdd, hap⟩
  all_goals
    go_enter Try.func36, Try.ntmps36
    go_wp2_with fail
    go_quiet (fail)
    generalize hZ : World.drewN _ _ = w0
    have BK0 : Hid (Blk W W.heap.size [.int .i64 x0, .int .i64 y0, .bool true, .int .i64 cx, .int .i64 cy, .int .i64 x1, .int .i64 y1] w0) := Lib.hid (by rw [← hZ]; exact (Blk.new #[.int .i64 x0, .int .i64 y0, .bool true, .int .i64 cx, .int .i64 cy, .int .i64 x1, .int .i64 y1] 25 (Nat.le_refl _)).drewN _)
    have F0 : Hid (Fr (fun _ => False) W w0) := Lib.hid (by rw [← hZ]; exact Fr.of_grown _ (grown_drewN ((Grown.refl W).alloc _ _) _))
    clear hZ
    go_wp2_with fail
    refine (C1.out _).mono ?_
    rintro en w1 ⟨rfl, g⟩
    have F1 := Lib.hid (F0.out.trans (Fr.of_grown _ g))
    have BK1 := Lib.hid (BK0.out.grow g)
    clear g
    clear F0 BK0
    go_wp2_with fail
    refine (C2.out _).mono ?_
    rintro en w2 ⟨rfl, g⟩
    have F2 := Lib.hid (F1.out.trans (Fr.of_grown _ g))
    have BK2 := Lib.hid (BK1.out.grow g)
    clear g
    clear F1 BK1
    obtain ⟨e0, e1, e2, e3, e4, e5, e6⟩ := BK2.out.at0
    go_wp2_with fail
    refine (H1.out _).mono ?_
    rintro en w3 ⟨rfl, g⟩
    have F3 := Lib.hid (F2.out.trans (Fr.of_grown _ g))
    have BK3 := Lib.hid (BK2.out.grow g)
    clear g
    clear F2 BK2
    clear e0 e1 e2 e3 e4 e5 e6
    simp only [hv]
    obtain ⟨i0, hi, hz0, hz1, hz2⟩ := info_parts Try.hitInfo
    have HII := Lib.hid hi
    have FZ := Lib.hid (F3.out.trans (Fr.alloc (fun _ => False) w3 (.cells #[.int .i64 ut, .int .i64 up, .int .i64 uq, .int .i64 ud, .int .i64 um] 67)))
    have BZ := Lib.hid (BK3.out.alloc #[.int .i64 ut, .int .i64 up, .int .i64 uq, .int .i64 ud, .int .i64 um] 67)
    have HOZ := Lib.hid (World.ownsRow_nil (w3.alloc (.cells #[.int .i64 ut, .int .i64 up, .int .i64 uq, .int .i64 ud, .int .i64 um] 67)) W.heap.size 67 5)
    have HBS : Hid (W.heap.size ≤ (w3.alloc (.cells #[.int .i64 ut, .int .i64 up, .int .i64 uq, .int .i64 ud, .int .i64 um] 67)).heap.size) := Lib.hid FZ.out.2.2.1
    have HCC : Hid (∀ ad, some (⟨w3.heap.size, 0, none⟩ : Addr) = some ad → ∀ j u, (Pl.sc ⟨ut, up, uq, ud, um⟩)[j]? = some u → (w3.alloc (.cells #[.int .i64 ut, .int .i64 up, .int .i64 uq, .int .i64 ud, .int .i64 um] 67)).cell? (ad.add j) = some u) := Lib.hid (fun ad q j u hu => by
      injection q with q
      subst q
      exact alloc_cell _ _ _ j u hu)
    clear hi F3 BK3
    go_wp2_with (at_builtin; refine wpList_append_all _ W.heap.size 64 67 i0 _ 5 40 Try.underlying64 HII.out hz0 hz1 hz2 rfl (by decide) (.slice none 0 0) 0 [] HOZ.out (some ⟨w3.heap.size, 0, none⟩) 1 1 (Pl.sc ⟨ut, up, uq, ud, um⟩) (by intro q; cases q) rfl HCC.out (Pl.sc_one _) (by decide) (by decide) HBS.out (hgd := rfl) (.tmp 74) (.tmp 80) rfl (by simp [Act.eval]) (by simp [Act.eval]) ?_)
    intro lv1 w4 r g hg
    have FG := Lib.hid (Fr.grown (fun _ => False) g (fun k hk => by cases hk))
    have F4 := Lib.hid (FZ.out.trans FG.out)
    have BK4 := Lib.hid (BZ.out.fr0 FG.out)
    clear FG
    have HO4 := Lib.hid r
    clear r g hg FZ BZ HOZ HBS HCC HII hz0 hz1 hz2
    go_wp2_with fail
    refine (C3.out _).mono ?_
    rintro en w5 ⟨rfl, g⟩
    have F5 := Lib.hid (F4.out.trans (Fr.of_grown _ g))
    have BK5 := Lib.hid (BK4.out.grow g)
    have HO5 := Lib.hid (own_fr HO4.out (Fr.of_grown (fun _ => False) g) (fun _ _ f => f))
    clear g
    clear F4 BK4 HO4
    go_wp2_with fail
    refine (C4.out _).mono ?_
    rintro en w6 ⟨rfl, g⟩
    have F6 := Lib.hid (F5.out.trans (Fr.of_grown _ g))
    have BK6 := Lib.hid (BK5.out.grow g)
    have HO6 := Lib.hid (own_fr HO5.out (Fr.of_grown (fun _ => False) g) (fun _ _ f => f))
    clear g
    clear F5 BK5 HO5
    go_wp2_with fail
    go_ret
    exact ⟨_, rfl, own_rowH (by simpa [Pl.flatH] using HO6.out), F6.out⟩
set_option maxHeartbeats 8000000 in
set_option maxRecDepth 100000 in
theorem hits_yy (x0 y0 cx cy x1 y1 y a b c B P d : Int) (U D : Pl.Sp) (h1 : -8191 ≤ x0 ∧ x0 ≤ 8191) (h2 : -8191 ≤ y0 ∧ y0 ≤ 8191) (h3 : -8191 ≤ cx ∧ cx ≤ 8191) (h4 : -8191 ≤ cy ∧ cy ≤ 8191) (h5 : -8191 ≤ x1 ∧ x1 ≤ 8191) (h6 : -8191 ≤ y1 ∧ y1 ≤ 8191) (h7 : -8191 ≤ y ∧ y ≤ 8191)
    (ha : y0 - 2 * cy + y1 = a) (hb : cy - y0 = b) (hc : y0 - y = c) (hB : b * b = B) (hP : a * c = P) (hd : B - P = d) (hn : 0 < d ∨ (d = 0 ∧ 0 < a)) (ha1 : a ≠ 0)
    (C1 : Hid (∀ Z, Calls Try.prog 47 #[.int .i64 a, .int .i64 b, .int .i64 1, .int .i64 d] Z fun en w' => en = .returned (.bool true) ∧ Grown Z w')) (C2 : Hid (∀ Z, Calls Try.prog 48 #[.int .i64 a, .int .i64 b, .int .i64 1, .int .i64 d, .bool true] Z fun en w' => en = .returned (.bool false) ∧ Grown Z w')) (C3 : Hid (∀ Z, Calls Try.prog 50 #[.int .i64 a, .int .i64 b, .int .i64 (-1), .int .i64 d] Z fun en w' => en = .returned (.bool false) ∧ Grown Z w')) (C4 : Hid (∀ Z, Calls Try.prog 48 #[.int .i64 a, .int .i64 b, .int .i64 (-1), .int .i64 d, .bool false] Z fun en w' => en = .returned (.bool true) ∧ Grown Z w')) (H1 : Hid (∀ Z, Calls Try.prog 49 #[.agg #[.int .i64 x0, .int .i64 y0, .bool true, .int .i64 cx, .int .i64 cy, .int .i64 x1, .int .i64 y1], .int .i64 a, .int .i64 b, .int .i64 1, .int .i64 d] Z fun en w' => en = .returned (hv U) ∧ Grown Z w')) (H2 : Hid (∀ Z, Calls Try.prog 49 #[.agg #[.int .i64 x0, .int .i64 y0, .bool true, .int .i64 cx, .int .i64 cy, .int .i64 x1, .int .i64 y1], .int .i64 a, .int .i64 b, .int .i64 (-1), .int .i64 d] Z fun en w' => en = .returned (hv D) ∧ Grown Z w')) (W : World) :
    Calls Try.prog 36 #[.agg #[.int .i64 x0, .int .i64 y0, .bool true, .int .i64 cx, .int .i64 cy, .int .i64 x1, .int .i64 y1], .int .i64 y] W (HitsOut ([U] ++ [D]) W) := by
  have k1 := Pl.bd_mul 16382 16382 (show -16382 ≤ b ∧ b ≤ 16382 by omega) (show -16382 ≤ b ∧ b ≤ 16382 by omega)
  have k2 := Pl.bd_mul 32764 16382 (show -32764 ≤ a ∧ a ≤ 32764 by omega) (show -16382 ≤ c ∧ c ≤ 16382 by omega)
  rw [hB] at k1
  rw [hP] at k2
  obtain ⟨k3, k4⟩ := k1
  obtain ⟨k5, k6⟩ := k2
  have hab : (a == 0) = false := beq_eq_false_iff_ne.2 ha1
  have hdd : (d == 0) = false ∨ ((d == 0) = true ∧ 0 < a) := hn.imp (fun h => beq_eq_false_iff_ne.2 (by omega)) (fun h => ⟨beq_iff_eq.2 h.1, h.2⟩)
  have hd0 : 0 ≤ d := by omega
  clear hn ha1
  obtain ⟨ut, up, uq, ud, um⟩ := U
  obtain ⟨dt, dp, dq, dd, dm⟩ := D
  rcases hdd with hdd | ⟨hdd, hap⟩
  all_goals
    go_enter Try.func36, Try.ntmps36
    go_wp2_with fail
    go_quiet (fail)
    generalize hZ : World.drewN _ _ = w0
    have BK0 : Hid (Blk W W.heap.size [.int .i64 x0, .int .i64 y0, .bool true, .int .i64 cx, .int .i64 cy, .int .i64 x1, .int .i64 y1] w0) := Lib.hid (by rw [← hZ]; exact (Blk.new #[.int .i64 x0, .int .i64 y0, .bool true, .int .i64 cx, .int .i64 cy, .int .i64 x1, .int .i64 y1] 25 (Nat.le_refl _)).drewN _)
    have F0 : Hid (Fr (fun _ => False) W w0) := Lib.hid (by rw [← hZ]; exact Fr.of_grown _ (grown_drewN ((Grown.refl W).alloc _ _) _))
    clear hZ
    go_wp2_with fail
    refine (C1.out _).mono ?_
    rintro en w1 ⟨rfl, g⟩
    have F1 := Lib.hid (F0.out.trans (Fr.of_grown _ g))
    have BK1 := Lib.hid (BK0.out.grow g)
    clear g
    clear F0 BK0
    go_wp2_with fail
    refine (C2.out _).mono ?_
    rintro en w2 ⟨rfl, g⟩
    have F2 := Lib.hid (F1.out.trans (Fr.of_grown _ g))
    have BK2 := Lib.hid (BK1.out.grow g)
    clear g
    clear F1 BK1
    obtain ⟨e0, e1, e2, e3, e4, e5, e6⟩ := BK2.out.at0
    go_wp2_with fail
    refine (H1.out _).mono ?_
    rintro en w3 ⟨rfl, g⟩
    have F3 := Lib.hid (F2.out.trans (Fr.of_grown _ g))
    have BK3 := Lib.hid (BK2.out.grow g)
    clear g
    clear F2 BK2
    clear e0 e1 e2 e3 e4 e5 e6
    simp only [hv]
    obtain ⟨i0, hi, hz0, hz1, hz2⟩ := info_parts Try.hitInfo
    have HII := Lib.hid hi
    have FZ := Lib.hid (F3.out.trans (Fr.alloc (fun _ => False) w3 (.cells #[.int .i64 ut, .int .i64 up, .int .i64 uq, .int .i64 ud, .int .i64 um] 67)))
    have BZ := Lib.hid (BK3.out.alloc #[.int .i64 ut, .int .i64 up, .int .i64 uq, .int .i64 ud, .int .i64 um] 67)
    have HOZ := Lib.hid (World.ownsRow_nil (w3.alloc (.cells #[.int .i64 ut, .int .i64 up, .int .i64 uq, .int .i64 ud, .int .i64 um] 67)) W.heap.size 67 5)
    have HBS : Hid (W.heap.size ≤ (w3.alloc (.cells #[.int .i64 ut, .int .i64 up, .int .i64 uq, .int .i64 ud, .int .i64 um] 67)).heap.size) := Lib.hid FZ.out.2.2.1
    have HCC : Hid (∀ ad, some (⟨w3.heap.size, 0, none⟩ : Addr) = some ad → ∀ j u, (Pl.sc ⟨ut, up, uq, ud, um⟩)[j]? = some u → (w3.alloc (.cells #[.int .i64 ut, .int .i64 up, .int .i64 uq, .int .i64 ud, .int .i64 um] 67)).cell? (ad.add j) = some u) := Lib.hid (fun ad q j u hu => by
      injection q with q
      subst q
      exact alloc_cell _ _ _ j u hu)
    clear hi F3 BK3
    go_wp2_with (at_builtin; refine wpList_append_all _ W.heap.size 64 67 i0 _ 5 40 Try.underlying64 HII.out hz0 hz1 hz2 rfl (by decide) (.slice none 0 0) 0 [] HOZ.out (some ⟨w3.heap.size, 0, none⟩) 1 1 (Pl.sc ⟨ut, up, uq, ud, um⟩) (by intro q; cases q) rfl HCC.out (Pl.sc_one _) (by decide) (by decide) HBS.out (hgd := rfl) (.tmp 74) (.tmp 80) rfl (by simp [Act.eval]) (by simp [Act.eval]) ?_)
    intro lv1 w4 r g hg
    have FG := Lib.hid (Fr.grown (fun _ => False) g (fun k hk => by cases hk))
    have F4 := Lib.hid (FZ.out.trans FG.out)
    have BK4 := Lib.hid (BZ.out.fr0 FG.out)
    clear FG
    have HO4 := Lib.hid r
    clear r g hg FZ BZ HOZ HBS HCC HII hz0 hz1 hz2
    go_wp2_with fail
    refine (C3.out _).mono ?_
    rintro en w5 ⟨rfl, g⟩
    have F5 := Lib.hid (F4.out.trans (Fr.of_grown _ g))
    have BK5 := Lib.hid (BK4.out.grow g)
    have HO5 := Lib.hid (own_fr HO4.out (Fr.of_grown (fun _ => False) g) (fun _ _ f => f))
    clear g
    clear F4 BK4 HO4
    go_wp2_with fail
    refine (C4.out _).mono ?_
    rintro en w6 ⟨rfl, g⟩
    have F6 := Lib.hid (F5.out.trans (Fr.of_grown _ g))
    have BK6 := Lib.hid (BK5.out.grow g)
    have HO6 := Lib.hid (own_fr HO5.out (Fr.of_grown (fun _ => False) g) (fun _ _ f => f))
    clear g
    clear F5 BK5 HO5
    obtain ⟨e0, e1, e2, e3, e4, e5, e6⟩ := BK6.out.at0
    go_wp2_with fail
    refine (H2.out _).mono ?_
    rintro en w7 ⟨rfl, g⟩
    have F7 := Lib.hid (F6.out.trans (Fr.of_grown _ g))
    have BK7 := Lib.hid (BK6.out.grow g)
    have HO7 := Lib.hid (own_fr HO6.out (Fr.of_grown (fun _ => False) g) (fun _ _ f => f))
    clear g
    clear F6 BK6 HO6
    clear e0 e1 e2 e3 e4 e5 e6
    simp only [hv]
    obtain ⟨i0, hi, hz0, hz1, hz2⟩ := info_parts Try.hitInfo
    have HII := Lib.hid hi
    have FZ := Lib.hid (F7.out.trans (Fr.alloc (fun _ => False) w7 (.cells #[.int .i64 dt, .int .i64 dp, .int .i64 dq, .int .i64 dd, .int .i64 dm] 67)))
    have BZ := Lib.hid (BK7.out.alloc #[.int .i64 dt, .int .i64 dp, .int .i64 dq, .int .i64 dd, .int .i64 dm] 67)
    have HOZ := Lib.hid (own_fr HO7.out (Fr.alloc (fun _ => False) w7 (.cells #[.int .i64 dt, .int .i64 dp, .int .i64 dq, .int .i64 dd, .int .i64 dm] 67)) (fun _ _ f => f))
    have HBS : Hid (W.heap.size ≤ (w7.alloc (.cells #[.int .i64 dt, .int .i64 dp, .int .i64 dq, .int .i64 dd, .int .i64 dm] 67)).heap.size) := Lib.hid FZ.out.2.2.1
    have HCC : Hid (∀ ad, some (⟨w7.heap.size, 0, none⟩ : Addr) = some ad → ∀ j u, (Pl.sc ⟨dt, dp, dq, dd, dm⟩)[j]? = some u → (w7.alloc (.cells #[.int .i64 dt, .int .i64 dp, .int .i64 dq, .int .i64 dd, .int .i64 dm] 67)).cell? (ad.add j) = some u) := Lib.hid (fun ad q j u hu => by
      injection q with q
      subst q
      exact alloc_cell _ _ _ j u hu)
    clear hi F7 BK7 HO7
    go_wp2_with (at_builtin; refine wpList_append_all _ W.heap.size 64 67 i0 _ 5 40 Try.underlying64 HII.out hz0 hz1 hz2 rfl (by decide) lv1 1 ([] ++ Pl.sc ⟨ut, up, uq, ud, um⟩) HOZ.out (some ⟨w7.heap.size, 0, none⟩) 1 1 (Pl.sc ⟨dt, dp, dq, dd, dm⟩) (by intro q; cases q) rfl HCC.out (Pl.sc_one _) (by decide) (by decide) HBS.out (hgd := rfl) (.tmp 93) (.tmp 99) rfl (by simp [Act.eval]) (by simp [Act.eval]) ?_)
    intro lv2 w8 r g hg
    have F8 := Lib.hid (FZ.out.trans' (Fr.grown (fun k => lv1.ownBlock = some k) g (fun k hk => hk)) (fun k hk => .inr (own_base HOZ.out k hk)))
    have HO8 := Lib.hid r
    clear r g hg FZ BZ HOZ HBS HCC HII hz0 hz1 hz2
    go_wp2_with fail
    go_ret
    exact ⟨_, rfl, own_rowH (by simpa [Pl.flatH] using HO8.out), F8.out⟩
end Go.Proofs.Ytnienpalbfgflaa
