/- The reference's Hits by one plain function (layer 26). -/
import Derived.Test.YtnienpalbfgflaaC9
namespace Go.Proofs.Ytnienpalbfgflaa
set_option linter.unusedVariables false
open Go.RowKit

set_option maxHeartbeats 4000000 in
set_option maxRecDepth 100000 in
theorem hits_flat (x0 y0 cx cy x1 y1 y a b c : Int) (h1 : -8191 ≤ x0 ∧ x0 ≤ 8191) (h2 : -8191 ≤ y0 ∧ y0 ≤ 8191) (h3 : -8191 ≤ cx ∧ cx ≤ 8191) (h4 : -8191 ≤ cy ∧ cy ≤ 8191) (h5 : -8191 ≤ x1 ∧ x1 ≤ 8191) (h6 : -8191 ≤ y1 ∧ y1 ≤ 8191) (h7 : -8191 ≤ y ∧ y ≤ 8191)
    (ha : y0 - 2 * cy + y1 = a) (hb : cy - y0 = b) (hc : y0 - y = c) (ha0 : (a == 0) = true) (hb0 : (b == 0) = true) (W : World) :
    Calls Try.prog 36 #[.agg #[.int .i64 x0, .int .i64 y0, .bool true, .int .i64 cx, .int .i64 cy, .int .i64 x1, .int .i64 y1], .int .i64 y] W (HitsOut [] W) := by
  have G := Lib.hid (Grown.refl W)
  go_enter Try.func36, Try.ntmps36
  go_wp2_with fail
  go_quiet (fail)
  go_wp2_with fail
  go_ret
  exact ⟨_, rfl, .inl ⟨rfl, rfl⟩, Fr.of_grown _ (grown_drewN (G.out.alloc _ _) _)⟩
set_option maxHeartbeats 4000000 in
set_option maxRecDepth 100000 in
theorem hits_none (x0 y0 cx cy x1 y1 y a b c B P d : Int) (h1 : -8191 ≤ x0 ∧ x0 ≤ 8191) (h2 : -8191 ≤ y0 ∧ y0 ≤ 8191) (h3 : -8191 ≤ cx ∧ cx ≤ 8191) (h4 : -8191 ≤ cy ∧ cy ≤ 8191) (h5 : -8191 ≤ x1 ∧ x1 ≤ 8191) (h6 : -8191 ≤ y1 ∧ y1 ≤ 8191) (h7 : -8191 ≤ y ∧ y ≤ 8191)
    (ha : y0 - 2 * cy + y1 = a) (hb : cy - y0 = b) (hc : y0 - y = c) (hB : b * b = B) (hP : a * c = P) (hd : B - P = d) (hn : d < 0 ∨ (d = 0 ∧ a < 0)) (ha1 : a ≠ 0) (W : World) :
    Calls Try.prog 36 #[.agg #[.int .i64 x0, .int .i64 y0, .bool true, .int .i64 cx, .int .i64 cy, .int .i64 x1, .int .i64 y1], .int .i64 y] W (HitsOut [] W) := by
  have G := Lib.hid (Grown.refl W)
  have k1 := Pl.bd_mul 16382 16382 (show -16382 ≤ b ∧ b ≤ 16382 by omega) (show -16382 ≤ b ∧ b ≤ 16382 by omega)
  have k2 := Pl.bd_mul 32764 16382 (show -32764 ≤ a ∧ a ≤ 32764 by omega) (show -16382 ≤ c ∧ c ≤ 16382 by omega)
  rw [hB] at k1
  rw [hP] at k2
  obtain ⟨k3, k4⟩ := k1
  obtain ⟨k5, k6⟩ := k2
  have hab : (a == 0) = false := beq_eq_false_iff_ne.2 ha1
  have hdd : d < 0 ∨ (0 ≤ d ∧ (d == 0) = true ∧ a < 0) := hn.imp id (fun h => ⟨by omega, beq_iff_eq.2 h.1, h.2⟩)
  clear hn ha1
  rcases hdd with hdd | ⟨hdd, hz, haz⟩
  all_goals
    go_enter Try.func36, Try.ntmps36
    go_wp2_with fail
    go_quiet (fail)
    go_wp2_with fail
    go_ret
    exact ⟨_, rfl, .inl ⟨rfl, rfl⟩, Fr.of_grown _ (grown_drewN (G.out.alloc _ _) _)⟩
set_option maxHeartbeats 4000000 in
set_option maxRecDepth 100000 in
theorem hits_even (x0 y0 cx cy x1 y1 y a b c : Int) (L : List Pl.Sp) (h1 : -8191 ≤ x0 ∧ x0 ≤ 8191) (h2 : -8191 ≤ y0 ∧ y0 ≤ 8191) (h3 : -8191 ≤ cx ∧ cx ≤ 8191) (h4 : -8191 ≤ cy ∧ cy ≤ 8191) (h5 : -8191 ≤ x1 ∧ x1 ≤ 8191) (h6 : -8191 ≤ y1 ∧ y1 ≤ 8191) (h7 : -8191 ≤ y ∧ y ≤ 8191)
    (ha : y0 - 2 * cy + y1 = a) (hb : cy - y0 = b) (hc : y0 - y = c) (ha0 : (a == 0) = true) (hb0 : (b == 0) = false)
    (C : Hid (∀ Z, Calls Try.prog 46 #[.agg #[.int .i64 x0, .int .i64 y0, .bool true, .int .i64 cx, .int .i64 cy, .int .i64 x1, .int .i64 y1], .int .i64 b, .int .i64 c] Z fun en w' => ∃ v, en = .returned v ∧ RowH w' v L ∧ Grown Z w')) (W : World) :
    Calls Try.prog 36 #[.agg #[.int .i64 x0, .int .i64 y0, .bool true, .int .i64 cx, .int .i64 cy, .int .i64 x1, .int .i64 y1], .int .i64 y] W (HitsOut L W) := by
  go_enter Try.func36, Try.ntmps36
  go_wp2_with fail
  go_quiet (fail)
  generalize hZ : World.drewN _ _ = w0
  have BK : Hid (Blk W W.heap.size [.int .i64 x0, .int .i64 y0, .bool true, .int .i64 cx, .int .i64 cy, .int .i64 x1, .int .i64 y1] w0) := Lib.hid (by rw [← hZ]; exact (Blk.new #[.int .i64 x0, .int .i64 y0, .bool true, .int .i64 cx, .int .i64 cy, .int .i64 x1, .int .i64 y1] 25 (Nat.le_refl _)).drewN _)
  have F0 : Hid (Fr (fun _ => False) W w0) := Lib.hid (by rw [← hZ]; exact Fr.of_grown _ (grown_drewN ((Grown.refl W).alloc _ _) _))
  clear hZ
  obtain ⟨e0, e1, e2, e3, e4, e5, e6⟩ := BK.out.at0
  go_wp2_with fail
  refine (C.out _).mono ?_
  rintro en w1 ⟨v, rfl, r, g⟩
  have R := Lib.hid r
  have F1 := Lib.hid (F0.out.trans (Fr.of_grown _ g))
  clear r g
  go_wp2_with fail
  go_ret
  exact ⟨_, rfl, R.out, F1.out⟩
set_option maxHeartbeats 4000000 in
set_option maxRecDepth 100000 in
theorem hits_straight (x0 y0 cx cy x1 y1 y : Int) (L : List Pl.Sp)
    (C : Hid (∀ Z, Calls Try.prog 45 #[.agg #[.int .i64 x0, .int .i64 y0, .bool false, .int .i64 cx, .int .i64 cy, .int .i64 x1, .int .i64 y1], .int .i64 y] Z fun en w' => ∃ v, en = .returned v ∧ RowH w' v L ∧ Grown Z w')) (W : World) :
    Calls Try.prog 36 #[.agg #[.int .i64 x0, .int .i64 y0, .bool false, .int .i64 cx, .int .i64 cy, .int .i64 x1, .int .i64 y1], .int .i64 y] W (HitsOut L W) := by
  have F0 := Lib.hid (fun A t => Fr.alloc (fun _ => False) W (.cells A t))
  go_enter Try.func36, Try.ntmps36
  go_wp2_with fail
  refine (C.out _).mono ?_
  rintro en w1 ⟨v, rfl, r, g⟩
  have R := Lib.hid r
  have F1 := Lib.hid ((F0.out _ _).trans (Fr.of_grown _ g))
  clear r g
  go_wp2_with fail
  go_ret
  exact ⟨_, rfl, R.out, F1.out⟩
theorem Pl.sidev_side (p s d a : Int) : Pl.sidev p s d a = Pl.side a * Pl.rsign p s d := by
  unfold Pl.sidev Pl.side
  split <;> omega
theorem hits26_any (e : Pl.Ed) (y : Int) (he : e.may) (hy : Pl.crd y) (W : World) : Calls Try.prog 36 #[edv e, .int .i64 y] W (HitsOut (Pl.nz (Pl.spots e y)) W) := by
  obtain ⟨h1, h2, h3, h4, h5, h6, _⟩ := he
  have SA := fun Z => straight26_any e y ⟨h1, h2, h3, h4, h5, h6⟩ hy Z
  have EA := fun b c hb hc hb0 Z => even26_any e b c ⟨h1, h2, h3, h4, h5, h6⟩ hb hc hb0 Z
  have HA := fun a b s d p q r t Z => hit26_any e a b s d ⟨h1, h2, h3, h4, h5, h6⟩ p q r t Z
  unfold Pl.spots Pl.bentS Pl.bentP
  obtain ⟨x0, y0, bb, cx, cy, x1, y1⟩ := e
  simp only [edv] at h1 h2 h3 h4 h5 h6 SA EA HA ⊢
  cases bb
  · simp only [Bool.false_eq_true, if_false]
    exact hits_straight x0 y0 cx cy x1 y1 y _ (Lib.hid SA) W
  simp only [if_true]
  unfold Pl.crd at h1 h2 h3 h4 h5 h6 hy
  obtain ⟨a, ha⟩ : ∃ a, y0 - 2 * cy + y1 = a := ⟨_, rfl⟩
  obtain ⟨b, hb⟩ : ∃ b, cy - y0 = b := ⟨_, rfl⟩
  obtain ⟨c, hc⟩ : ∃ c, y0 - y = c := ⟨_, rfl⟩
  rw [ha, hb, hc]
  by_cases a0 : a = 0
  · rw [if_pos a0]
    by_cases b0 : b = 0
    · have : Pl.evenS b c (x0 - 2 * cx + x1) (cx - x0) x0 = Pl.Sp.z := by
        unfold Pl.evenS
        rw [if_neg (by omega), if_neg (by omega)]
      rw [this]
      exact hits_flat x0 y0 cx cy x1 y1 y a b c h1 h2 h3 h4 h5 h6 hy ha hb hc (beq_iff_eq.2 a0) (beq_iff_eq.2 b0) W
    · exact hits_even x0 y0 cx cy x1 y1 y a b c _ h1 h2 h3 h4 h5 h6 hy ha hb hc (beq_iff_eq.2 a0) (beq_eq_false_iff_ne.2 b0) (Lib.hid (EA b c (by omega) (by omega) b0)) W
  rw [if_neg a0]
  obtain ⟨B, hB⟩ : ∃ B, b * b = B := ⟨_, rfl⟩
  obtain ⟨P, hP⟩ : ∃ P, a * c = P := ⟨_, rfl⟩
  obtain ⟨d, hd⟩ : ∃ d, B - P = d := ⟨_, rfl⟩
  rw [hB, hP, hd]
  by_cases n : d < 0 ∨ (d = 0 ∧ a < 0)
  · rw [if_pos n]
    exact hits_none x0 y0 cx cy x1 y1 y a b c B P d h1 h2 h3 h4 h5 h6 hy ha hb hc hB hP hd n a0 W
  rw [if_neg n]
  have k1 := Pl.bd_mul 16382 16382 (show -16382 ≤ b ∧ b ≤ 16382 by omega) (show -16382 ≤ b ∧ b ≤ 16382 by omega)
  have k2 := Pl.bd_mul 32764 16382 (show -32764 ≤ a ∧ a ≤ 32764 by omega) (show -16382 ≤ c ∧ c ≤ 16382 by omega)
  rw [hB] at k1
  rw [hP] at k2
  have ok1 : Pl.okq 1 d := by unfold Pl.okq; omega
  have ok2 : Pl.okq (-1) d := by unfold Pl.okq; omega
  have hn : 0 < d ∨ (d = 0 ∧ 0 < a) := by omega
  have hnz : ∀ (A Bp : Prop) [Decidable A] [Decidable Bp], Pl.nz (if A then Pl.rootS x0 a b (x0 - 2 * cx + x1) (cx - x0) d 1 else Pl.Sp.z, if Bp then Pl.rootS x0 a b (x0 - 2 * cx + x1) (cx - x0) d (-1) else Pl.Sp.z) = (if A then [Pl.rootS x0 a b (x0 - 2 * cx + x1) (cx - x0) d 1] else []) ++ (if Bp then [Pl.rootS x0 a b (x0 - 2 * cx + x1) (cx - x0) d (-1)] else []) := fun A Bp _ _ => by
    unfold Pl.nz
    by_cases u : A <;> by_cases v : Bp <;> simp [u, v, Pl.rootS, Pl.Sp.z]
  rw [hnz]
  unfold Pl.up Pl.dn
  simp only [← Pl.sidev_side]
  have F1 := fun Z => from26_any a b 1 d (by omega) ok1 Z
  have T1 := fun Z => to26_any a b 1 d true (by omega) (by omega) ok1 Z
  have F0 := fun Z => from0_26_any a b (-1) d (by omega) ok2 Z
  have T0 := fun Z => to26_any a b (-1) d false (by omega) (by omega) ok2 Z
  have HU := Lib.hid (HA a b 1 d (by omega) (by omega) (by omega) (.inl rfl))
  have HD := Lib.hid (HA a b (-1) d (by omega) (by omega) (by omega) (.inr rfl))
  simp only [if_true, Bool.false_eq_true, if_false] at T1 T0
  obtain ⟨U, hU⟩ : ∃ U, U = Pl.rootS x0 a b (x0 - 2 * cx + x1) (cx - x0) d 1 := ⟨_, rfl⟩
  obtain ⟨D, hD⟩ : ∃ D, D = Pl.rootS x0 a b (x0 - 2 * cx + x1) (cx - x0) d (-1) := ⟨_, rfl⟩
  rw [← hU] at HU
  rw [← hD] at HD
  rw [← hU, ← hD]
  clear hU hD hnz SA EA HA
  have R : ∀ A Bp C Dp : Bool, decide (0 ≤ Pl.sidev (-b) 1 d a) = A → decide (0 ≤ Pl.sidev (-b - a) 1 d a) = Bp → decide (Pl.sidev (-b) (-1) d a ≤ 0) = C → decide (Pl.sidev (-b - a) (-1) d a ≤ 0) = Dp →
      Calls Try.prog 36 #[.agg #[.int .i64 x0, .int .i64 y0, .bool true, .int .i64 cx, .int .i64 cy, .int .i64 x1, .int .i64 y1], .int .i64 y] W (HitsOut ((if (A && !Bp) = true then [U] else []) ++ (if (!C && Dp) = true then [D] else [])) W) := fun A Bp C Dp hA hBp hC hDp => by
    rw [hA] at F1
    rw [hBp] at T1
    rw [hC] at F0
    rw [hDp] at T0
    cases A <;> cases Bp <;> cases C <;> cases Dp <;> simp only [Bool.and_true, Bool.and_false, Bool.not_true, Bool.not_false, Bool.false_eq_true, if_true, if_false]
    · exact hits_no x0 y0 cx cy x1 y1 y a b c B P d U D h1 h2 h3 h4 h5 h6 hy ha hb hc hB hP hd hn a0 (Lib.hid F1) (Lib.hid F0) (Lib.hid T0) W
    · exact hits_ny x0 y0 cx cy x1 y1 y a b c B P d U D h1 h2 h3 h4 h5 h6 hy ha hb hc hB hP hd hn a0 (Lib.hid F1) (Lib.hid F0) (Lib.hid T0) HD W
    · exact hits_nn x0 y0 cx cy x1 y1 y a b c B P d U D h1 h2 h3 h4 h5 h6 hy ha hb hc hB hP hd hn a0 (Lib.hid F1) (Lib.hid F0) W
    · exact hits_nn x0 y0 cx cy x1 y1 y a b c B P d U D h1 h2 h3 h4 h5 h6 hy ha hb hc hB hP hd hn a0 (Lib.hid F1) (Lib.hid F0) W
    · exact hits_no x0 y0 cx cy x1 y1 y a b c B P d U D h1 h2 h3 h4 h5 h6 hy ha hb hc hB hP hd hn a0 (Lib.hid F1) (Lib.hid F0) (Lib.hid T0) W
    · exact hits_ny x0 y0 cx cy x1 y1 y a b c B P d U D h1 h2 h3 h4 h5 h6 hy ha hb hc hB hP hd hn a0 (Lib.hid F1) (Lib.hid F0) (Lib.hid T0) HD W
    · exact hits_nn x0 y0 cx cy x1 y1 y a b c B P d U D h1 h2 h3 h4 h5 h6 hy ha hb hc hB hP hd hn a0 (Lib.hid F1) (Lib.hid F0) W
    · exact hits_nn x0 y0 cx cy x1 y1 y a b c B P d U D h1 h2 h3 h4 h5 h6 hy ha hb hc hB hP hd hn a0 (Lib.hid F1) (Lib.hid F0) W
    · exact hits_yo x0 y0 cx cy x1 y1 y a b c B P d U D h1 h2 h3 h4 h5 h6 hy ha hb hc hB hP hd hn a0 (Lib.hid F1) (Lib.hid T1) (Lib.hid F0) (Lib.hid T0) HU W
    · exact hits_yy x0 y0 cx cy x1 y1 y a b c B P d U D h1 h2 h3 h4 h5 h6 hy ha hb hc hB hP hd hn a0 (Lib.hid F1) (Lib.hid T1) (Lib.hid F0) (Lib.hid T0) HU HD W
    · exact hits_yn x0 y0 cx cy x1 y1 y a b c B P d U D h1 h2 h3 h4 h5 h6 hy ha hb hc hB hP hd hn a0 (Lib.hid F1) (Lib.hid T1) (Lib.hid F0) HU W
    · exact hits_yn x0 y0 cx cy x1 y1 y a b c B P d U D h1 h2 h3 h4 h5 h6 hy ha hb hc hB hP hd hn a0 (Lib.hid F1) (Lib.hid T1) (Lib.hid F0) HU W
    · exact hits_oo x0 y0 cx cy x1 y1 y a b c B P d U D h1 h2 h3 h4 h5 h6 hy ha hb hc hB hP hd hn a0 (Lib.hid F1) (Lib.hid T1) (Lib.hid F0) (Lib.hid T0) W
    · exact hits_oy x0 y0 cx cy x1 y1 y a b c B P d U D h1 h2 h3 h4 h5 h6 hy ha hb hc hB hP hd hn a0 (Lib.hid F1) (Lib.hid T1) (Lib.hid F0) (Lib.hid T0) HD W
    · exact hits_on x0 y0 cx cy x1 y1 y a b c B P d U D h1 h2 h3 h4 h5 h6 hy ha hb hc hB hP hd hn a0 (Lib.hid F1) (Lib.hid T1) (Lib.hid F0) W
    · exact hits_on x0 y0 cx cy x1 y1 y a b c B P d U D h1 h2 h3 h4 h5 h6 hy ha hb hc hB hP hd hn a0 (Lib.hid F1) (Lib.hid T1) (Lib.hid F0) W
  have R1 := R _ _ _ _ rfl rfl rfl rfl
  have q1 : (decide (0 ≤ Pl.sidev (-b) 1 d a) && !decide (0 ≤ Pl.sidev (-b - a) 1 d a)) = true ↔ (0 ≤ Pl.sidev (-b) 1 d a ∧ Pl.sidev (-b - a) 1 d a < 0) := by
    simp only [Bool.and_eq_true, Bool.not_eq_true', decide_eq_true_eq, decide_eq_false_iff_not, Int.not_le]
  have q2 : (!decide (Pl.sidev (-b) (-1) d a ≤ 0) && decide (Pl.sidev (-b - a) (-1) d a ≤ 0)) = true ↔ (0 < Pl.sidev (-b) (-1) d a ∧ Pl.sidev (-b - a) (-1) d a ≤ 0) := by
    simp only [Bool.and_eq_true, Bool.not_eq_true', decide_eq_true_eq, decide_eq_false_iff_not, Int.not_le]
  simp only [q1, q2] at R1
  exact R1
end Go.Proofs.Ytnienpalbfgflaa
