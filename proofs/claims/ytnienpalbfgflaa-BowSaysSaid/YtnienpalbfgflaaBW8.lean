/- The walks of package bow: bent and spots, of any edge that may be. -/
import Derived.Test.YtnienpalbfgflaaBW6
import Derived.Test.YtnienpalbfgflaaBW7
namespace Go.Proofs.Ytnienpalbfgflaa
set_option linter.unusedVariables false
open Go.RowKit

theorem bent_any (e : Pl.Ed) (y : Int) (he : e.may) (hy : Pl.crd y) (W : World) :
    Calls Try.prog 41 #[edv e, .int .i64 y] W fun en w' => en = .returned (spp (Pl.bentS e y).1 (Pl.bentS e y).2) ∧ Grown W w' := by
  obtain ⟨h1, h2, h3, h4, h5, h6, _⟩ := he
  unfold Pl.bentS Pl.bentP
  obtain ⟨x0, y0, bb, cx, cy, x1, y1⟩ := e
  simp only at h1 h2 h3 h4 h5 h6 ⊢
  by_cases ha : y0 - 2 * cy + y1 = 0
  · simp only [if_pos ha]
    exact bent_even x0 y0 bb cx cy x1 y1 y _ _ _ _ h1 h2 h3 h4 h5 h6 hy ha rfl rfl rfl rfl _ rfl W
  simp only [if_neg ha]
  by_cases h0 : (cy - y0) * (cy - y0) - (y0 - 2 * cy + y1) * (y0 - y) < 0 ∨ ((cy - y0) * (cy - y0) - (y0 - 2 * cy + y1) * (y0 - y) = 0 ∧ y0 - 2 * cy + y1 < 0)
  · simp only [if_pos h0]
    exact bent_none x0 y0 bb cx cy x1 y1 y _ _ _ _ _ _ _ _ h1 h2 h3 h4 h5 h6 hy rfl rfl rfl rfl rfl rfl rfl rfl h0 ha W
  simp only [if_neg h0]
  have hn : 0 < (cy - y0) * (cy - y0) - (y0 - 2 * cy + y1) * (y0 - y) ∨ ((cy - y0) * (cy - y0) - (y0 - 2 * cy + y1) * (y0 - y) = 0 ∧ 0 < y0 - 2 * cy + y1) := by omega
  generalize hB : (cy - y0) * (cy - y0) = B at *
  generalize hP : (y0 - 2 * cy + y1) * (y0 - y) = P at *
  generalize hd : B - P = d at *
  generalize hA : y0 - 2 * cy + y1 = a at *
  generalize hbb : cy - y0 = b at *
  generalize hcc : y0 - y = c at *
  generalize hxx : x0 - 2 * cx + x1 = ax at *
  generalize hyy : cx - x0 = bx at *
  have eU : Pl.rootS x0 a b ax bx d 1 = ⟨1, x0 * a * a - 2 * a * b * bx + ax * (B + d), 2 * a * bx - 2 * b * ax, d, a * a⟩ := by
    unfold Pl.rootS
    rw [hB, Int.one_mul]
  have eD : Pl.rootS x0 a b ax bx d (-1) = ⟨-1, x0 * a * a - 2 * a * b * bx + ax * (B + d), -(2 * a * bx - 2 * b * ax), d, a * a⟩ := by
    unfold Pl.rootS
    rw [hB, Int.neg_mul, Int.one_mul]
  by_cases ca : a < 0
  · refine bent_coreM x0 y0 bb cx cy x1 y1 y a b c ax bx B P d _ _ _ _ _ _ _ _ _ _ _ _ _ h1 h2 h3 h4 h5 h6 hy hA hbb hcc hxx hyy hB hP hd hn ca (Lib.hid rfl) (Lib.hid rfl) (Lib.hid rfl) (Lib.hid rfl) rfl rfl rfl rfl rfl rfl rfl rfl rfl _ _ (Lib.hid ?_) (Lib.hid ?_) W
    · by_cases u : Pl.up a b d
      · rw [if_pos u]
        unfold Pl.up at u
        rw [Pl.side_neg ca] at u
        exact .inl ⟨u.1, u.2, eU⟩
      · rw [if_neg u]
        unfold Pl.up at u
        rw [Pl.side_neg ca] at u
        exact .inr ⟨u, rfl⟩
    · by_cases u : Pl.dn a b d
      · rw [if_pos u]
        unfold Pl.dn at u
        rw [Pl.side_neg ca] at u
        exact .inl ⟨u.1, u.2, eD⟩
      · rw [if_neg u]
        unfold Pl.dn at u
        rw [Pl.side_neg ca] at u
        exact .inr ⟨u, rfl⟩
  · refine bent_coreP x0 y0 bb cx cy x1 y1 y a b c ax bx B P d _ _ _ _ _ _ _ _ _ _ _ _ _ h1 h2 h3 h4 h5 h6 hy hA hbb hcc hxx hyy hB hP hd hn (by omega) (Lib.hid rfl) (Lib.hid rfl) (Lib.hid rfl) (Lib.hid rfl) rfl rfl rfl rfl rfl rfl rfl rfl rfl _ _ (Lib.hid ?_) (Lib.hid ?_) W
    · by_cases u : Pl.up a b d
      · rw [if_pos u]
        unfold Pl.up at u
        rw [Pl.side_pos ca] at u
        exact .inl ⟨u.1, u.2, eU⟩
      · rw [if_neg u]
        unfold Pl.up at u
        rw [Pl.side_pos ca] at u
        exact .inr ⟨u, rfl⟩
    · by_cases u : Pl.dn a b d
      · rw [if_pos u]
        unfold Pl.dn at u
        rw [Pl.side_pos ca] at u
        exact .inl ⟨u.1, u.2, eD⟩
      · rw [if_neg u]
        unfold Pl.dn at u
        rw [Pl.side_pos ca] at u
        exact .inr ⟨u, rfl⟩
set_option maxHeartbeats 2000000 in
set_option maxRecDepth 100000 in
theorem spots_any (e : Pl.Ed) (y : Int) (he : e.may) (hy : Pl.crd y) (W : World) :
    Calls Try.prog 33 #[edv e, .int .i64 y] W fun en w' => en = .returned (spp (Pl.spots e y).1 (Pl.spots e y).2) ∧ Grown W w' := by
  have CB := Lib.hid (fun Z => bent_any e y he hy Z)
  have CS := Lib.hid (fun Z => straight_any e y he hy Z)
  unfold Pl.spots
  obtain ⟨x0, y0, bb, cx, cy, x1, y1⟩ := e
  simp only [edv] at CB CS ⊢
  clear he hy
  rcases bb with _ | _
  · simp only [Bool.false_eq_true, if_false]
    obtain ⟨S, hS⟩ : ∃ S, S = Pl.straightS x0 y0 x1 y1 y := ⟨_, rfl⟩
    rw [← hS] at CS ⊢
    clear CB hS
    go_enter Try.func33, Try.ntmps33
    go_wp2_with fail
    have B0 := Lib.hid (Bt.start W #[.int .i64 x0, .int .i64 y0, .bool false, .int .i64 cx, .int .i64 cy, .int .i64 x1, .int .i64 y1] #[.int .i64 0, .int .i64 0, .int .i64 0, .int .i64 0, .int .i64 0, .int .i64 0, .int .i64 0, .int .i64 0, .int .i64 0, .int .i64 0] 25 58)
    refine (CS.out _).mono ?_
    rintro e w1 ⟨rfl, g1⟩
    have BT := Lib.hid (B0.out.grow g1)
    obtain ⟨c0, c1, c2, c3, c4, c5, c6, c7, c8, c9⟩ := BT.out.2.1.at10
    have fz := BT.out.2.1.2.2.2
    clear g1 B0
    go_wp2_with fail
    exact post_bt Try.results33 rfl BT.out.all rfl (fun g => ⟨rfl, g⟩)
  · simp only [if_true]
    obtain ⟨S, hS⟩ : ∃ S, S = (Pl.bentS ⟨x0, y0, true, cx, cy, x1, y1⟩ y).1 := ⟨_, rfl⟩
    obtain ⟨T, hT⟩ : ∃ T, T = (Pl.bentS ⟨x0, y0, true, cx, cy, x1, y1⟩ y).2 := ⟨_, rfl⟩
    rw [← hS, ← hT] at CB ⊢
    clear CS hS hT
    go_enter Try.func33, Try.ntmps33
    go_wp2_with fail
    have B0 := Lib.hid (Bt.start W #[.int .i64 x0, .int .i64 y0, .bool true, .int .i64 cx, .int .i64 cy, .int .i64 x1, .int .i64 y1] #[.int .i64 0, .int .i64 0, .int .i64 0, .int .i64 0, .int .i64 0, .int .i64 0, .int .i64 0, .int .i64 0, .int .i64 0, .int .i64 0] 25 58)
    refine (CB.out _).mono ?_
    rintro e w1 ⟨rfl, g1⟩
    have BT := Lib.hid (B0.out.grow g1)
    obtain ⟨c0, c1, c2, c3, c4, c5, c6, c7, c8, c9⟩ := BT.out.2.1.at10
    have fz := BT.out.2.1.2.2.2
    clear g1 B0
    go_wp2_with fail
    exact post_bt Try.results33 rfl BT.out.all rfl (fun g => ⟨rfl, g⟩)
end Go.Proofs.Ytnienpalbfgflaa
