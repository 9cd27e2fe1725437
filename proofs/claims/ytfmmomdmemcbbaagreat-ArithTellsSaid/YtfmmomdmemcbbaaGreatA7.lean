/- The walk of arith.numbers. -/
import Derived.Test.YtfmmomdmemcbbaaGreatM6
set_option maxHeartbeats 4000000
set_option maxRecDepth 100000
namespace Go.Proofs.YtfmmomdmemcbbaaGreat
set_option linter.unusedVariables false
open Go.RowKit
def Pl.numbersR (L : List Pl.Ob) (n : Int) (a b : Pl.Ob) : Int × List Pl.Ob :=
  if a.1 = 3 ∧ b.1 = 3 ∧ n = 11 then Pl.wholeR L 2 (a.2.2.1 + b.2.2.1)
  else if a.1 = 3 ∧ b.1 = 3 ∧ n = 12 then Pl.wholeR L 2 (a.2.2.1 - b.2.2.1)
  else if a.1 = 3 ∧ b.1 = 3 ∧ n = 13 then Pl.wholeR L 2 (a.2.2.1 * b.2.2.1)
  else if (Pl.numv a).2 = false ∨ (Pl.numv b).2 = false then (2, L)
  else if n = 14 ∧ (Pl.numv b).1 = 0 then (19, L)
  else Pl.fixedR L 2 (Pl.f2 n (Pl.numv a).1 (Pl.numv b).1).1 (Pl.f2 n (Pl.numv a).1 (Pl.numv b).1).2
theorem Pl.numbersR_no (L : List Pl.Ob) (n : Int) (a b : Pl.Ob) (hk : ¬ (a.1 = 3 ∧ b.1 = 3 ∧ (n = 11 ∨ n = 12 ∨ n = 13))) (h : (Pl.numv a).2 = false ∨ (Pl.numv b).2 = false) : Pl.numbersR L n a b = (2, L) := by
  unfold Pl.numbersR
  rw [if_neg (fun q => hk ⟨q.1, q.2.1, .inl q.2.2⟩), if_neg (fun q => hk ⟨q.1, q.2.1, .inr (.inl q.2.2)⟩), if_neg (fun q => hk ⟨q.1, q.2.1, .inr (.inr q.2.2)⟩), if_pos h]
theorem Pl.numbersR_div (L : List Pl.Ob) (a b : Pl.Ob) (h1 : (Pl.numv a).2 = true) (h2 : (Pl.numv b).2 = true) (h : (Pl.numv b).1 = 0) : Pl.numbersR L 14 a b = (19, L) := by
  unfold Pl.numbersR
  rw [if_neg (fun q => absurd q.2.2 (by decide)), if_neg (fun q => absurd q.2.2 (by decide)), if_neg (fun q => absurd q.2.2 (by decide)), if_neg (by rw [h1, h2]; decide), if_pos ⟨rfl, h⟩]
theorem Pl.numbersR_fix (L : List Pl.Ob) (n : Int) (a b : Pl.Ob) (hk : ¬ (a.1 = 3 ∧ b.1 = 3 ∧ (n = 11 ∨ n = 12 ∨ n = 13))) (h1 : (Pl.numv a).2 = true) (h2 : (Pl.numv b).2 = true) (h : ¬ (n = 14 ∧ (Pl.numv b).1 = 0)) : Pl.numbersR L n a b = Pl.fixedR L 2 (Pl.f2 n (Pl.numv a).1 (Pl.numv b).1).1 (Pl.f2 n (Pl.numv a).1 (Pl.numv b).1).2 := by
  unfold Pl.numbersR
  rw [if_neg (fun q => hk ⟨q.1, q.2.1, .inl q.2.2⟩), if_neg (fun q => hk ⟨q.1, q.2.1, .inr (.inl q.2.2)⟩), if_neg (fun q => hk ⟨q.1, q.2.1, .inr (.inr q.2.2)⟩), if_neg (by rw [h1, h2]; decide), if_neg h]
section
variable (W0 : World) (Pr : Nat → Prop) (p : Nat) (L : List Pl.Ob) (W : World) (hlen : L.length ≤ 200) (h : Stk W0 Pr p L W)
include h hlen
theorem numbers_11_33 (a b : Int) (x y : Bool) (h2 : 2 ≤ L.length) (ha : Pl.mayO (3, x, a, 0, 0, ⟨#[]⟩)) (hb : Pl.mayO (3, y, b, 0, 0, ⟨#[]⟩)) :
    Calls Tryz.prog 41 #[.pointer (some ⟨p, 0, none⟩), .int .i64 11, Pl.ov (3, x, a, 0, 0, ⟨#[]⟩), Pl.ov (3, y, b, 0, 0, ⟨#[]⟩)] W fun e w' => e = .returned (.int .i64 (Pl.numbersR L 11 (3, x, a, 0, 0, ⟨#[]⟩) (3, y, b, 0, 0, ⟨#[]⟩)).1) ∧ Stk W0 Pr p (Pl.numbersR L 11 (3, x, a, 0, 0, ⟨#[]⟩) (3, y, b, 0, 0, ⟨#[]⟩)).2 w' ∧ FrS W0 Pr W w' := by
  have ia := (Pl.mayO_num ha (.inl rfl)).choose_spec.2.1 rfl
  have ib := (Pl.mayO_num hb (.inl rfl)).choose_spec.2.1 rfl
  unfold Pl.inInt at ia ib
  simp only at ia ib
  rw [show Pl.numbersR L 11 (3, x, a, 0, 0, ⟨#[]⟩) (3, y, b, 0, 0, ⟨#[]⟩) = Pl.wholeR L 2 (a + b) by unfold Pl.numbersR; simp]
  have HS := Lib.hid h
  have WX := Lib.hid (fun Z (hS : Stk W0 Pr p L Z) => whole_any W0 Pr p L Z hlen hS 2 h2 (a + b))
  clear h hlen h2 ha hb
  go_enter Tryz.func41, Tryz.ntmps41
  go_wp2_with fail
  refine (WX.out _ (HS.out.grown (((Grown.refl W).alloc #[.int .i64 3, .bool x, .int .i64 a, .int .i64 0, .int .i64 0, .string ⟨#[]⟩] 25).alloc #[.int .i64 3, .bool y, .int .i64 b, .int .i64 0, .int .i64 0, .string ⟨#[]⟩] 25))).mono ?_
  rintro e w8 ⟨rfl, hs, hf⟩
  have H8 := Lib.hid (And.intro hs ((Fr.of_grown _ (((Grown.refl W).alloc #[.int .i64 3, .bool x, .int .i64 a, .int .i64 0, .int .i64 0, .string ⟨#[]⟩] 25).alloc #[.int .i64 3, .bool y, .int .i64 b, .int .i64 0, .int .i64 0, .string ⟨#[]⟩] 25)).trans hf))
  clear hs hf WX
  go_wp2_with fail
  go_ret
  exact ⟨rfl, H8.out⟩
theorem numbers_11_34 (a b : Int) (x y : Bool) (h2 : 2 ≤ L.length) (ha : Pl.mayO (3, x, a, 0, 0, ⟨#[]⟩)) (hb : Pl.mayO (4, y, b, 0, 0, ⟨#[]⟩)) :
    Calls Tryz.prog 41 #[.pointer (some ⟨p, 0, none⟩), .int .i64 11, Pl.ov (3, x, a, 0, 0, ⟨#[]⟩), Pl.ov (4, y, b, 0, 0, ⟨#[]⟩)] W fun e w' => e = .returned (.int .i64 (Pl.numbersR L 11 (3, x, a, 0, 0, ⟨#[]⟩) (4, y, b, 0, 0, ⟨#[]⟩)).1) ∧ Stk W0 Pr p (Pl.numbersR L 11 (3, x, a, 0, 0, ⟨#[]⟩) (4, y, b, 0, 0, ⟨#[]⟩)).2 w' ∧ FrS W0 Pr W w' := by
  have NA := Lib.hid (fun Z => num_obj (3, x, a, 0, 0, ⟨#[]⟩) ha (.inl rfl) Z)
  have NB := Lib.hid (fun Z => num_obj (4, y, b, 0, 0, ⟨#[]⟩) hb (.inr rfl) Z)
  have fa := Pl.numv_fix ha (.inl rfl)
  have fb := Pl.numv_fix hb (.inr rfl)
  have R1 := Lib.hid (Pl.numbersR_no L 11 (3, x, a, 0, 0, ⟨#[]⟩) (4, y, b, 0, 0, ⟨#[]⟩) (by simp))
  have R2 := Lib.hid (Pl.numbersR_fix L 11 (3, x, a, 0, 0, ⟨#[]⟩) (4, y, b, 0, 0, ⟨#[]⟩) (by simp))
  generalize Pl.numv (3, x, a, 0, 0, ⟨#[]⟩) = NVA at NA fa R1 R2
  generalize Pl.numv (4, y, b, 0, 0, ⟨#[]⟩) = NVB at NB fb R1 R2
  obtain ⟨va, pa⟩ := NVA
  obtain ⟨vb, pb⟩ := NVB
  simp only at NA NB fa fb R1 R2
  generalize hR : Pl.numbersR L 11 (3, x, a, 0, 0, ⟨#[]⟩) (4, y, b, 0, 0, ⟨#[]⟩) = RES at R1 R2 ⊢
  clear hR
  have HS := Lib.hid h
  have FF := Lib.hid (fun Z => f2_add va vb fa fb Z)
  have FX := Lib.hid (fun Z (hS : Stk W0 Pr p L Z) => fixed_any W0 Pr p L Z hlen hS 2 h2 (Pl.f2 11 va vb).1 (Pl.f2 11 va vb).2)
  clear fa fb ha hb h h2 hlen
  rcases pa with _ | _
  all_goals rcases pb with _ | _
  all_goals
    go_enter Tryz.func41, Tryz.ntmps41
    go_wp2_with fail
    refine (NA.out _).mono ?_
    rintro e w1 ⟨rfl, g1⟩
    have B1 := Lib.hid ((Blk.new (W := W) (Z := W.alloc (.cells #[.int .i64 3, .bool x, .int .i64 a, .int .i64 0, .int .i64 0, .string ⟨#[]⟩] 25)) #[.int .i64 4, .bool y, .int .i64 b, .int .i64 0, .int .i64 0, .string ⟨#[]⟩] 25 (by simp)).grow g1)
    have G1 := Lib.hid (grown_trans (((Grown.refl W).alloc #[.int .i64 3, .bool x, .int .i64 a, .int .i64 0, .int .i64 0, .string ⟨#[]⟩] 25).alloc #[.int .i64 4, .bool y, .int .i64 b, .int .i64 0, .int .i64 0, .string ⟨#[]⟩] 25) g1)
    rw [show (W.alloc (.cells #[.int .i64 3, .bool x, .int .i64 a, .int .i64 0, .int .i64 0, .string ⟨#[]⟩] 25)).heap.size = W.heap.size + 1 by simp] at B1
    obtain ⟨q, hq⟩ : ∃ q, q = W.heap.size + 1 := ⟨_, rfl⟩
    rw [← hq] at B1 ⊢
    clear hq g1 NA
    obtain ⟨c0, c1, c2, c3, c4, c5⟩ := B1.out.at6
    go_wp2_with fail
    refine (NB.out _).mono ?_
    rintro e w2 ⟨rfl, g2⟩
    have G2 := Lib.hid (grown_trans G1.out g2)
    clear g2 G1 B1 NB c0 c1 c2 c3 c4 c5
  · go_wp2_with fail
    go_ret
    rw [R1.out (by simp)]
    exact ⟨rfl, HS.out.grown G2.out, Fr.of_grown _ G2.out⟩
  · go_wp2_with fail
    go_ret
    rw [R1.out (by simp)]
    exact ⟨rfl, HS.out.grown G2.out, Fr.of_grown _ G2.out⟩
  · go_wp2_with fail
    go_ret
    rw [R1.out (by simp)]
    exact ⟨rfl, HS.out.grown G2.out, Fr.of_grown _ G2.out⟩
  · obtain ⟨r, u1, u2, u3, u4, u5, u6, m1, m2, m3, m4, m5, m6, gm, l11, l12, l13, l14, l26⟩ := map_two w2
    have GM := Lib.hid (grown_trans G2.out gm)
    clear gm G2
    go_wp2_with fail
    refine (FF.out _).mono ?_
    rintro e w7 ⟨rfl, g7⟩
    have G7 := Lib.hid (grown_trans GM.out g7)
    clear g7 GM m1 m2 m3 m4 m5 m6 l11 l12 l13 l14 l26 FF
    go_wp2_with fail
    refine (FX.out _ (HS.out.grown G7.out)).mono ?_
    rintro e w8 ⟨rfl, hs, hf⟩
    have H8 := Lib.hid (And.intro hs ((Fr.of_grown _ G7.out).trans hf))
    clear hs hf FX G7
    go_wp2_with fail
    go_ret
    rw [R2.out (by simp) (by simp) (by simp)]
    exact ⟨rfl, H8.out⟩
theorem numbers_11_43 (a b : Int) (x y : Bool) (h2 : 2 ≤ L.length) (ha : Pl.mayO (4, x, a, 0, 0, ⟨#[]⟩)) (hb : Pl.mayO (3, y, b, 0, 0, ⟨#[]⟩)) :
    Calls Tryz.prog 41 #[.pointer (some ⟨p, 0, none⟩), .int .i64 11, Pl.ov (4, x, a, 0, 0, ⟨#[]⟩), Pl.ov (3, y, b, 0, 0, ⟨#[]⟩)] W fun e w' => e = .returned (.int .i64 (Pl.numbersR L 11 (4, x, a, 0, 0, ⟨#[]⟩) (3, y, b, 0, 0, ⟨#[]⟩)).1) ∧ Stk W0 Pr p (Pl.numbersR L 11 (4, x, a, 0, 0, ⟨#[]⟩) (3, y, b, 0, 0, ⟨#[]⟩)).2 w' ∧ FrS W0 Pr W w' := by
  have NA := Lib.hid (fun Z => num_obj (4, x, a, 0, 0, ⟨#[]⟩) ha (.inr rfl) Z)
  have NB := Lib.hid (fun Z => num_obj (3, y, b, 0, 0, ⟨#[]⟩) hb (.inl rfl) Z)
  have fa := Pl.numv_fix ha (.inr rfl)
  have fb := Pl.numv_fix hb (.inl rfl)
  have R1 := Lib.hid (Pl.numbersR_no L 11 (4, x, a, 0, 0, ⟨#[]⟩) (3, y, b, 0, 0, ⟨#[]⟩) (by simp))
  have R2 := Lib.hid (Pl.numbersR_fix L 11 (4, x, a, 0, 0, ⟨#[]⟩) (3, y, b, 0, 0, ⟨#[]⟩) (by simp))
  generalize Pl.numv (4, x, a, 0, 0, ⟨#[]⟩) = NVA at NA fa R1 R2
  generalize Pl.numv (3, y, b, 0, 0, ⟨#[]⟩) = NVB at NB fb R1 R2
  obtain ⟨va, pa⟩ := NVA
  obtain ⟨vb, pb⟩ := NVB
  simp only at NA NB fa fb R1 R2
  generalize hR : Pl.numbersR L 11 (4, x, a, 0, 0, ⟨#[]⟩) (3, y, b, 0, 0, ⟨#[]⟩) = RES at R1 R2 ⊢
  clear hR
  have HS := Lib.hid h
  have FF := Lib.hid (fun Z => f2_add va vb fa fb Z)
  have FX := Lib.hid (fun Z (hS : Stk W0 Pr p L Z) => fixed_any W0 Pr p L Z hlen hS 2 h2 (Pl.f2 11 va vb).1 (Pl.f2 11 va vb).2)
  clear fa fb ha hb h h2 hlen
  rcases pa with _ | _
  all_goals rcases pb with _ | _
  all_goals
    go_enter Tryz.func41, Tryz.ntmps41
    go_wp2_with fail
    refine (NA.out _).mono ?_
    rintro e w1 ⟨rfl, g1⟩
    have B1 := Lib.hid ((Blk.new (W := W) (Z := W.alloc (.cells #[.int .i64 4, .bool x, .int .i64 a, .int .i64 0, .int .i64 0, .string ⟨#[]⟩] 25)) #[.int .i64 3, .bool y, .int .i64 b, .int .i64 0, .int .i64 0, .string ⟨#[]⟩] 25 (by simp)).grow g1)
    have G1 := Lib.hid (grown_trans (((Grown.refl W).alloc #[.int .i64 4, .bool x, .int .i64 a, .int .i64 0, .int .i64 0, .string ⟨#[]⟩] 25).alloc #[.int .i64 3, .bool y, .int .i64 b, .int .i64 0, .int .i64 0, .string ⟨#[]⟩] 25) g1)
    rw [show (W.alloc (.cells #[.int .i64 4, .bool x, .int .i64 a, .int .i64 0, .int .i64 0, .string ⟨#[]⟩] 25)).heap.size = W.heap.size + 1 by simp] at B1
    obtain ⟨q, hq⟩ : ∃ q, q = W.heap.size + 1 := ⟨_, rfl⟩
    rw [← hq] at B1 ⊢
    clear hq g1 NA
    obtain ⟨c0, c1, c2, c3, c4, c5⟩ := B1.out.at6
    go_wp2_with fail
    refine (NB.out _).mono ?_
    rintro e w2 ⟨rfl, g2⟩
    have G2 := Lib.hid (grown_trans G1.out g2)
    clear g2 G1 B1 NB c0 c1 c2 c3 c4 c5
  · go_wp2_with fail
    go_ret
    rw [R1.out (by simp)]
    exact ⟨rfl, HS.out.grown G2.out, Fr.of_grown _ G2.out⟩
  · go_wp2_with fail
    go_ret
    rw [R1.out (by simp)]
    exact ⟨rfl, HS.out.grown G2.out, Fr.of_grown _ G2.out⟩
  · go_wp2_with fail
    go_ret
    rw [R1.out (by simp)]
    exact ⟨rfl, HS.out.grown G2.out, Fr.of_grown _ G2.out⟩
  · obtain ⟨r, u1, u2, u3, u4, u5, u6, m1, m2, m3, m4, m5, m6, gm, l11, l12, l13, l14, l26⟩ := map_two w2
    have GM := Lib.hid (grown_trans G2.out gm)
    clear gm G2
    go_wp2_with fail
    refine (FF.out _).mono ?_
    rintro e w7 ⟨rfl, g7⟩
    have G7 := Lib.hid (grown_trans GM.out g7)
    clear g7 GM m1 m2 m3 m4 m5 m6 l11 l12 l13 l14 l26 FF
    go_wp2_with fail
    refine (FX.out _ (HS.out.grown G7.out)).mono ?_
    rintro e w8 ⟨rfl, hs, hf⟩
    have H8 := Lib.hid (And.intro hs ((Fr.of_grown _ G7.out).trans hf))
    clear hs hf FX G7
    go_wp2_with fail
    go_ret
    rw [R2.out (by simp) (by simp) (by simp)]
    exact ⟨rfl, H8.out⟩
theorem numbers_11_44 (a b : Int) (x y : Bool) (h2 : 2 ≤ L.length) (ha : Pl.mayO (4, x, a, 0, 0, ⟨#[]⟩)) (hb : Pl.mayO (4, y, b, 0, 0, ⟨#[]⟩)) :
    Calls Tryz.prog 41 #[.pointer (some ⟨p, 0, none⟩), .int .i64 11, Pl.ov (4, x, a, 0, 0, ⟨#[]⟩), Pl.ov (4, y, b, 0, 0, ⟨#[]⟩)] W fun e w' => e = .returned (.int .i64 (Pl.numbersR L 11 (4, x, a, 0, 0, ⟨#[]⟩) (4, y, b, 0, 0, ⟨#[]⟩)).1) ∧ Stk W0 Pr p (Pl.numbersR L 11 (4, x, a, 0, 0, ⟨#[]⟩) (4, y, b, 0, 0, ⟨#[]⟩)).2 w' ∧ FrS W0 Pr W w' := by
  have NA := Lib.hid (fun Z => num_obj (4, x, a, 0, 0, ⟨#[]⟩) ha (.inr rfl) Z)
  have NB := Lib.hid (fun Z => num_obj (4, y, b, 0, 0, ⟨#[]⟩) hb (.inr rfl) Z)
  have fa := Pl.numv_fix ha (.inr rfl)
  have fb := Pl.numv_fix hb (.inr rfl)
  have R1 := Lib.hid (Pl.numbersR_no L 11 (4, x, a, 0, 0, ⟨#[]⟩) (4, y, b, 0, 0, ⟨#[]⟩) (by simp))
  have R2 := Lib.hid (Pl.numbersR_fix L 11 (4, x, a, 0, 0, ⟨#[]⟩) (4, y, b, 0, 0, ⟨#[]⟩) (by simp))
  generalize Pl.numv (4, x, a, 0, 0, ⟨#[]⟩) = NVA at NA fa R1 R2
  generalize Pl.numv (4, y, b, 0, 0, ⟨#[]⟩) = NVB at NB fb R1 R2
  obtain ⟨va, pa⟩ := NVA
  obtain ⟨vb, pb⟩ := NVB
  simp only at NA NB fa fb R1 R2
  generalize hR : Pl.numbersR L 11 (4, x, a, 0, 0, ⟨#[]⟩) (4, y, b, 0, 0, ⟨#[]⟩) = RES at R1 R2 ⊢
  clear hR
  have HS := Lib.hid h
  have FF := Lib.hid (fun Z => f2_add va vb fa fb Z)
  have FX := Lib.hid (fun Z (hS : Stk W0 Pr p L Z) => fixed_any W0 Pr p L Z hlen hS 2 h2 (Pl.f2 11 va vb).1 (Pl.f2 11 va vb).2)
  clear fa fb ha hb h h2 hlen
  rcases pa with _ | _
  all_goals rcases pb with _ | _
  all_goals
    go_enter Tryz.func41, Tryz.ntmps41
    go_wp2_with fail
    refine (NA.out _).mono ?_
    rintro e w1 ⟨rfl, g1⟩
    have B1 := Lib.hid ((Blk.new (W := W) (Z := W.alloc (.cells #[.int .i64 4, .bool x, .int .i64 a, .int .i64 0, .int .i64 0, .string ⟨#[]⟩] 25)) #[.int .i64 4, .bool y, .int .i64 b, .int .i64 0, .int .i64 0, .string ⟨#[]⟩] 25 (by simp)).grow g1)
    have G1 := Lib.hid (grown_trans (((Grown.refl W).alloc #[.int .i64 4, .bool x, .int .i64 a, .int .i64 0, .int .i64 0, .string ⟨#[]⟩] 25).alloc #[.int .i64 4, .bool y, .int .i64 b, .int .i64 0, .int .i64 0, .string ⟨#[]⟩] 25) g1)
    rw [show (W.alloc (.cells #[.int .i64 4, .bool x, .int .i64 a, .int .i64 0, .int .i64 0, .string ⟨#[]⟩] 25)).heap.size = W.heap.size + 1 by simp] at B1
    obtain ⟨q, hq⟩ : ∃ q, q = W.heap.size + 1 := ⟨_, rfl⟩
    rw [← hq] at B1 ⊢
    clear hq g1 NA
    obtain ⟨c0, c1, c2, c3, c4, c5⟩ := B1.out.at6
    go_wp2_with fail
    refine (NB.out _).mono ?_
    rintro e w2 ⟨rfl, g2⟩
    have G2 := Lib.hid (grown_trans G1.out g2)
    clear g2 G1 B1 NB c0 c1 c2 c3 c4 c5
  · go_wp2_with fail
    go_ret
    rw [R1.out (by simp)]
    exact ⟨rfl, HS.out.grown G2.out, Fr.of_grown _ G2.out⟩
  · go_wp2_with fail
    go_ret
    rw [R1.out (by simp)]
    exact ⟨rfl, HS.out.grown G2.out, Fr.of_grown _ G2.out⟩
  · go_wp2_with fail
    go_ret
    rw [R1.out (by simp)]
    exact ⟨rfl, HS.out.grown G2.out, Fr.of_grown _ G2.out⟩
  · obtain ⟨r, u1, u2, u3, u4, u5, u6, m1, m2, m3, m4, m5, m6, gm, l11, l12, l13, l14, l26⟩ := map_two w2
    have GM := Lib.hid (grown_trans G2.out gm)
    clear gm G2
    go_wp2_with fail
    refine (FF.out _).mono ?_
    rintro e w7 ⟨rfl, g7⟩
    have G7 := Lib.hid (grown_trans GM.out g7)
    clear g7 GM m1 m2 m3 m4 m5 m6 l11 l12 l13 l14 l26 FF
    go_wp2_with fail
    refine (FX.out _ (HS.out.grown G7.out)).mono ?_
    rintro e w8 ⟨rfl, hs, hf⟩
    have H8 := Lib.hid (And.intro hs ((Fr.of_grown _ G7.out).trans hf))
    clear hs hf FX G7
    go_wp2_with fail
    go_ret
    rw [R2.out (by simp) (by simp) (by simp)]
    exact ⟨rfl, H8.out⟩
theorem numbers_12_33 (a b : Int) (x y : Bool) (h2 : 2 ≤ L.length) (ha : Pl.mayO (3, x, a, 0, 0, ⟨#[]⟩)) (hb : Pl.mayO (3, y, b, 0, 0, ⟨#[]⟩)) :
    Calls Tryz.prog 41 #[.pointer (some ⟨p, 0, none⟩), .int .i64 12, Pl.ov (3, x, a, 0, 0, ⟨#[]⟩), Pl.ov (3, y, b, 0, 0, ⟨#[]⟩)] W fun e w' => e = .returned (.int .i64 (Pl.numbersR L 12 (3, x, a, 0, 0, ⟨#[]⟩) (3, y, b, 0, 0, ⟨#[]⟩)).1) ∧ Stk W0 Pr p (Pl.numbersR L 12 (3, x, a, 0, 0, ⟨#[]⟩) (3, y, b, 0, 0, ⟨#[]⟩)).2 w' ∧ FrS W0 Pr W w' := by
  have ia := (Pl.mayO_num ha (.inl rfl)).choose_spec.2.1 rfl
  have ib := (Pl.mayO_num hb (.inl rfl)).choose_spec.2.1 rfl
  unfold Pl.inInt at ia ib
  simp only at ia ib
  rw [show Pl.numbersR L 12 (3, x, a, 0, 0, ⟨#[]⟩) (3, y, b, 0, 0, ⟨#[]⟩) = Pl.wholeR L 2 (a - b) by unfold Pl.numbersR; simp]
  have HS := Lib.hid h
  have WX := Lib.hid (fun Z (hS : Stk W0 Pr p L Z) => whole_any W0 Pr p L Z hlen hS 2 h2 (a - b))
  clear h hlen h2 ha hb
  go_enter Tryz.func41, Tryz.ntmps41
  go_wp2_with fail
  refine (WX.out _ (HS.out.grown (((Grown.refl W).alloc #[.int .i64 3, .bool x, .int .i64 a, .int .i64 0, .int .i64 0, .string ⟨#[]⟩] 25).alloc #[.int .i64 3, .bool y, .int .i64 b, .int .i64 0, .int .i64 0, .string ⟨#[]⟩] 25))).mono ?_
  rintro e w8 ⟨rfl, hs, hf⟩
  have H8 := Lib.hid (And.intro hs ((Fr.of_grown _ (((Grown.refl W).alloc #[.int .i64 3, .bool x, .int .i64 a, .int .i64 0, .int .i64 0, .string ⟨#[]⟩] 25).alloc #[.int .i64 3, .bool y, .int .i64 b, .int .i64 0, .int .i64 0, .string ⟨#[]⟩] 25)).trans hf))
  clear hs hf WX
  go_wp2_with fail
  go_ret
  exact ⟨rfl, H8.out⟩
theorem numbers_12_34 (a b : Int) (x y : Bool) (h2 : 2 ≤ L.length) (ha : Pl.mayO (3, x, a, 0, 0, ⟨#[]⟩)) (hb : Pl.mayO (4, y, b, 0, 0, ⟨#[]⟩)) :
    Calls Tryz.prog 41 #[.pointer (some ⟨p, 0, none⟩), .int .i64 12, Pl.ov (3, x, a, 0, 0, ⟨#[]⟩), Pl.ov (4, y, b, 0, 0, ⟨#[]⟩)] W fun e w' => e = .returned (.int .i64 (Pl.numbersR L 12 (3, x, a, 0, 0, ⟨#[]⟩) (4, y, b, 0, 0, ⟨#[]⟩)).1) ∧ Stk W0 Pr p (Pl.numbersR L 12 (3, x, a, 0, 0, ⟨#[]⟩) (4, y, b, 0, 0, ⟨#[]⟩)).2 w' ∧ FrS W0 Pr W w' := by
  have NA := Lib.hid (fun Z => num_obj (3, x, a, 0, 0, ⟨#[]⟩) ha (.inl rfl) Z)
  have NB := Lib.hid (fun Z => num_obj (4, y, b, 0, 0, ⟨#[]⟩) hb (.inr rfl) Z)
  have fa := Pl.numv_fix ha (.inl rfl)
  have fb := Pl.numv_fix hb (.inr rfl)
  have R1 := Lib.hid (Pl.numbersR_no L 12 (3, x, a, 0, 0, ⟨#[]⟩) (4, y, b, 0, 0, ⟨#[]⟩) (by simp))
  have R2 := Lib.hid (Pl.numbersR_fix L 12 (3, x, a, 0, 0, ⟨#[]⟩) (4, y, b, 0, 0, ⟨#[]⟩) (by simp))
  generalize Pl.numv (3, x, a, 0, 0, ⟨#[]⟩) = NVA at NA fa R1 R2
  generalize Pl.numv (4, y, b, 0, 0, ⟨#[]⟩) = NVB at NB fb R1 R2
  obtain ⟨va, pa⟩ := NVA
  obtain ⟨vb, pb⟩ := NVB
  simp only at NA NB fa fb R1 R2
  generalize hR : Pl.numbersR L 12 (3, x, a, 0, 0, ⟨#[]⟩) (4, y, b, 0, 0, ⟨#[]⟩) = RES at R1 R2 ⊢
  clear hR
  have HS := Lib.hid h
  have FF := Lib.hid (fun Z => f2_sub va vb fa fb Z)
  have FX := Lib.hid (fun Z (hS : Stk W0 Pr p L Z) => fixed_any W0 Pr p L Z hlen hS 2 h2 (Pl.f2 12 va vb).1 (Pl.f2 12 va vb).2)
  clear fa fb ha hb h h2 hlen
  rcases pa with _ | _
  all_goals rcases pb with _ | _
  all_goals
    go_enter Tryz.func41, Tryz.ntmps41
    go_wp2_with fail
    refine (NA.out _).mono ?_
    rintro e w1 ⟨rfl, g1⟩
    have B1 := Lib.hid ((Blk.new (W := W) (Z := W.alloc (.cells #[.int .i64 3, .bool x, .int .i64 a, .int .i64 0, .int .i64 0, .string ⟨#[]⟩] 25)) #[.int .i64 4, .bool y, .int .i64 b, .int .i64 0, .int .i64 0, .string ⟨#[]⟩] 25 (by simp)).grow g1)
    have G1 := Lib.hid (grown_trans (((Grown.refl W).alloc #[.int .i64 3, .bool x, .int .i64 a, .int .i64 0, .int .i64 0, .string ⟨#[]⟩] 25).alloc #[.int .i64 4, .bool y, .int .i64 b, .int .i64 0, .int .i64 0, .string ⟨#[]⟩] 25) g1)
    rw [show (W.alloc (.cells #[.int .i64 3, .bool x, .int .i64 a, .int .i64 0, .int .i64 0, .string ⟨#[]⟩] 25)).heap.size = W.heap.size + 1 by simp] at B1
    obtain ⟨q, hq⟩ : ∃ q, q = W.heap.size + 1 := ⟨_, rfl⟩
    rw [← hq] at B1 ⊢
    clear hq g1 NA
    obtain ⟨c0, c1, c2, c3, c4, c5⟩ := B1.out.at6
    go_wp2_with fail
    refine (NB.out _).mono ?_
    rintro e w2 ⟨rfl, g2⟩
    have G2 := Lib.hid (grown_trans G1.out g2)
    clear g2 G1 B1 NB c0 c1 c2 c3 c4 c5
  · go_wp2_with fail
    go_ret
    rw [R1.out (by simp)]
    exact ⟨rfl, HS.out.grown G2.out, Fr.of_grown _ G2.out⟩
  · go_wp2_with fail
    go_ret
    rw [R1.out (by simp)]
    exact ⟨rfl, HS.out.grown G2.out, Fr.of_grown _ G2.out⟩
  · go_wp2_with fail
    go_ret
    rw [R1.out (by simp)]
    exact ⟨rfl, HS.out.grown G2.out, Fr.of_grown _ G2.out⟩
  · obtain ⟨r, u1, u2, u3, u4, u5, u6, m1, m2, m3, m4, m5, m6, gm, l11, l12, l13, l14, l26⟩ := map_two w2
    have GM := Lib.hid (grown_trans G2.out gm)
    clear gm G2
    go_wp2_with fail
    refine (FF.out _).mono ?_
    rintro e w7 ⟨rfl, g7⟩
    have G7 := Lib.hid (grown_trans GM.out g7)
    clear g7 GM m1 m2 m3 m4 m5 m6 l11 l12 l13 l14 l26 FF
    go_wp2_with fail
    refine (FX.out _ (HS.out.grown G7.out)).mono ?_
    rintro e w8 ⟨rfl, hs, hf⟩
    have H8 := Lib.hid (And.intro hs ((Fr.of_grown _ G7.out).trans hf))
    clear hs hf FX G7
    go_wp2_with fail
    go_ret
    rw [R2.out (by simp) (by simp) (by simp)]
    exact ⟨rfl, H8.out⟩
theorem numbers_12_43 (a b : Int) (x y : Bool) (h2 : 2 ≤ L.length) (ha : Pl.mayO (4, x, a, 0, 0, ⟨#[]⟩)) (hb : Pl.mayO (3, y, b, 0, 0, ⟨#[]⟩)) :
    Calls Tryz.prog 41 #[.pointer (some ⟨p, 0, none⟩), .int .i64 12, Pl.ov (4, x, a, 0, 0, ⟨#[]⟩), Pl.ov (3, y, b, 0, 0, ⟨#[]⟩)] W fun e w' => e = .returned (.int .i64 (Pl.numbersR L 12 (4, x, a, 0, 0, ⟨#[]⟩) (3, y, b, 0, 0, ⟨#[]⟩)).1) ∧ Stk W0 Pr p (Pl.numbersR L 12 (4, x, a, 0, 0, ⟨#[]⟩) (3, y, b, 0, 0, ⟨#[]⟩)).2 w' ∧ FrS W0 Pr W w' := by
  have NA := Lib.hid (fun Z => num_obj (4, x, a, 0, 0, ⟨#[]⟩) ha (.inr rfl) Z)
  have NB := Lib.hid (fun Z => num_obj (3, y, b, 0, 0, ⟨#[]⟩) hb (.inl rfl) Z)
  have fa := Pl.numv_fix ha (.inr rfl)
  have fb := Pl.numv_fix hb (.inl rfl)
  have R1 := Lib.hid (Pl.numbersR_no L 12 (4, x, a, 0, 0, ⟨#[]⟩) (3, y, b, 0, 0, ⟨#[]⟩) (by simp))
  have R2 := Lib.hid (Pl.numbersR_fix L 12 (4, x, a, 0, 0, ⟨#[]⟩) (3, y, b, 0, 0, ⟨#[]⟩) (by simp))
  generalize Pl.numv (4, x, a, 0, 0, ⟨#[]⟩) = NVA at NA fa R1 R2
  generalize Pl.numv (3, y, b, 0, 0, ⟨#[]⟩) = NVB at NB fb R1 R2
  obtain ⟨va, pa⟩ := NVA
  obtain ⟨vb, pb⟩ := NVB
  simp only at NA NB fa fb R1 R2
  generalize hR : Pl.numbersR L 12 (4, x, a, 0, 0, ⟨#[]⟩) (3, y, b, 0, 0, ⟨#[]⟩) = RES at R1 R2 ⊢
  clear hR
  have HS := Lib.hid h
  have FF := Lib.hid (fun Z => f2_sub va vb fa fb Z)
  have FX := Lib.hid (fun Z (hS : Stk W0 Pr p L Z) => fixed_any W0 Pr p L Z hlen hS 2 h2 (Pl.f2 12 va vb).1 (Pl.f2 12 va vb).2)
  clear fa fb ha hb h h2 hlen
  rcases pa with _ | _
  all_goals rcases pb with _ | _
  all_goals
    go_enter Tryz.func41, Tryz.ntmps41
    go_wp2_with fail
    refine (NA.out _).mono ?_
    rintro e w1 ⟨rfl, g1⟩
    have B1 := Lib.hid ((Blk.new (W := W) (Z := W.alloc (.cells #[.int .i64 4, .bool x, .int .i64 a, .int .i64 0, .int .i64 0, .string ⟨#[]⟩] 25)) #[.int .i64 3, .bool y, .int .i64 b, .int .i64 0, .int .i64 0, .string ⟨#[]⟩] 25 (by simp)).grow g1)
    have G1 := Lib.hid (grown_trans (((Grown.refl W).alloc #[.int .i64 4, .bool x, .int .i64 a, .int .i64 0, .int .i64 0, .string ⟨#[]⟩] 25).alloc #[.int .i64 3, .bool y, .int .i64 b, .int .i64 0, .int .i64 0, .string ⟨#[]⟩] 25) g1)
    rw [show (W.alloc (.cells #[.int .i64 4, .bool x, .int .i64 a, .int .i64 0, .int .i64 0, .string ⟨#[]⟩] 25)).heap.size = W.heap.size + 1 by simp] at B1
    obtain ⟨q, hq⟩ : ∃ q, q = W.heap.size + 1 := ⟨_, rfl⟩
    rw [← hq] at B1 ⊢
    clear hq g1 NA
    obtain ⟨c0, c1, c2, c3, c4, c5⟩ := B1.out.at6
    go_wp2_with fail
    refine (NB.out _).mono ?_
    rintro e w2 ⟨rfl, g2⟩
    have G2 := Lib.hid (grown_trans G1.out g2)
    clear g2 G1 B1 NB c0 c1 c2 c3 c4 c5
  · go_wp2_with fail
    go_ret
    rw [R1.out (by simp)]
    exact ⟨rfl, HS.out.grown G2.out, Fr.of_grown _ G2.out⟩
  · go_wp2_with fail
    go_ret
    rw [R1.out (by simp)]
    exact ⟨rfl, HS.out.grown G2.out, Fr.of_grown _ G2.out⟩
  · go_wp2_with fail
    go_ret
    rw [R1.out (by simp)]
    exact ⟨rfl, HS.out.grown G2.out, Fr.of_grown _ G2.out⟩
  · obtain ⟨r, u1, u2, u3, u4, u5, u6, m1, m2, m3, m4, m5, m6, gm, l11, l12, l13, l14, l26⟩ := map_two w2
    have GM := Lib.hid (grown_trans G2.out gm)
    clear gm G2
    go_wp2_with fail
    refine (FF.out _).mono ?_
    rintro e w7 ⟨rfl, g7⟩
    have G7 := Lib.hid (grown_trans GM.out g7)
    clear g7 GM m1 m2 m3 m4 m5 m6 l11 l12 l13 l14 l26 FF
    go_wp2_with fail
    refine (FX.out _ (HS.out.grown G7.out)).mono ?_
    rintro e w8 ⟨rfl, hs, hf⟩
    have H8 := Lib.hid (And.intro hs ((Fr.of_grown _ G7.out).trans hf))
    clear hs hf FX G7
    go_wp2_with fail
    go_ret
    rw [R2.out (by simp) (by simp) (by simp)]
    exact ⟨rfl, H8.out⟩
theorem numbers_12_44 (a b : Int) (x y : Bool) (h2 : 2 ≤ L.length) (ha : Pl.mayO (4, x, a, 0, 0, ⟨#[]⟩)) (hb : Pl.mayO (4, y, b, 0, 0, ⟨#[]⟩)) :
    Calls Tryz.prog 41 #[.pointer (some ⟨p, 0, none⟩), .int .i64 12, Pl.ov (4, x, a, 0, 0, ⟨#[]⟩), Pl.ov (4, y, b, 0, 0, ⟨#[]⟩)] W fun e w' => e = .returned (.int .i64 (Pl.numbersR L 12 (4, x, a, 0, 0, ⟨#[]⟩) (4, y, b, 0, 0, ⟨#[]⟩)).1) ∧ Stk W0 Pr p (Pl.numbersR L 12 (4, x, a, 0, 0, ⟨#[]⟩) (4, y, b, 0, 0, ⟨#[]⟩)).2 w' ∧ FrS W0 Pr W w' := by
  have NA := Lib.hid (fun Z => num_obj (4, x, a, 0, 0, ⟨#[]⟩) ha (.inr rfl) Z)
  have NB := Lib.hid (fun Z => num_obj (4, y, b, 0, 0, ⟨#[]⟩) hb (.inr rfl) Z)
  have fa := Pl.numv_fix ha (.inr rfl)
  have fb := Pl.numv_fix hb (.inr rfl)
  have R1 := Lib.hid (Pl.numbersR_no L 12 (4, x, a, 0, 0, ⟨#[]⟩) (4, y, b, 0, 0, ⟨#[]⟩) (by simp))
  have R2 := Lib.hid (Pl.numbersR_fix L 12 (4, x, a, 0, 0, ⟨#[]⟩) (4, y, b, 0, 0, ⟨#[]⟩) (by simp))
  generalize Pl.numv (4, x, a, 0, 0, ⟨#[]⟩) = NVA at NA fa R1 R2
  generalize Pl.numv (4, y, b, 0, 0, ⟨#[]⟩) = NVB at NB fb R1 R2
  obtain ⟨va, pa⟩ := NVA
  obtain ⟨vb, pb⟩ := NVB
  simp only at NA NB fa fb R1 R2
  generalize hR : Pl.numbersR L 12 (4, x, a, 0, 0, ⟨#[]⟩) (4, y, b, 0, 0, ⟨#[]⟩) = RES at R1 R2 ⊢
  clear hR
  have HS := Lib.hid h
  have FF := Lib.hid (fun Z => f2_sub va vb fa fb Z)
  have FX := Lib.hid (fun Z (hS : Stk W0 Pr p L Z) => fixed_any W0 Pr p L Z hlen hS 2 h2 (Pl.f2 12 va vb).1 (Pl.f2 12 va vb).2)
  clear fa fb ha hb h h2 hlen
  rcases pa with _ | _
  all_goals rcases pb with _ | _
  all_goals
    go_enter Tryz.func41, Tryz.ntmps41
    go_wp2_with fail
    refine (NA.out _).mono ?_
    rintro e w1 ⟨rfl, g1⟩
    have B1 := Lib.hid ((Blk.new (W := W) (Z := W.alloc (.cells #[.int .i64 4, .bool x, .int .i64 a, .int .i64 0, .int .i64 0, .string ⟨#[]⟩] 25)) #[.int .i64 4, .bool y, .int .i64 b, .int .i64 0, .int .i64 0, .string ⟨#[]⟩] 25 (by simp)).grow g1)
    have G1 := Lib.hid (grown_trans (((Grown.refl W).alloc #[.int .i64 4, .bool x, .int .i64 a, .int .i64 0, .int .i64 0, .string ⟨#[]⟩] 25).alloc #[.int .i64 4, .bool y, .int .i64 b, .int .i64 0, .int .i64 0, .string ⟨#[]⟩] 25) g1)
    rw [show (W.alloc (.cells #[.int .i64 4, .bool x, .int .i64 a, .int .i64 0, .int .i64 0, .string ⟨#[]⟩] 25)).heap.size = W.heap.size + 1 by simp] at B1
    obtain ⟨q, hq⟩ : ∃ q, q = W.heap.size + 1 := ⟨_, rfl⟩
    rw [← hq] at B1 ⊢
    clear hq g1 NA
    obtain ⟨c0, c1, c2, c3, c4, c5⟩ := B1.out.at6
    go_wp2_with fail
    refine (NB.out _).mono ?_
    rintro e w2 ⟨rfl, g2⟩
    have G2 := Lib.hid (grown_trans G1.out g2)
    clear g2 G1 B1 NB c0 c1 c2 c3 c4 c5
  · go_wp2_with fail
    go_ret
    rw [R1.out (by simp)]
    exact ⟨rfl, HS.out.grown G2.out, Fr.of_grown _ G2.out⟩
  · go_wp2_with fail
    go_ret
    rw [R1.out (by simp)]
    exact ⟨rfl, HS.out.grown G2.out, Fr.of_grown _ G2.out⟩
  · go_wp2_with fail
    go_ret
    rw [R1.out (by simp)]
    exact ⟨rfl, HS.out.grown G2.out, Fr.of_grown _ G2.out⟩
  · obtain ⟨r, u1, u2, u3, u4, u5, u6, m1, m2, m3, m4, m5, m6, gm, l11, l12, l13, l14, l26⟩ := map_two w2
    have GM := Lib.hid (grown_trans G2.out gm)
    clear gm G2
    go_wp2_with fail
    refine (FF.out _).mono ?_
    rintro e w7 ⟨rfl, g7⟩
    have G7 := Lib.hid (grown_trans GM.out g7)
    clear g7 GM m1 m2 m3 m4 m5 m6 l11 l12 l13 l14 l26 FF
    go_wp2_with fail
    refine (FX.out _ (HS.out.grown G7.out)).mono ?_
    rintro e w8 ⟨rfl, hs, hf⟩
    have H8 := Lib.hid (And.intro hs ((Fr.of_grown _ G7.out).trans hf))
    clear hs hf FX G7
    go_wp2_with fail
    go_ret
    rw [R2.out (by simp) (by simp) (by simp)]
    exact ⟨rfl, H8.out⟩
theorem numbers_13_33 (a b : Int) (x y : Bool) (h2 : 2 ≤ L.length) (ha : Pl.mayO (3, x, a, 0, 0, ⟨#[]⟩)) (hb : Pl.mayO (3, y, b, 0, 0, ⟨#[]⟩)) :
    Calls Tryz.prog 41 #[.pointer (some ⟨p, 0, none⟩), .int .i64 13, Pl.ov (3, x, a, 0, 0, ⟨#[]⟩), Pl.ov (3, y, b, 0, 0, ⟨#[]⟩)] W fun e w' => e = .returned (.int .i64 (Pl.numbersR L 13 (3, x, a, 0, 0, ⟨#[]⟩) (3, y, b, 0, 0, ⟨#[]⟩)).1) ∧ Stk W0 Pr p (Pl.numbersR L 13 (3, x, a, 0, 0, ⟨#[]⟩) (3, y, b, 0, 0, ⟨#[]⟩)).2 w' ∧ FrS W0 Pr W w' := by
  have ia := (Pl.mayO_num ha (.inl rfl)).choose_spec.2.1 rfl
  have ib := (Pl.mayO_num hb (.inl rfl)).choose_spec.2.1 rfl
  unfold Pl.inInt at ia ib
  simp only at ia ib
  rw [show Pl.numbersR L 13 (3, x, a, 0, 0, ⟨#[]⟩) (3, y, b, 0, 0, ⟨#[]⟩) = Pl.wholeR L 2 (a * b) by unfold Pl.numbersR; simp]
  have HS := Lib.hid h
  have bm : -4611686014132420609 ≤ a * b ∧ a * b ≤ 4611686014132420609 := by
    have h1 := Pl.mag_mul a b
    have h2 : Pl.mag a * Pl.mag b ≤ 2147483647 * 2147483647 := Int.mul_le_mul (by unfold Pl.mag; split <;> omega) (by unfold Pl.mag; split <;> omega) (Pl.mag_nn b) (by omega)
    unfold Pl.mag at h1
    split at h1 <;> (unfold Pl.mag at h2; omega)
  obtain ⟨c, hc⟩ : ∃ c, c = a * b := ⟨_, rfl⟩
  have hc' : a * b = c := hc.symm
  rw [← hc] at bm
  rw [← hc]
  have WX := Lib.hid (fun Z (hS : Stk W0 Pr p L Z) => whole_any W0 Pr p L Z hlen hS 2 h2 c)
  clear hc
  clear h hlen h2 ha hb
  go_enter Tryz.func41, Tryz.ntmps41
  go_wp2_with fail
  refine (WX.out _ (HS.out.grown (((Grown.refl W).alloc #[.int .i64 3, .bool x, .int .i64 a, .int .i64 0, .int .i64 0, .string ⟨#[]⟩] 25).alloc #[.int .i64 3, .bool y, .int .i64 b, .int .i64 0, .int .i64 0, .string ⟨#[]⟩] 25))).mono ?_
  rintro e w8 ⟨rfl, hs, hf⟩
  have H8 := Lib.hid (And.intro hs ((Fr.of_grown _ (((Grown.refl W).alloc #[.int .i64 3, .bool x, .int .i64 a, .int .i64 0, .int .i64 0, .string ⟨#[]⟩] 25).alloc #[.int .i64 3, .bool y, .int .i64 b, .int .i64 0, .int .i64 0, .string ⟨#[]⟩] 25)).trans hf))
  clear hs hf WX
  go_wp2_with fail
  go_ret
  exact ⟨rfl, H8.out⟩
theorem numbers_13_34 (a b : Int) (x y : Bool) (h2 : 2 ≤ L.length) (ha : Pl.mayO (3, x, a, 0, 0, ⟨#[]⟩)) (hb : Pl.mayO (4, y, b, 0, 0, ⟨#[]⟩)) :
    Calls Tryz.prog 41 #[.pointer (some ⟨p, 0, none⟩), .int .i64 13, Pl.ov (3, x, a, 0, 0, ⟨#[]⟩), Pl.ov (4, y, b, 0, 0, ⟨#[]⟩)] W fun e w' => e = .returned (.int .i64 (Pl.numbersR L 13 (3, x, a, 0, 0, ⟨#[]⟩) (4, y, b, 0, 0, ⟨#[]⟩)).1) ∧ Stk W0 Pr p (Pl.numbersR L 13 (3, x, a, 0, 0, ⟨#[]⟩) (4, y, b, 0, 0, ⟨#[]⟩)).2 w' ∧ FrS W0 Pr W w' := by
  have NA := Lib.hid (fun Z => num_obj (3, x, a, 0, 0, ⟨#[]⟩) ha (.inl rfl) Z)
  have NB := Lib.hid (fun Z => num_obj (4, y, b, 0, 0, ⟨#[]⟩) hb (.inr rfl) Z)
  have fa := Pl.numv_fix ha (.inl rfl)
  have fb := Pl.numv_fix hb (.inr rfl)
  have R1 := Lib.hid (Pl.numbersR_no L 13 (3, x, a, 0, 0, ⟨#[]⟩) (4, y, b, 0, 0, ⟨#[]⟩) (by simp))
  have R2 := Lib.hid (Pl.numbersR_fix L 13 (3, x, a, 0, 0, ⟨#[]⟩) (4, y, b, 0, 0, ⟨#[]⟩) (by simp))
  generalize Pl.numv (3, x, a, 0, 0, ⟨#[]⟩) = NVA at NA fa R1 R2
  generalize Pl.numv (4, y, b, 0, 0, ⟨#[]⟩) = NVB at NB fb R1 R2
  obtain ⟨va, pa⟩ := NVA
  obtain ⟨vb, pb⟩ := NVB
  simp only at NA NB fa fb R1 R2
  generalize hR : Pl.numbersR L 13 (3, x, a, 0, 0, ⟨#[]⟩) (4, y, b, 0, 0, ⟨#[]⟩) = RES at R1 R2 ⊢
  clear hR
  have HS := Lib.hid h
  have FF := Lib.hid (fun Z => f2_mul va vb fa fb Z)
  have FX := Lib.hid (fun Z (hS : Stk W0 Pr p L Z) => fixed_any W0 Pr p L Z hlen hS 2 h2 (Pl.f2 13 va vb).1 (Pl.f2 13 va vb).2)
  clear fa fb ha hb h h2 hlen
  rcases pa with _ | _
  all_goals rcases pb with _ | _
  all_goals
    go_enter Tryz.func41, Tryz.ntmps41
    go_wp2_with fail
    refine (NA.out _).mono ?_
    rintro e w1 ⟨rfl, g1⟩
    have B1 := Lib.hid ((Blk.new (W := W) (Z := W.alloc (.cells #[.int .i64 3, .bool x, .int .i64 a, .int .i64 0, .int .i64 0, .string ⟨#[]⟩] 25)) #[.int .i64 4, .bool y, .int .i64 b, .int .i64 0, .int .i64 0, .string ⟨#[]⟩] 25 (by simp)).grow g1)
    have G1 := Lib.hid (grown_trans (((Grown.refl W).alloc #[.int .i64 3, .bool x, .int .i64 a, .int .i64 0, .int .i64 0, .string ⟨#[]⟩] 25).alloc #[.int .i64 4, .bool y, .int .i64 b, .int .i64 0, .int .i64 0, .string ⟨#[]⟩] 25) g1)
    rw [show (W.alloc (.cells #[.int .i64 3, .bool x, .int .i64 a, .int .i64 0, .int .i64 0, .string ⟨#[]⟩] 25)).heap.size = W.heap.size + 1 by simp] at B1
    obtain ⟨q, hq⟩ : ∃ q, q = W.heap.size + 1 := ⟨_, rfl⟩
    rw [← hq] at B1 ⊢
    clear hq g1 NA
    obtain ⟨c0, c1, c2, c3, c4, c5⟩ := B1.out.at6
    go_wp2_with fail
    refine (NB.out _).mono ?_
    rintro e w2 ⟨rfl, g2⟩
    have G2 := Lib.hid (grown_trans G1.out g2)
    clear g2 G1 B1 NB c0 c1 c2 c3 c4 c5
  · go_wp2_with fail
    go_ret
    rw [R1.out (by simp)]
    exact ⟨rfl, HS.out.grown G2.out, Fr.of_grown _ G2.out⟩
  · go_wp2_with fail
    go_ret
    rw [R1.out (by simp)]
    exact ⟨rfl, HS.out.grown G2.out, Fr.of_grown _ G2.out⟩
  · go_wp2_with fail
    go_ret
    rw [R1.out (by simp)]
    exact ⟨rfl, HS.out.grown G2.out, Fr.of_grown _ G2.out⟩
  · obtain ⟨r, u1, u2, u3, u4, u5, u6, m1, m2, m3, m4, m5, m6, gm, l11, l12, l13, l14, l26⟩ := map_two w2
    have GM := Lib.hid (grown_trans G2.out gm)
    clear gm G2
    go_wp2_with fail
    refine (FF.out _).mono ?_
    rintro e w7 ⟨rfl, g7⟩
    have G7 := Lib.hid (grown_trans GM.out g7)
    clear g7 GM m1 m2 m3 m4 m5 m6 l11 l12 l13 l14 l26 FF
    go_wp2_with fail
    refine (FX.out _ (HS.out.grown G7.out)).mono ?_
    rintro e w8 ⟨rfl, hs, hf⟩
    have H8 := Lib.hid (And.intro hs ((Fr.of_grown _ G7.out).trans hf))
    clear hs hf FX G7
    go_wp2_with fail
    go_ret
    rw [R2.out (by simp) (by simp) (by simp)]
    exact ⟨rfl, H8.out⟩
theorem numbers_13_43 (a b : Int) (x y : Bool) (h2 : 2 ≤ L.length) (ha : Pl.mayO (4, x, a, 0, 0, ⟨#[]⟩)) (hb : Pl.mayO (3, y, b, 0, 0, ⟨#[]⟩)) :
    Calls Tryz.prog 41 #[.pointer (some ⟨p, 0, none⟩), .int .i64 13, Pl.ov (4, x, a, 0, 0, ⟨#[]⟩), Pl.ov (3, y, b, 0, 0, ⟨#[]⟩)] W fun e w' => e = .returned (.int .i64 (Pl.numbersR L 13 (4, x, a, 0, 0, ⟨#[]⟩) (3, y, b, 0, 0, ⟨#[]⟩)).1) ∧ Stk W0 Pr p (Pl.numbersR L 13 (4, x, a, 0, 0, ⟨#[]⟩) (3, y, b, 0, 0, ⟨#[]⟩)).2 w' ∧ FrS W0 Pr W w' := by
  have NA := Lib.hid (fun Z => num_obj (4, x, a, 0, 0, ⟨#[]⟩) ha (.inr rfl) Z)
  have NB := Lib.hid (fun Z => num_obj (3, y, b, 0, 0, ⟨#[]⟩) hb (.inl rfl) Z)
  have fa := Pl.numv_fix ha (.inr rfl)
  have fb := Pl.numv_fix hb (.inl rfl)
  have R1 := Lib.hid (Pl.numbersR_no L 13 (4, x, a, 0, 0, ⟨#[]⟩) (3, y, b, 0, 0, ⟨#[]⟩) (by simp))
  have R2 := Lib.hid (Pl.numbersR_fix L 13 (4, x, a, 0, 0, ⟨#[]⟩) (3, y, b, 0, 0, ⟨#[]⟩) (by simp))
  generalize Pl.numv (4, x, a, 0, 0, ⟨#[]⟩) = NVA at NA fa R1 R2
  generalize Pl.numv (3, y, b, 0, 0, ⟨#[]⟩) = NVB at NB fb R1 R2
  obtain ⟨va, pa⟩ := NVA
  obtain ⟨vb, pb⟩ := NVB
  simp only at NA NB fa fb R1 R2
  generalize hR : Pl.numbersR L 13 (4, x, a, 0, 0, ⟨#[]⟩) (3, y, b, 0, 0, ⟨#[]⟩) = RES at R1 R2 ⊢
  clear hR
  have HS := Lib.hid h
  have FF := Lib.hid (fun Z => f2_mul va vb fa fb Z)
  have FX := Lib.hid (fun Z (hS : Stk W0 Pr p L Z) => fixed_any W0 Pr p L Z hlen hS 2 h2 (Pl.f2 13 va vb).1 (Pl.f2 13 va vb).2)
  clear fa fb ha hb h h2 hlen
  rcases pa with _ | _
  all_goals rcases pb with _ | _
  all_goals
    go_enter Tryz.func41, Tryz.ntmps41
    go_wp2_with fail
    refine (NA.out _).mono ?_
    rintro e w1 ⟨rfl, g1⟩
    have B1 := Lib.hid ((Blk.new (W := W) (Z := W.alloc (.cells #[.int .i64 4, .bool x, .int .i64 a, .int .i64 0, .int .i64 0, .string ⟨#[]⟩] 25)) #[.int .i64 3, .bool y, .int .i64 b, .int .i64 0, .int .i64 0, .string ⟨#[]⟩] 25 (by simp)).grow g1)
    have G1 := Lib.hid (grown_trans (((Grown.refl W).alloc #[.int .i64 4, .bool x, .int .i64 a, .int .i64 0, .int .i64 0, .string ⟨#[]⟩] 25).alloc #[.int .i64 3, .bool y, .int .i64 b, .int .i64 0, .int .i64 0, .string ⟨#[]⟩] 25) g1)
    rw [show (W.alloc (.cells #[.int .i64 4, .bool x, .int .i64 a, .int .i64 0, .int .i64 0, .string ⟨#[]⟩] 25)).heap.size = W.heap.size + 1 by simp] at B1
    obtain ⟨q, hq⟩ : ∃ q, q = W.heap.size + 1 := ⟨_, rfl⟩
    rw [← hq] at B1 ⊢
    clear hq g1 NA
    obtain ⟨c0, c1, c2, c3, c4, c5⟩ := B1.out.at6
    go_wp2_with fail
    refine (NB.out _).mono ?_
    rintro e w2 ⟨rfl, g2⟩
    have G2 := Lib.hid (grown_trans G1.out g2)
    clear g2 G1 B1 NB c0 c1 c2 c3 c4 c5
  · go_wp2_with fail
    go_ret
    rw [R1.out (by simp)]
    exact ⟨rfl, HS.out.grown G2.out, Fr.of_grown _ G2.out⟩
  · go_wp2_with fail
    go_ret
    rw [R1.out (by simp)]
    exact ⟨rfl, HS.out.grown G2.out, Fr.of_grown _ G2.out⟩
  · go_wp2_with fail
    go_ret
    rw [R1.out (by simp)]
    exact ⟨rfl, HS.out.grown G2.out, Fr.of_grown _ G2.out⟩
  · obtain ⟨r, u1, u2, u3, u4, u5, u6, m1, m2, m3, m4, m5, m6, gm, l11, l12, l13, l14, l26⟩ := map_two w2
    have GM := Lib.hid (grown_trans G2.out gm)
    clear gm G2
    go_wp2_with fail
    refine (FF.out _).mono ?_
    rintro e w7 ⟨rfl, g7⟩
    have G7 := Lib.hid (grown_trans GM.out g7)
    clear g7 GM m1 m2 m3 m4 m5 m6 l11 l12 l13 l14 l26 FF
    go_wp2_with fail
    refine (FX.out _ (HS.out.grown G7.out)).mono ?_
    rintro e w8 ⟨rfl, hs, hf⟩
    have H8 := Lib.hid (And.intro hs ((Fr.of_grown _ G7.out).trans hf))
    clear hs hf FX G7
    go_wp2_with fail
    go_ret
    rw [R2.out (by simp) (by simp) (by simp)]
    exact ⟨rfl, H8.out⟩
theorem numbers_13_44 (a b : Int) (x y : Bool) (h2 : 2 ≤ L.length) (ha : Pl.mayO (4, x, a, 0, 0, ⟨#[]⟩)) (hb : Pl.mayO (4, y, b, 0, 0, ⟨#[]⟩)) :
    Calls Tryz.prog 41 #[.pointer (some ⟨p, 0, none⟩), .int .i64 13, Pl.ov (4, x, a, 0, 0, ⟨#[]⟩), Pl.ov (4, y, b, 0, 0, ⟨#[]⟩)] W fun e w' => e = .returned (.int .i64 (Pl.numbersR L 13 (4, x, a, 0, 0, ⟨#[]⟩) (4, y, b, 0, 0, ⟨#[]⟩)).1) ∧ Stk W0 Pr p (Pl.numbersR L 13 (4, x, a, 0, 0, ⟨#[]⟩) (4, y, b, 0, 0, ⟨#[]⟩)).2 w' ∧ FrS W0 Pr W w' := by
  have NA := Lib.hid (fun Z => num_obj (4, x, a, 0, 0, ⟨#[]⟩) ha (.inr rfl) Z)
  have NB := Lib.hid (fun Z => num_obj (4, y, b, 0, 0, ⟨#[]⟩) hb (.inr rfl) Z)
  have fa := Pl.numv_fix ha (.inr rfl)
  have fb := Pl.numv_fix hb (.inr rfl)
  have R1 := Lib.hid (Pl.numbersR_no L 13 (4, x, a, 0, 0, ⟨#[]⟩) (4, y, b, 0, 0, ⟨#[]⟩) (by simp))
  have R2 := Lib.hid (Pl.numbersR_fix L 13 (4, x, a, 0, 0, ⟨#[]⟩) (4, y, b, 0, 0, ⟨#[]⟩) (by simp))
  generalize Pl.numv (4, x, a, 0, 0, ⟨#[]⟩) = NVA at NA fa R1 R2
  generalize Pl.numv (4, y, b, 0, 0, ⟨#[]⟩) = NVB at NB fb R1 R2
  obtain ⟨va, pa⟩ := NVA
  obtain ⟨vb, pb⟩ := NVB
  simp only at NA NB fa fb R1 R2
  generalize hR : Pl.numbersR L 13 (4, x, a, 0, 0, ⟨#[]⟩) (4, y, b, 0, 0, ⟨#[]⟩) = RES at R1 R2 ⊢
  clear hR
  have HS := Lib.hid h
  have FF := Lib.hid (fun Z => f2_mul va vb fa fb Z)
  have FX := Lib.hid (fun Z (hS : Stk W0 Pr p L Z) => fixed_any W0 Pr p L Z hlen hS 2 h2 (Pl.f2 13 va vb).1 (Pl.f2 13 va vb).2)
  clear fa fb ha hb h h2 hlen
  rcases pa with _ | _
  all_goals rcases pb with _ | _
  all_goals
    go_enter Tryz.func41, Tryz.ntmps41
    go_wp2_with fail
    refine (NA.out _).mono ?_
    rintro e w1 ⟨rfl, g1⟩
    have B1 := Lib.hid ((Blk.new (W := W) (Z := W.alloc (.cells #[.int .i64 4, .bool x, .int .i64 a, .int .i64 0, .int .i64 0, .string ⟨#[]⟩] 25)) #[.int .i64 4, .bool y, .int .i64 b, .int .i64 0, .int .i64 0, .string ⟨#[]⟩] 25 (by simp)).grow g1)
    have G1 := Lib.hid (grown_trans (((Grown.refl W).alloc #[.int .i64 4, .bool x, .int .i64 a, .int .i64 0, .int .i64 0, .string ⟨#[]⟩] 25).alloc #[.int .i64 4, .bool y, .int .i64 b, .int .i64 0, .int .i64 0, .string ⟨#[]⟩] 25) g1)
    rw [show (W.alloc (.cells #[.int .i64 4, .bool x, .int .i64 a, .int .i64 0, .int .i64 0, .string ⟨#[]⟩] 25)).heap.size = W.heap.size + 1 by simp] at B1
    obtain ⟨q, hq⟩ : ∃ q, q = W.heap.size + 1 := ⟨_, rfl⟩
    rw [← hq] at B1 ⊢
    clear hq g1 NA
    obtain ⟨c0, c1, c2, c3, c4, c5⟩ := B1.out.at6
    go_wp2_with fail
    refine (NB.out _).mono ?_
    rintro e w2 ⟨rfl, g2⟩
    have G2 := Lib.hid (grown_trans G1.out g2)
    clear g2 G1 B1 NB c0 c1 c2 c3 c4 c5
  · go_wp2_with fail
    go_ret
    rw [R1.out (by simp)]
    exact ⟨rfl, HS.out.grown G2.out, Fr.of_grown _ G2.out⟩
  · go_wp2_with fail
    go_ret
    rw [R1.out (by simp)]
    exact ⟨rfl, HS.out.grown G2.out, Fr.of_grown _ G2.out⟩
  · go_wp2_with fail
    go_ret
    rw [R1.out (by simp)]
    exact ⟨rfl, HS.out.grown G2.out, Fr.of_grown _ G2.out⟩
  · obtain ⟨r, u1, u2, u3, u4, u5, u6, m1, m2, m3, m4, m5, m6, gm, l11, l12, l13, l14, l26⟩ := map_two w2
    have GM := Lib.hid (grown_trans G2.out gm)
    clear gm G2
    go_wp2_with fail
    refine (FF.out _).mono ?_
    rintro e w7 ⟨rfl, g7⟩
    have G7 := Lib.hid (grown_trans GM.out g7)
    clear g7 GM m1 m2 m3 m4 m5 m6 l11 l12 l13 l14 l26 FF
    go_wp2_with fail
    refine (FX.out _ (HS.out.grown G7.out)).mono ?_
    rintro e w8 ⟨rfl, hs, hf⟩
    have H8 := Lib.hid (And.intro hs ((Fr.of_grown _ G7.out).trans hf))
    clear hs hf FX G7
    go_wp2_with fail
    go_ret
    rw [R2.out (by simp) (by simp) (by simp)]
    exact ⟨rfl, H8.out⟩
theorem numbers_14_33 (a b : Int) (x y : Bool) (h2 : 2 ≤ L.length) (ha : Pl.mayO (3, x, a, 0, 0, ⟨#[]⟩)) (hb : Pl.mayO (3, y, b, 0, 0, ⟨#[]⟩)) :
    Calls Tryz.prog 41 #[.pointer (some ⟨p, 0, none⟩), .int .i64 14, Pl.ov (3, x, a, 0, 0, ⟨#[]⟩), Pl.ov (3, y, b, 0, 0, ⟨#[]⟩)] W fun e w' => e = .returned (.int .i64 (Pl.numbersR L 14 (3, x, a, 0, 0, ⟨#[]⟩) (3, y, b, 0, 0, ⟨#[]⟩)).1) ∧ Stk W0 Pr p (Pl.numbersR L 14 (3, x, a, 0, 0, ⟨#[]⟩) (3, y, b, 0, 0, ⟨#[]⟩)).2 w' ∧ FrS W0 Pr W w' := by
  have NA := Lib.hid (fun Z => num_obj (3, x, a, 0, 0, ⟨#[]⟩) ha (.inl rfl) Z)
  have NB := Lib.hid (fun Z => num_obj (3, y, b, 0, 0, ⟨#[]⟩) hb (.inl rfl) Z)
  have fa := Pl.numv_fix ha (.inl rfl)
  have fb := Pl.numv_fix hb (.inl rfl)
  have R1 := Lib.hid (Pl.numbersR_no L 14 (3, x, a, 0, 0, ⟨#[]⟩) (3, y, b, 0, 0, ⟨#[]⟩) (by simp))
  have R2 := Lib.hid (Pl.numbersR_fix L 14 (3, x, a, 0, 0, ⟨#[]⟩) (3, y, b, 0, 0, ⟨#[]⟩) (by simp))
  have R3 := Lib.hid (Pl.numbersR_div L (3, x, a, 0, 0, ⟨#[]⟩) (3, y, b, 0, 0, ⟨#[]⟩))
  generalize Pl.numv (3, x, a, 0, 0, ⟨#[]⟩) = NVA at NA fa R1 R2 R3
  generalize Pl.numv (3, y, b, 0, 0, ⟨#[]⟩) = NVB at NB fb R1 R2 R3
  obtain ⟨va, pa⟩ := NVA
  obtain ⟨vb, pb⟩ := NVB
  simp only at NA NB fa fb R1 R2 R3
  generalize hR : Pl.numbersR L 14 (3, x, a, 0, 0, ⟨#[]⟩) (3, y, b, 0, 0, ⟨#[]⟩) = RES at R1 R2 R3 ⊢
  clear hR
  have HS := Lib.hid h
  have FF := Lib.hid (fun Z => f2_div va vb fa fb Z)
  have FX := Lib.hid (fun Z (hS : Stk W0 Pr p L Z) => fixed_any W0 Pr p L Z hlen hS 2 h2 (Pl.f2 14 va vb).1 (Pl.f2 14 va vb).2)
  clear fa fb ha hb h h2 hlen
  rcases pa with _ | _
  all_goals rcases pb with _ | _
  all_goals
    go_enter Tryz.func41, Tryz.ntmps41
    go_wp2_with fail
    refine (NA.out _).mono ?_
    rintro e w1 ⟨rfl, g1⟩
    have B1 := Lib.hid ((Blk.new (W := W) (Z := W.alloc (.cells #[.int .i64 3, .bool x, .int .i64 a, .int .i64 0, .int .i64 0, .string ⟨#[]⟩] 25)) #[.int .i64 3, .bool y, .int .i64 b, .int .i64 0, .int .i64 0, .string ⟨#[]⟩] 25 (by simp)).grow g1)
    have G1 := Lib.hid (grown_trans (((Grown.refl W).alloc #[.int .i64 3, .bool x, .int .i64 a, .int .i64 0, .int .i64 0, .string ⟨#[]⟩] 25).alloc #[.int .i64 3, .bool y, .int .i64 b, .int .i64 0, .int .i64 0, .string ⟨#[]⟩] 25) g1)
    rw [show (W.alloc (.cells #[.int .i64 3, .bool x, .int .i64 a, .int .i64 0, .int .i64 0, .string ⟨#[]⟩] 25)).heap.size = W.heap.size + 1 by simp] at B1
    obtain ⟨q, hq⟩ : ∃ q, q = W.heap.size + 1 := ⟨_, rfl⟩
    rw [← hq] at B1 ⊢
    clear hq g1 NA
    obtain ⟨c0, c1, c2, c3, c4, c5⟩ := B1.out.at6
    go_wp2_with fail
    refine (NB.out _).mono ?_
    rintro e w2 ⟨rfl, g2⟩
    have G2 := Lib.hid (grown_trans G1.out g2)
    clear g2 G1 B1 NB c0 c1 c2 c3 c4 c5
  · go_wp2_with fail
    go_ret
    rw [R1.out (by simp)]
    exact ⟨rfl, HS.out.grown G2.out, Fr.of_grown _ G2.out⟩
  · go_wp2_with fail
    go_ret
    rw [R1.out (by simp)]
    exact ⟨rfl, HS.out.grown G2.out, Fr.of_grown _ G2.out⟩
  · go_wp2_with fail
    go_ret
    rw [R1.out (by simp)]
    exact ⟨rfl, HS.out.grown G2.out, Fr.of_grown _ G2.out⟩
  · by_cases hv : vb = 0
    · subst hv
      go_wp2_with fail
      go_ret
      rw [R3.out (by simp) (by simp) (by simp)]
      exact ⟨rfl, HS.out.grown G2.out, Fr.of_grown _ G2.out⟩
    · have hv0 : (vb == 0) = false := beq_eq_false_iff_ne.2 hv
      have HV := Lib.hid hv
      clear hv
      obtain ⟨r, u1, u2, u3, u4, u5, u6, m1, m2, m3, m4, m5, m6, gm, l11, l12, l13, l14, l26⟩ := map_two w2
      have GM := Lib.hid (grown_trans G2.out gm)
      clear gm G2
      go_wp2_with fail
      refine (FF.out _).mono ?_
      rintro e w7 ⟨rfl, g7⟩
      have G7 := Lib.hid (grown_trans GM.out g7)
      clear g7 GM m1 m2 m3 m4 m5 m6 l11 l12 l13 l14 l26 FF
      go_wp2_with fail
      refine (FX.out _ (HS.out.grown G7.out)).mono ?_
      rintro e w8 ⟨rfl, hs, hf⟩
      have H8 := Lib.hid (And.intro hs ((Fr.of_grown _ G7.out).trans hf))
      clear hs hf FX G7
      go_wp2_with fail
      go_ret
      rw [R2.out (by simp) (by simp) (fun q => HV.out q.2)]
      exact ⟨rfl, H8.out⟩
theorem numbers_14_34 (a b : Int) (x y : Bool) (h2 : 2 ≤ L.length) (ha : Pl.mayO (3, x, a, 0, 0, ⟨#[]⟩)) (hb : Pl.mayO (4, y, b, 0, 0, ⟨#[]⟩)) :
    Calls Tryz.prog 41 #[.pointer (some ⟨p, 0, none⟩), .int .i64 14, Pl.ov (3, x, a, 0, 0, ⟨#[]⟩), Pl.ov (4, y, b, 0, 0, ⟨#[]⟩)] W fun e w' => e = .returned (.int .i64 (Pl.numbersR L 14 (3, x, a, 0, 0, ⟨#[]⟩) (4, y, b, 0, 0, ⟨#[]⟩)).1) ∧ Stk W0 Pr p (Pl.numbersR L 14 (3, x, a, 0, 0, ⟨#[]⟩) (4, y, b, 0, 0, ⟨#[]⟩)).2 w' ∧ FrS W0 Pr W w' := by
  have NA := Lib.hid (fun Z => num_obj (3, x, a, 0, 0, ⟨#[]⟩) ha (.inl rfl) Z)
  have NB := Lib.hid (fun Z => num_obj (4, y, b, 0, 0, ⟨#[]⟩) hb (.inr rfl) Z)
  have fa := Pl.numv_fix ha (.inl rfl)
  have fb := Pl.numv_fix hb (.inr rfl)
  have R1 := Lib.hid (Pl.numbersR_no L 14 (3, x, a, 0, 0, ⟨#[]⟩) (4, y, b, 0, 0, ⟨#[]⟩) (by simp))
  have R2 := Lib.hid (Pl.numbersR_fix L 14 (3, x, a, 0, 0, ⟨#[]⟩) (4, y, b, 0, 0, ⟨#[]⟩) (by simp))
  have R3 := Lib.hid (Pl.numbersR_div L (3, x, a, 0, 0, ⟨#[]⟩) (4, y, b, 0, 0, ⟨#[]⟩))
  generalize Pl.numv (3, x, a, 0, 0, ⟨#[]⟩) = NVA at NA fa R1 R2 R3
  generalize Pl.numv (4, y, b, 0, 0, ⟨#[]⟩) = NVB at NB fb R1 R2 R3
  obtain ⟨va, pa⟩ := NVA
  obtain ⟨vb, pb⟩ := NVB
  simp only at NA NB fa fb R1 R2 R3
  generalize hR : Pl.numbersR L 14 (3, x, a, 0, 0, ⟨#[]⟩) (4, y, b, 0, 0, ⟨#[]⟩) = RES at R1 R2 R3 ⊢
  clear hR
  have HS := Lib.hid h
  have FF := Lib.hid (fun Z => f2_div va vb fa fb Z)
  have FX := Lib.hid (fun Z (hS : Stk W0 Pr p L Z) => fixed_any W0 Pr p L Z hlen hS 2 h2 (Pl.f2 14 va vb).1 (Pl.f2 14 va vb).2)
  clear fa fb ha hb h h2 hlen
  rcases pa with _ | _
  all_goals rcases pb with _ | _
  all_goals
    go_enter Tryz.func41, Tryz.ntmps41
    go_wp2_with fail
    refine (NA.out _).mono ?_
    rintro e w1 ⟨rfl, g1⟩
    have B1 := Lib.hid ((Blk.new (W := W) (Z := W.alloc (.cells #[.int .i64 3, .bool x, .int .i64 a, .int .i64 0, .int .i64 0, .string ⟨#[]⟩] 25)) #[.int .i64 4, .bool y, .int .i64 b, .int .i64 0, .int .i64 0, .string ⟨#[]⟩] 25 (by simp)).grow g1)
    have G1 := Lib.hid (grown_trans (((Grown.refl W).alloc #[.int .i64 3, .bool x, .int .i64 a, .int .i64 0, .int .i64 0, .string ⟨#[]⟩] 25).alloc #[.int .i64 4, .bool y, .int .i64 b, .int .i64 0, .int .i64 0, .string ⟨#[]⟩] 25) g1)
    rw [show (W.alloc (.cells #[.int .i64 3, .bool x, .int .i64 a, .int .i64 0, .int .i64 0, .string ⟨#[]⟩] 25)).heap.size = W.heap.size + 1 by simp] at B1
    obtain ⟨q, hq⟩ : ∃ q, q = W.heap.size + 1 := ⟨_, rfl⟩
    rw [← hq] at B1 ⊢
    clear hq g1 NA
    obtain ⟨c0, c1, c2, c3, c4, c5⟩ := B1.out.at6
    go_wp2_with fail
    refine (NB.out _).mono ?_
    rintro e w2 ⟨rfl, g2⟩
    have G2 := Lib.hid (grown_trans G1.out g2)
    clear g2 G1 B1 NB c0 c1 c2 c3 c4 c5
  · go_wp2_with fail
    go_ret
    rw [R1.out (by simp)]
    exact ⟨rfl, HS.out.grown G2.out, Fr.of_grown _ G2.out⟩
  · go_wp2_with fail
    go_ret
    rw [R1.out (by simp)]
    exact ⟨rfl, HS.out.grown G2.out, Fr.of_grown _ G2.out⟩
  · go_wp2_with fail
    go_ret
    rw [R1.out (by simp)]
    exact ⟨rfl, HS.out.grown G2.out, Fr.of_grown _ G2.out⟩
  · by_cases hv : vb = 0
    · subst hv
      go_wp2_with fail
      go_ret
      rw [R3.out (by simp) (by simp) (by simp)]
      exact ⟨rfl, HS.out.grown G2.out, Fr.of_grown _ G2.out⟩
    · have hv0 : (vb == 0) = false := beq_eq_false_iff_ne.2 hv
      have HV := Lib.hid hv
      clear hv
      obtain ⟨r, u1, u2, u3, u4, u5, u6, m1, m2, m3, m4, m5, m6, gm, l11, l12, l13, l14, l26⟩ := map_two w2
      have GM := Lib.hid (grown_trans G2.out gm)
      clear gm G2
      go_wp2_with fail
      refine (FF.out _).mono ?_
      rintro e w7 ⟨rfl, g7⟩
      have G7 := Lib.hid (grown_trans GM.out g7)
      clear g7 GM m1 m2 m3 m4 m5 m6 l11 l12 l13 l14 l26 FF
      go_wp2_with fail
      refine (FX.out _ (HS.out.grown G7.out)).mono ?_
      rintro e w8 ⟨rfl, hs, hf⟩
      have H8 := Lib.hid (And.intro hs ((Fr.of_grown _ G7.out).trans hf))
      clear hs hf FX G7
      go_wp2_with fail
      go_ret
      rw [R2.out (by simp) (by simp) (fun q => HV.out q.2)]
      exact ⟨rfl, H8.out⟩
theorem numbers_14_43 (a b : Int) (x y : Bool) (h2 : 2 ≤ L.length) (ha : Pl.mayO (4, x, a, 0, 0, ⟨#[]⟩)) (hb : Pl.mayO (3, y, b, 0, 0, ⟨#[]⟩)) :
    Calls Tryz.prog 41 #[.pointer (some ⟨p, 0, none⟩), .int .i64 14, Pl.ov (4, x, a, 0, 0, ⟨#[]⟩), Pl.ov (3, y, b, 0, 0, ⟨#[]⟩)] W fun e w' => e = .returned (.int .i64 (Pl.numbersR L 14 (4, x, a, 0, 0, ⟨#[]⟩) (3, y, b, 0, 0, ⟨#[]⟩)).1) ∧ Stk W0 Pr p (Pl.numbersR L 14 (4, x, a, 0, 0, ⟨#[]⟩) (3, y, b, 0, 0, ⟨#[]⟩)).2 w' ∧ FrS W0 Pr W w' := by
  have NA := Lib.hid (fun Z => num_obj (4, x, a, 0, 0, ⟨#[]⟩) ha (.inr rfl) Z)
  have NB := Lib.hid (fun Z => num_obj (3, y, b, 0, 0, ⟨#[]⟩) hb (.inl rfl) Z)
  have fa := Pl.numv_fix ha (.inr rfl)
  have fb := Pl.numv_fix hb (.inl rfl)
  have R1 := Lib.hid (Pl.numbersR_no L 14 (4, x, a, 0, 0, ⟨#[]⟩) (3, y, b, 0, 0, ⟨#[]⟩) (by simp))
  have R2 := Lib.hid (Pl.numbersR_fix L 14 (4, x, a, 0, 0, ⟨#[]⟩) (3, y, b, 0, 0, ⟨#[]⟩) (by simp))
  have R3 := Lib.hid (Pl.numbersR_div L (4, x, a, 0, 0, ⟨#[]⟩) (3, y, b, 0, 0, ⟨#[]⟩))
  generalize Pl.numv (4, x, a, 0, 0, ⟨#[]⟩) = NVA at NA fa R1 R2 R3
  generalize Pl.numv (3, y, b, 0, 0, ⟨#[]⟩) = NVB at NB fb R1 R2 R3
  obtain ⟨va, pa⟩ := NVA
  obtain ⟨vb, pb⟩ := NVB
  simp only at NA NB fa fb R1 R2 R3
  generalize hR : Pl.numbersR L 14 (4, x, a, 0, 0, ⟨#[]⟩) (3, y, b, 0, 0, ⟨#[]⟩) = RES at R1 R2 R3 ⊢
  clear hR
  have HS := Lib.hid h
  have FF := Lib.hid (fun Z => f2_div va vb fa fb Z)
  have FX := Lib.hid (fun Z (hS : Stk W0 Pr p L Z) => fixed_any W0 Pr p L Z hlen hS 2 h2 (Pl.f2 14 va vb).1 (Pl.f2 14 va vb).2)
  clear fa fb ha hb h h2 hlen
  rcases pa with _ | _
  all_goals rcases pb with _ | _
  all_goals
    go_enter Tryz.func41, Tryz.ntmps41
    go_wp2_with fail
    refine (NA.out _).mono ?_
    rintro e w1 ⟨rfl, g1⟩
    have B1 := Lib.hid ((Blk.new (W := W) (Z := W.alloc (.cells #[.int .i64 4, .bool x, .int .i64 a, .int .i64 0, .int .i64 0, .string ⟨#[]⟩] 25)) #[.int .i64 3, .bool y, .int .i64 b, .int .i64 0, .int .i64 0, .string ⟨#[]⟩] 25 (by simp)).grow g1)
    have G1 := Lib.hid (grown_trans (((Grown.refl W).alloc #[.int .i64 4, .bool x, .int .i64 a, .int .i64 0, .int .i64 0, .string ⟨#[]⟩] 25).alloc #[.int .i64 3, .bool y, .int .i64 b, .int .i64 0, .int .i64 0, .string ⟨#[]⟩] 25) g1)
    rw [show (W.alloc (.cells #[.int .i64 4, .bool x, .int .i64 a, .int .i64 0, .int .i64 0, .string ⟨#[]⟩] 25)).heap.size = W.heap.size + 1 by simp] at B1
    obtain ⟨q, hq⟩ : ∃ q, q = W.heap.size + 1 := ⟨_, rfl⟩
    rw [← hq] at B1 ⊢
    clear hq g1 NA
    obtain ⟨c0, c1, c2, c3, c4, c5⟩ := B1.out.at6
    go_wp2_with fail
    refine (NB.out _).mono ?_
    rintro e w2 ⟨rfl, g2⟩
    have G2 := Lib.hid (grown_trans G1.out g2)
    clear g2 G1 B1 NB c0 c1 c2 c3 c4 c5
  · go_wp2_with fail
    go_ret
    rw [R1.out (by simp)]
    exact ⟨rfl, HS.out.grown G2.out, Fr.of_grown _ G2.out⟩
  · go_wp2_with fail
    go_ret
    rw [R1.out (by simp)]
    exact ⟨rfl, HS.out.grown G2.out, Fr.of_grown _ G2.out⟩
  · go_wp2_with fail
    go_ret
    rw [R1.out (by simp)]
    exact ⟨rfl, HS.out.grown G2.out, Fr.of_grown _ G2.out⟩
  · by_cases hv : vb = 0
    · subst hv
      go_wp2_with fail
      go_ret
      rw [R3.out (by simp) (by simp) (by simp)]
      exact ⟨rfl, HS.out.grown G2.out, Fr.of_grown _ G2.out⟩
    · have hv0 : (vb == 0) = false := beq_eq_false_iff_ne.2 hv
      have HV := Lib.hid hv
      clear hv
      obtain ⟨r, u1, u2, u3, u4, u5, u6, m1, m2, m3, m4, m5, m6, gm, l11, l12, l13, l14, l26⟩ := map_two w2
      have GM := Lib.hid (grown_trans G2.out gm)
      clear gm G2
      go_wp2_with fail
      refine (FF.out _).mono ?_
      rintro e w7 ⟨rfl, g7⟩
      have G7 := Lib.hid (grown_trans GM.out g7)
      clear g7 GM m1 m2 m3 m4 m5 m6 l11 l12 l13 l14 l26 FF
      go_wp2_with fail
      refine (FX.out _ (HS.out.grown G7.out)).mono ?_
      rintro e w8 ⟨rfl, hs, hf⟩
      have H8 := Lib.hid (And.intro hs ((Fr.of_grown _ G7.out).trans hf))
      clear hs hf FX G7
      go_wp2_with fail
      go_ret
      rw [R2.out (by simp) (by simp) (fun q => HV.out q.2)]
      exact ⟨rfl, H8.out⟩
theorem numbers_14_44 (a b : Int) (x y : Bool) (h2 : 2 ≤ L.length) (ha : Pl.mayO (4, x, a, 0, 0, ⟨#[]⟩)) (hb : Pl.mayO (4, y, b, 0, 0, ⟨#[]⟩)) :
    Calls Tryz.prog 41 #[.pointer (some ⟨p, 0, none⟩), .int .i64 14, Pl.ov (4, x, a, 0, 0, ⟨#[]⟩), Pl.ov (4, y, b, 0, 0, ⟨#[]⟩)] W fun e w' => e = .returned (.int .i64 (Pl.numbersR L 14 (4, x, a, 0, 0, ⟨#[]⟩) (4, y, b, 0, 0, ⟨#[]⟩)).1) ∧ Stk W0 Pr p (Pl.numbersR L 14 (4, x, a, 0, 0, ⟨#[]⟩) (4, y, b, 0, 0, ⟨#[]⟩)).2 w' ∧ FrS W0 Pr W w' := by
  have NA := Lib.hid (fun Z => num_obj (4, x, a, 0, 0, ⟨#[]⟩) ha (.inr rfl) Z)
  have NB := Lib.hid (fun Z => num_obj (4, y, b, 0, 0, ⟨#[]⟩) hb (.inr rfl) Z)
  have fa := Pl.numv_fix ha (.inr rfl)
  have fb := Pl.numv_fix hb (.inr rfl)
  have R1 := Lib.hid (Pl.numbersR_no L 14 (4, x, a, 0, 0, ⟨#[]⟩) (4, y, b, 0, 0, ⟨#[]⟩) (by simp))
  have R2 := Lib.hid (Pl.numbersR_fix L 14 (4, x, a, 0, 0, ⟨#[]⟩) (4, y, b, 0, 0, ⟨#[]⟩) (by simp))
  have R3 := Lib.hid (Pl.numbersR_div L (4, x, a, 0, 0, ⟨#[]⟩) (4, y, b, 0, 0, ⟨#[]⟩))
  generalize Pl.numv (4, x, a, 0, 0, ⟨#[]⟩) = NVA at NA fa R1 R2 R3
  generalize Pl.numv (4, y, b, 0, 0, ⟨#[]⟩) = NVB at NB fb R1 R2 R3
  obtain ⟨va, pa⟩ := NVA
  obtain ⟨vb, pb⟩ := NVB
  simp only at NA NB fa fb R1 R2 R3
  generalize hR : Pl.numbersR L 14 (4, x, a, 0, 0, ⟨#[]⟩) (4, y, b, 0, 0, ⟨#[]⟩) = RES at R1 R2 R3 ⊢
  clear hR
  have HS := Lib.hid h
  have FF := Lib.hid (fun Z => f2_div va vb fa fb Z)
  have FX := Lib.hid (fun Z (hS : Stk W0 Pr p L Z) => fixed_any W0 Pr p L Z hlen hS 2 h2 (Pl.f2 14 va vb).1 (Pl.f2 14 va vb).2)
  clear fa fb ha hb h h2 hlen
  rcases pa with _ | _
  all_goals rcases pb with _ | _
  all_goals
    go_enter Tryz.func41, Tryz.ntmps41
    go_wp2_with fail
    refine (NA.out _).mono ?_
    rintro e w1 ⟨rfl, g1⟩
    have B1 := Lib.hid ((Blk.new (W := W) (Z := W.alloc (.cells #[.int .i64 4, .bool x, .int .i64 a, .int .i64 0, .int .i64 0, .string ⟨#[]⟩] 25)) #[.int .i64 4, .bool y, .int .i64 b, .int .i64 0, .int .i64 0, .string ⟨#[]⟩] 25 (by simp)).grow g1)
    have G1 := Lib.hid (grown_trans (((Grown.refl W).alloc #[.int .i64 4, .bool x, .int .i64 a, .int .i64 0, .int .i64 0, .string ⟨#[]⟩] 25).alloc #[.int .i64 4, .bool y, .int .i64 b, .int .i64 0, .int .i64 0, .string ⟨#[]⟩] 25) g1)
    rw [show (W.alloc (.cells #[.int .i64 4, .bool x, .int .i64 a, .int .i64 0, .int .i64 0, .string ⟨#[]⟩] 25)).heap.size = W.heap.size + 1 by simp] at B1
    obtain ⟨q, hq⟩ : ∃ q, q = W.heap.size + 1 := ⟨_, rfl⟩
    rw [← hq] at B1 ⊢
    clear hq g1 NA
    obtain ⟨c0, c1, c2, c3, c4, c5⟩ := B1.out.at6
    go_wp2_with fail
    refine (NB.out _).mono ?_
    rintro e w2 ⟨rfl, g2⟩
    have G2 := Lib.hid (grown_trans G1.out g2)
    clear g2 G1 B1 NB c0 c1 c2 c3 c4 c5
  · go_wp2_with fail
    go_ret
    rw [R1.out (by simp)]
    exact ⟨rfl, HS.out.grown G2.out, Fr.of_grown _ G2.out⟩
  · go_wp2_with fail
    go_ret
    rw [R1.out (by simp)]
    exact ⟨rfl, HS.out.grown G2.out, Fr.of_grown _ G2.out⟩
  · go_wp2_with fail
    go_ret
    rw [R1.out (by simp)]
    exact ⟨rfl, HS.out.grown G2.out, Fr.of_grown _ G2.out⟩
  · by_cases hv : vb = 0
    · subst hv
      go_wp2_with fail
      go_ret
      rw [R3.out (by simp) (by simp) (by simp)]
      exact ⟨rfl, HS.out.grown G2.out, Fr.of_grown _ G2.out⟩
    · have hv0 : (vb == 0) = false := beq_eq_false_iff_ne.2 hv
      have HV := Lib.hid hv
      clear hv
      obtain ⟨r, u1, u2, u3, u4, u5, u6, m1, m2, m3, m4, m5, m6, gm, l11, l12, l13, l14, l26⟩ := map_two w2
      have GM := Lib.hid (grown_trans G2.out gm)
      clear gm G2
      go_wp2_with fail
      refine (FF.out _).mono ?_
      rintro e w7 ⟨rfl, g7⟩
      have G7 := Lib.hid (grown_trans GM.out g7)
      clear g7 GM m1 m2 m3 m4 m5 m6 l11 l12 l13 l14 l26 FF
      go_wp2_with fail
      refine (FX.out _ (HS.out.grown G7.out)).mono ?_
      rintro e w8 ⟨rfl, hs, hf⟩
      have H8 := Lib.hid (And.intro hs ((Fr.of_grown _ G7.out).trans hf))
      clear hs hf FX G7
      go_wp2_with fail
      go_ret
      rw [R2.out (by simp) (by simp) (fun q => HV.out q.2)]
      exact ⟨rfl, H8.out⟩
theorem numbers_26_33 (a b : Int) (x y : Bool) (h2 : 2 ≤ L.length) (ha : Pl.mayO (3, x, a, 0, 0, ⟨#[]⟩)) (hb : Pl.mayO (3, y, b, 0, 0, ⟨#[]⟩)) :
    Calls Tryz.prog 41 #[.pointer (some ⟨p, 0, none⟩), .int .i64 26, Pl.ov (3, x, a, 0, 0, ⟨#[]⟩), Pl.ov (3, y, b, 0, 0, ⟨#[]⟩)] W fun e w' => e = .returned (.int .i64 (Pl.numbersR L 26 (3, x, a, 0, 0, ⟨#[]⟩) (3, y, b, 0, 0, ⟨#[]⟩)).1) ∧ Stk W0 Pr p (Pl.numbersR L 26 (3, x, a, 0, 0, ⟨#[]⟩) (3, y, b, 0, 0, ⟨#[]⟩)).2 w' ∧ FrS W0 Pr W w' := by
  have NA := Lib.hid (fun Z => num_obj (3, x, a, 0, 0, ⟨#[]⟩) ha (.inl rfl) Z)
  have NB := Lib.hid (fun Z => num_obj (3, y, b, 0, 0, ⟨#[]⟩) hb (.inl rfl) Z)
  have fa := Pl.numv_fix ha (.inl rfl)
  have fb := Pl.numv_fix hb (.inl rfl)
  have R1 := Lib.hid (Pl.numbersR_no L 26 (3, x, a, 0, 0, ⟨#[]⟩) (3, y, b, 0, 0, ⟨#[]⟩) (by simp))
  have R2 := Lib.hid (Pl.numbersR_fix L 26 (3, x, a, 0, 0, ⟨#[]⟩) (3, y, b, 0, 0, ⟨#[]⟩) (by simp))
  generalize Pl.numv (3, x, a, 0, 0, ⟨#[]⟩) = NVA at NA fa R1 R2
  generalize Pl.numv (3, y, b, 0, 0, ⟨#[]⟩) = NVB at NB fb R1 R2
  obtain ⟨va, pa⟩ := NVA
  obtain ⟨vb, pb⟩ := NVB
  simp only at NA NB fa fb R1 R2
  generalize hR : Pl.numbersR L 26 (3, x, a, 0, 0, ⟨#[]⟩) (3, y, b, 0, 0, ⟨#[]⟩) = RES at R1 R2 ⊢
  clear hR
  have HS := Lib.hid h
  have FF := Lib.hid (fun Z => f2_dir va vb fa fb Z)
  have FX := Lib.hid (fun Z (hS : Stk W0 Pr p L Z) => fixed_any W0 Pr p L Z hlen hS 2 h2 (Pl.f2 26 va vb).1 (Pl.f2 26 va vb).2)
  clear fa fb ha hb h h2 hlen
  rcases pa with _ | _
  all_goals rcases pb with _ | _
  all_goals
    go_enter Tryz.func41, Tryz.ntmps41
    go_wp2_with fail
    refine (NA.out _).mono ?_
    rintro e w1 ⟨rfl, g1⟩
    have B1 := Lib.hid ((Blk.new (W := W) (Z := W.alloc (.cells #[.int .i64 3, .bool x, .int .i64 a, .int .i64 0, .int .i64 0, .string ⟨#[]⟩] 25)) #[.int .i64 3, .bool y, .int .i64 b, .int .i64 0, .int .i64 0, .string ⟨#[]⟩] 25 (by simp)).grow g1)
    have G1 := Lib.hid (grown_trans (((Grown.refl W).alloc #[.int .i64 3, .bool x, .int .i64 a, .int .i64 0, .int .i64 0, .string ⟨#[]⟩] 25).alloc #[.int .i64 3, .bool y, .int .i64 b, .int .i64 0, .int .i64 0, .string ⟨#[]⟩] 25) g1)
    rw [show (W.alloc (.cells #[.int .i64 3, .bool x, .int .i64 a, .int .i64 0, .int .i64 0, .string ⟨#[]⟩] 25)).heap.size = W.heap.size + 1 by simp] at B1
    obtain ⟨q, hq⟩ : ∃ q, q = W.heap.size + 1 := ⟨_, rfl⟩
    rw [← hq] at B1 ⊢
    clear hq g1 NA
    obtain ⟨c0, c1, c2, c3, c4, c5⟩ := B1.out.at6
    go_wp2_with fail
    refine (NB.out _).mono ?_
    rintro e w2 ⟨rfl, g2⟩
    have G2 := Lib.hid (grown_trans G1.out g2)
    clear g2 G1 B1 NB c0 c1 c2 c3 c4 c5
  · go_wp2_with fail
    go_ret
    rw [R1.out (by simp)]
    exact ⟨rfl, HS.out.grown G2.out, Fr.of_grown _ G2.out⟩
  · go_wp2_with fail
    go_ret
    rw [R1.out (by simp)]
    exact ⟨rfl, HS.out.grown G2.out, Fr.of_grown _ G2.out⟩
  · go_wp2_with fail
    go_ret
    rw [R1.out (by simp)]
    exact ⟨rfl, HS.out.grown G2.out, Fr.of_grown _ G2.out⟩
  · obtain ⟨r, u1, u2, u3, u4, u5, u6, m1, m2, m3, m4, m5, m6, gm, l11, l12, l13, l14, l26⟩ := map_two w2
    have GM := Lib.hid (grown_trans G2.out gm)
    clear gm G2
    go_wp2_with fail
    refine (FF.out _).mono ?_
    rintro e w7 ⟨rfl, g7⟩
    have G7 := Lib.hid (grown_trans GM.out g7)
    clear g7 GM m1 m2 m3 m4 m5 m6 l11 l12 l13 l14 l26 FF
    go_wp2_with fail
    refine (FX.out _ (HS.out.grown G7.out)).mono ?_
    rintro e w8 ⟨rfl, hs, hf⟩
    have H8 := Lib.hid (And.intro hs ((Fr.of_grown _ G7.out).trans hf))
    clear hs hf FX G7
    go_wp2_with fail
    go_ret
    rw [R2.out (by simp) (by simp) (by simp)]
    exact ⟨rfl, H8.out⟩
theorem numbers_26_34 (a b : Int) (x y : Bool) (h2 : 2 ≤ L.length) (ha : Pl.mayO (3, x, a, 0, 0, ⟨#[]⟩)) (hb : Pl.mayO (4, y, b, 0, 0, ⟨#[]⟩)) :
    Calls Tryz.prog 41 #[.pointer (some ⟨p, 0, none⟩), .int .i64 26, Pl.ov (3, x, a, 0, 0, ⟨#[]⟩), Pl.ov (4, y, b, 0, 0, ⟨#[]⟩)] W fun e w' => e = .returned (.int .i64 (Pl.numbersR L 26 (3, x, a, 0, 0, ⟨#[]⟩) (4, y, b, 0, 0, ⟨#[]⟩)).1) ∧ Stk W0 Pr p (Pl.numbersR L 26 (3, x, a, 0, 0, ⟨#[]⟩) (4, y, b, 0, 0, ⟨#[]⟩)).2 w' ∧ FrS W0 Pr W w' := by
  have NA := Lib.hid (fun Z => num_obj (3, x, a, 0, 0, ⟨#[]⟩) ha (.inl rfl) Z)
  have NB := Lib.hid (fun Z => num_obj (4, y, b, 0, 0, ⟨#[]⟩) hb (.inr rfl) Z)
  have fa := Pl.numv_fix ha (.inl rfl)
  have fb := Pl.numv_fix hb (.inr rfl)
  have R1 := Lib.hid (Pl.numbersR_no L 26 (3, x, a, 0, 0, ⟨#[]⟩) (4, y, b, 0, 0, ⟨#[]⟩) (by simp))
  have R2 := Lib.hid (Pl.numbersR_fix L 26 (3, x, a, 0, 0, ⟨#[]⟩) (4, y, b, 0, 0, ⟨#[]⟩) (by simp))
  generalize Pl.numv (3, x, a, 0, 0, ⟨#[]⟩) = NVA at NA fa R1 R2
  generalize Pl.numv (4, y, b, 0, 0, ⟨#[]⟩) = NVB at NB fb R1 R2
  obtain ⟨va, pa⟩ := NVA
  obtain ⟨vb, pb⟩ := NVB
  simp only at NA NB fa fb R1 R2
  generalize hR : Pl.numbersR L 26 (3, x, a, 0, 0, ⟨#[]⟩) (4, y, b, 0, 0, ⟨#[]⟩) = RES at R1 R2 ⊢
  clear hR
  have HS := Lib.hid h
  have FF := Lib.hid (fun Z => f2_dir va vb fa fb Z)
  have FX := Lib.hid (fun Z (hS : Stk W0 Pr p L Z) => fixed_any W0 Pr p L Z hlen hS 2 h2 (Pl.f2 26 va vb).1 (Pl.f2 26 va vb).2)
  clear fa fb ha hb h h2 hlen
  rcases pa with _ | _
  all_goals rcases pb with _ | _
  all_goals
    go_enter Tryz.func41, Tryz.ntmps41
    go_wp2_with fail
    refine (NA.out _).mono ?_
    rintro e w1 ⟨rfl, g1⟩
    have B1 := Lib.hid ((Blk.new (W := W) (Z := W.alloc (.cells #[.int .i64 3, .bool x, .int .i64 a, .int .i64 0, .int .i64 0, .string ⟨#[]⟩] 25)) #[.int .i64 4, .bool y, .int .i64 b, .int .i64 0, .int .i64 0, .string ⟨#[]⟩] 25 (by simp)).grow g1)
    have G1 := Lib.hid (grown_trans (((Grown.refl W).alloc #[.int .i64 3, .bool x, .int .i64 a, .int .i64 0, .int .i64 0, .string ⟨#[]⟩] 25).alloc #[.int .i64 4, .bool y, .int .i64 b, .int .i64 0, .int .i64 0, .string ⟨#[]⟩] 25) g1)
    rw [show (W.alloc (.cells #[.int .i64 3, .bool x, .int .i64 a, .int .i64 0, .int .i64 0, .string ⟨#[]⟩] 25)).heap.size = W.heap.size + 1 by simp] at B1
    obtain ⟨q, hq⟩ : ∃ q, q = W.heap.size + 1 := ⟨_, rfl⟩
    rw [← hq] at B1 ⊢
    clear hq g1 NA
    obtain ⟨c0, c1, c2, c3, c4, c5⟩ := B1.out.at6
    go_wp2_with fail
    refine (NB.out _).mono ?_
    rintro e w2 ⟨rfl, g2⟩
    have G2 := Lib.hid (grown_trans G1.out g2)
    clear g2 G1 B1 NB c0 c1 c2 c3 c4 c5
  · go_wp2_with fail
    go_ret
    rw [R1.out (by simp)]
    exact ⟨rfl, HS.out.grown G2.out, Fr.of_grown _ G2.out⟩
  · go_wp2_with fail
    go_ret
    rw [R1.out (by simp)]
    exact ⟨rfl, HS.out.grown G2.out, Fr.of_grown _ G2.out⟩
  · go_wp2_with fail
    go_ret
    rw [R1.out (by simp)]
    exact ⟨rfl, HS.out.grown G2.out, Fr.of_grown _ G2.out⟩
  · obtain ⟨r, u1, u2, u3, u4, u5, u6, m1, m2, m3, m4, m5, m6, gm, l11, l12, l13, l14, l26⟩ := map_two w2
    have GM := Lib.hid (grown_trans G2.out gm)
    clear gm G2
    go_wp2_with fail
    refine (FF.out _).mono ?_
    rintro e w7 ⟨rfl, g7⟩
    have G7 := Lib.hid (grown_trans GM.out g7)
    clear g7 GM m1 m2 m3 m4 m5 m6 l11 l12 l13 l14 l26 FF
    go_wp2_with fail
    refine (FX.out _ (HS.out.grown G7.out)).mono ?_
    rintro e w8 ⟨rfl, hs, hf⟩
    have H8 := Lib.hid (And.intro hs ((Fr.of_grown _ G7.out).trans hf))
    clear hs hf FX G7
    go_wp2_with fail
    go_ret
    rw [R2.out (by simp) (by simp) (by simp)]
    exact ⟨rfl, H8.out⟩
theorem numbers_26_43 (a b : Int) (x y : Bool) (h2 : 2 ≤ L.length) (ha : Pl.mayO (4, x, a, 0, 0, ⟨#[]⟩)) (hb : Pl.mayO (3, y, b, 0, 0, ⟨#[]⟩)) :
    Calls Tryz.prog 41 #[.pointer (some ⟨p, 0, none⟩), .int .i64 26, Pl.ov (4, x, a, 0, 0, ⟨#[]⟩), Pl.ov (3, y, b, 0, 0, ⟨#[]⟩)] W fun e w' => e = .returned (.int .i64 (Pl.numbersR L 26 (4, x, a, 0, 0, ⟨#[]⟩) (3, y, b, 0, 0, ⟨#[]⟩)).1) ∧ Stk W0 Pr p (Pl.numbersR L 26 (4, x, a, 0, 0, ⟨#[]⟩) (3, y, b, 0, 0, ⟨#[]⟩)).2 w' ∧ FrS W0 Pr W w' := by
  have NA := Lib.hid (fun Z => num_obj (4, x, a, 0, 0, ⟨#[]⟩) ha (.inr rfl) Z)
  have NB := Lib.hid (fun Z => num_obj (3, y, b, 0, 0, ⟨#[]⟩) hb (.inl rfl) Z)
  have fa := Pl.numv_fix ha (.inr rfl)
  have fb := Pl.numv_fix hb (.inl rfl)
  have R1 := Lib.hid (Pl.numbersR_no L 26 (4, x, a, 0, 0, ⟨#[]⟩) (3, y, b, 0, 0, ⟨#[]⟩) (by simp))
  have R2 := Lib.hid (Pl.numbersR_fix L 26 (4, x, a, 0, 0, ⟨#[]⟩) (3, y, b, 0, 0, ⟨#[]⟩) (by simp))
  generalize Pl.numv (4, x, a, 0, 0, ⟨#[]⟩) = NVA at NA fa R1 R2
  generalize Pl.numv (3, y, b, 0, 0, ⟨#[]⟩) = NVB at NB fb R1 R2
  obtain ⟨va, pa⟩ := NVA
  obtain ⟨vb, pb⟩ := NVB
  simp only at NA NB fa fb R1 R2
  generalize hR : Pl.numbersR L 26 (4, x, a, 0, 0, ⟨#[]⟩) (3, y, b, 0, 0, ⟨#[]⟩) = RES at R1 R2 ⊢
  clear hR
  have HS := Lib.hid h
  have FF := Lib.hid (fun Z => f2_dir va vb fa fb Z)
  have FX := Lib.hid (fun Z (hS : Stk W0 Pr p L Z) => fixed_any W0 Pr p L Z hlen hS 2 h2 (Pl.f2 26 va vb).1 (Pl.f2 26 va vb).2)
  clear fa fb ha hb h h2 hlen
  rcases pa with _ | _
  all_goals rcases pb with _ | _
  all_goals
    go_enter Tryz.func41, Tryz.ntmps41
    go_wp2_with fail
    refine (NA.out _).mono ?_
    rintro e w1 ⟨rfl, g1⟩
    have B1 := Lib.hid ((Blk.new (W := W) (Z := W.alloc (.cells #[.int .i64 4, .bool x, .int .i64 a, .int .i64 0, .int .i64 0, .string ⟨#[]⟩] 25)) #[.int .i64 3, .bool y, .int .i64 b, .int .i64 0, .int .i64 0, .string ⟨#[]⟩] 25 (by simp)).grow g1)
    have G1 := Lib.hid (grown_trans (((Grown.refl W).alloc #[.int .i64 4, .bool x, .int .i64 a, .int .i64 0, .int .i64 0, .string ⟨#[]⟩] 25).alloc #[.int .i64 3, .bool y, .int .i64 b, .int .i64 0, .int .i64 0, .string ⟨#[]⟩] 25) g1)
    rw [show (W.alloc (.cells #[.int .i64 4, .bool x, .int .i64 a, .int .i64 0, .int .i64 0, .string ⟨#[]⟩] 25)).heap.size = W.heap.size + 1 by simp] at B1
    obtain ⟨q, hq⟩ : ∃ q, q = W.heap.size + 1 := ⟨_, rfl⟩
    rw [← hq] at B1 ⊢
    clear hq g1 NA
    obtain ⟨c0, c1, c2, c3, c4, c5⟩ := B1.out.at6
    go_wp2_with fail
    refine (NB.out _).mono ?_
    rintro e w2 ⟨rfl, g2⟩
    have G2 := Lib.hid (grown_trans G1.out g2)
    clear g2 G1 B1 NB c0 c1 c2 c3 c4 c5
  · go_wp2_with fail
    go_ret
    rw [R1.out (by simp)]
    exact ⟨rfl, HS.out.grown G2.out, Fr.of_grown _ G2.out⟩
  · go_wp2_with fail
    go_ret
    rw [R1.out (by simp)]
    exact ⟨rfl, HS.out.grown G2.out, Fr.of_grown _ G2.out⟩
  · go_wp2_with fail
    go_ret
    rw [R1.out (by simp)]
    exact ⟨rfl, HS.out.grown G2.out, Fr.of_grown _ G2.out⟩
  · obtain ⟨r, u1, u2, u3, u4, u5, u6, m1, m2, m3, m4, m5, m6, gm, l11, l12, l13, l14, l26⟩ := map_two w2
    have GM := Lib.hid (grown_trans G2.out gm)
    clear gm G2
    go_wp2_with fail
    refine (FF.out _).mono ?_
    rintro e w7 ⟨rfl, g7⟩
    have G7 := Lib.hid (grown_trans GM.out g7)
    clear g7 GM m1 m2 m3 m4 m5 m6 l11 l12 l13 l14 l26 FF
    go_wp2_with fail
    refine (FX.out _ (HS.out.grown G7.out)).mono ?_
    rintro e w8 ⟨rfl, hs, hf⟩
    have H8 := Lib.hid (And.intro hs ((Fr.of_grown _ G7.out).trans hf))
    clear hs hf FX G7
    go_wp2_with fail
    go_ret
    rw [R2.out (by simp) (by simp) (by simp)]
    exact ⟨rfl, H8.out⟩
theorem numbers_26_44 (a b : Int) (x y : Bool) (h2 : 2 ≤ L.length) (ha : Pl.mayO (4, x, a, 0, 0, ⟨#[]⟩)) (hb : Pl.mayO (4, y, b, 0, 0, ⟨#[]⟩)) :
    Calls Tryz.prog 41 #[.pointer (some ⟨p, 0, none⟩), .int .i64 26, Pl.ov (4, x, a, 0, 0, ⟨#[]⟩), Pl.ov (4, y, b, 0, 0, ⟨#[]⟩)] W fun e w' => e = .returned (.int .i64 (Pl.numbersR L 26 (4, x, a, 0, 0, ⟨#[]⟩) (4, y, b, 0, 0, ⟨#[]⟩)).1) ∧ Stk W0 Pr p (Pl.numbersR L 26 (4, x, a, 0, 0, ⟨#[]⟩) (4, y, b, 0, 0, ⟨#[]⟩)).2 w' ∧ FrS W0 Pr W w' := by
  have NA := Lib.hid (fun Z => num_obj (4, x, a, 0, 0, ⟨#[]⟩) ha (.inr rfl) Z)
  have NB := Lib.hid (fun Z => num_obj (4, y, b, 0, 0, ⟨#[]⟩) hb (.inr rfl) Z)
  have fa := Pl.numv_fix ha (.inr rfl)
  have fb := Pl.numv_fix hb (.inr rfl)
  have R1 := Lib.hid (Pl.numbersR_no L 26 (4, x, a, 0, 0, ⟨#[]⟩) (4, y, b, 0, 0, ⟨#[]⟩) (by simp))
  have R2 := Lib.hid (Pl.numbersR_fix L 26 (4, x, a, 0, 0, ⟨#[]⟩) (4, y, b, 0, 0, ⟨#[]⟩) (by simp))
  generalize Pl.numv (4, x, a, 0, 0, ⟨#[]⟩) = NVA at NA fa R1 R2
  generalize Pl.numv (4, y, b, 0, 0, ⟨#[]⟩) = NVB at NB fb R1 R2
  obtain ⟨va, pa⟩ := NVA
  obtain ⟨vb, pb⟩ := NVB
  simp only at NA NB fa fb R1 R2
  generalize hR : Pl.numbersR L 26 (4, x, a, 0, 0, ⟨#[]⟩) (4, y, b, 0, 0, ⟨#[]⟩) = RES at R1 R2 ⊢
  clear hR
  have HS := Lib.hid h
  have FF := Lib.hid (fun Z => f2_dir va vb fa fb Z)
  have FX := Lib.hid (fun Z (hS : Stk W0 Pr p L Z) => fixed_any W0 Pr p L Z hlen hS 2 h2 (Pl.f2 26 va vb).1 (Pl.f2 26 va vb).2)
  clear fa fb ha hb h h2 hlen
  rcases pa with _ | _
  all_goals rcases pb with _ | _
  all_goals
    go_enter Tryz.func41, Tryz.ntmps41
    go_wp2_with fail
    refine (NA.out _).mono ?_
    rintro e w1 ⟨rfl, g1⟩
    have B1 := Lib.hid ((Blk.new (W := W) (Z := W.alloc (.cells #[.int .i64 4, .bool x, .int .i64 a, .int .i64 0, .int .i64 0, .string ⟨#[]⟩] 25)) #[.int .i64 4, .bool y, .int .i64 b, .int .i64 0, .int .i64 0, .string ⟨#[]⟩] 25 (by simp)).grow g1)
    have G1 := Lib.hid (grown_trans (((Grown.refl W).alloc #[.int .i64 4, .bool x, .int .i64 a, .int .i64 0, .int .i64 0, .string ⟨#[]⟩] 25).alloc #[.int .i64 4, .bool y, .int .i64 b, .int .i64 0, .int .i64 0, .string ⟨#[]⟩] 25) g1)
    rw [show (W.alloc (.cells #[.int .i64 4, .bool x, .int .i64 a, .int .i64 0, .int .i64 0, .string ⟨#[]⟩] 25)).heap.size = W.heap.size + 1 by simp] at B1
    obtain ⟨q, hq⟩ : ∃ q, q = W.heap.size + 1 := ⟨_, rfl⟩
    rw [← hq] at B1 ⊢
    clear hq g1 NA
    obtain ⟨c0, c1, c2, c3, c4, c5⟩ := B1.out.at6
    go_wp2_with fail
    refine (NB.out _).mono ?_
    rintro e w2 ⟨rfl, g2⟩
    have G2 := Lib.hid (grown_trans G1.out g2)
    clear g2 G1 B1 NB c0 c1 c2 c3 c4 c5
  · go_wp2_with fail
    go_ret
    rw [R1.out (by simp)]
    exact ⟨rfl, HS.out.grown G2.out, Fr.of_grown _ G2.out⟩
  · go_wp2_with fail
    go_ret
    rw [R1.out (by simp)]
    exact ⟨rfl, HS.out.grown G2.out, Fr.of_grown _ G2.out⟩
  · go_wp2_with fail
    go_ret
    rw [R1.out (by simp)]
    exact ⟨rfl, HS.out.grown G2.out, Fr.of_grown _ G2.out⟩
  · obtain ⟨r, u1, u2, u3, u4, u5, u6, m1, m2, m3, m4, m5, m6, gm, l11, l12, l13, l14, l26⟩ := map_two w2
    have GM := Lib.hid (grown_trans G2.out gm)
    clear gm G2
    go_wp2_with fail
    refine (FF.out _).mono ?_
    rintro e w7 ⟨rfl, g7⟩
    have G7 := Lib.hid (grown_trans GM.out g7)
    clear g7 GM m1 m2 m3 m4 m5 m6 l11 l12 l13 l14 l26 FF
    go_wp2_with fail
    refine (FX.out _ (HS.out.grown G7.out)).mono ?_
    rintro e w8 ⟨rfl, hs, hf⟩
    have H8 := Lib.hid (And.intro hs ((Fr.of_grown _ G7.out).trans hf))
    clear hs hf FX G7
    go_wp2_with fail
    go_ret
    rw [R2.out (by simp) (by simp) (by simp)]
    exact ⟨rfl, H8.out⟩
theorem numbers_any (n : Int) (hn : n = 11 ∨ n = 12 ∨ n = 13 ∨ n = 14 ∨ n = 26) (oa ob : Pl.Ob) (h2 : 2 ≤ L.length) (ha : Pl.mayO oa) (hb : Pl.mayO ob) (ka : oa.1 = 3 ∨ oa.1 = 4) (kb : ob.1 = 3 ∨ ob.1 = 4) :
    Calls Tryz.prog 41 #[.pointer (some ⟨p, 0, none⟩), .int .i64 n, Pl.ov oa, Pl.ov ob] W fun e w' => e = .returned (.int .i64 (Pl.numbersR L n oa ob).1) ∧ Stk W0 Pr p (Pl.numbersR L n oa ob).2 w' ∧ FrS W0 Pr W w' := by
  obtain ⟨x, ea, _, _⟩ := Pl.mayO_num ha ka
  obtain ⟨y, eb, _, _⟩ := Pl.mayO_num hb kb
  generalize oa.1 = k at ea ka
  generalize oa.2.2.1 = a at ea
  generalize ob.1 = k2 at eb kb
  generalize ob.2.2.1 = b at eb
  subst ea
  subst eb
  rcases hn with rfl | rfl | rfl | rfl | rfl <;> rcases ka with rfl | rfl <;> rcases kb with rfl | rfl
  · exact numbers_11_33 W0 Pr p L W hlen h a b x y h2 ha hb
  · exact numbers_11_34 W0 Pr p L W hlen h a b x y h2 ha hb
  · exact numbers_11_43 W0 Pr p L W hlen h a b x y h2 ha hb
  · exact numbers_11_44 W0 Pr p L W hlen h a b x y h2 ha hb
  · exact numbers_12_33 W0 Pr p L W hlen h a b x y h2 ha hb
  · exact numbers_12_34 W0 Pr p L W hlen h a b x y h2 ha hb
  · exact numbers_12_43 W0 Pr p L W hlen h a b x y h2 ha hb
  · exact numbers_12_44 W0 Pr p L W hlen h a b x y h2 ha hb
  · exact numbers_13_33 W0 Pr p L W hlen h a b x y h2 ha hb
  · exact numbers_13_34 W0 Pr p L W hlen h a b x y h2 ha hb
  · exact numbers_13_43 W0 Pr p L W hlen h a b x y h2 ha hb
  · exact numbers_13_44 W0 Pr p L W hlen h a b x y h2 ha hb
  · exact numbers_14_33 W0 Pr p L W hlen h a b x y h2 ha hb
  · exact numbers_14_34 W0 Pr p L W hlen h a b x y h2 ha hb
  · exact numbers_14_43 W0 Pr p L W hlen h a b x y h2 ha hb
  · exact numbers_14_44 W0 Pr p L W hlen h a b x y h2 ha hb
  · exact numbers_26_33 W0 Pr p L W hlen h a b x y h2 ha hb
  · exact numbers_26_34 W0 Pr p L W hlen h a b x y h2 ha hb
  · exact numbers_26_43 W0 Pr p L W hlen h a b x y h2 ha hb
  · exact numbers_26_44 W0 Pr p L W hlen h a b x y h2 ha hb
end
end Go.Proofs.YtfmmomdmemcbbaaGreat
