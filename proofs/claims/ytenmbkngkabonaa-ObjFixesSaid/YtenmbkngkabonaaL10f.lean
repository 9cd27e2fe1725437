/- The walk of tympanlaw10.ObjFixes. -/
import Derived.Test.YtenmbkngkabonaaL10
namespace Go.Proofs.Ytenmbkngkabonaa
set_option linter.unusedVariables false
open Go.RowKit

theorem fixes_core (v part n : Int) (hv : v.tmod 16000 = n) (v1 : -32768 ≤ v) (v2 : v ≤ 32767) (p1 : 0 ≤ part) (p2 : part ≤ 65535) (n1 : -15999 ≤ n) (n2 : n ≤ 15999)
    (hp : (part == 0) = true ∨ (part == 0) = false ∧ 0 < part) (w : World) :
    Calls Try.prog 12 #[.int .i16 v, .int .u16 part] w fun e w' => e = Ending.returned (.bool true) ∧ Grown w w' := by
  have sa : Pl.sz 3 n = n * 65536 := by simp [Pl.sz]
  have sf : Pl.sz 4 (n * 65536) = n * 65536 := by simp [Pl.sz]
  have sm : Pl.sz 4 (n * 65536 + part) = n * 65536 + part := by simp [Pl.sz]
  have so : Pl.sz 3 (n + 1) = (n + 1) * 65536 := by simp [Pl.sz]
  have ia : Pl.isn 3 n := by unfold Pl.isn; omega
  have if' : Pl.isn 4 (n * 65536) := by unfold Pl.isn; omega
  have im : Pl.isn 4 (n * 65536 + part) := by unfold Pl.isn; omega
  have io : Pl.isn 3 (n + 1) := by unfold Pl.isn; omega
  have CX := Lib.hid (fun W => num_int false n (by omega) W)
  have CY := Lib.hid (fun W => num_fix false (n * 65536) (by unfold Pl.fx; omega) W)
  have CS := fun W => same_num 3 false n ia 4 false (n * 65536) if' W
  rw [sa, sf, beq_self_eq_true] at CS
  replace CS := Lib.hid CS
  have CT := fun W => same_num 4 false (n * 65536) if' 3 false n ia W
  rw [sa, sf, beq_self_eq_true] at CT
  replace CT := Lib.hid CT
  have hF : (n * 65536 != n * 65536) = false := by simp
  rcases hp with hp | ⟨hp, hp'⟩
  · clear sa sf sm so ia if' im io
    go_enter Try.func12, Try.ntmps12
    go_wp2_with fail
    refine (known_yes _).mono ?_
    rintro e w1 ⟨rfl, g1⟩
    go_wp2_with fail
    refine (CX.out _).mono ?_
    rintro e w2 ⟨rfl, g2⟩
    have hA : ObS w1 w1.heap.size 3 false n 0 0 ⟨#[]⟩ w2 := ObS.grow (by exact ⟨by simp [go_sem], by simp [go_sem], by simp [go_sem], by simp [go_sem], by simp [go_sem], by simp [go_sem], by (repeat (first | exact Grown.refl _ | assumption | apply Grown.drew | apply Grown.alloc))⟩) g2
    have hB : ObS w1 (w1.heap.size + 1) 4 false (n * 65536) 0 0 ⟨#[]⟩ w2 := ObS.grow (by exact ⟨by simp [go_sem], by simp [go_sem], by simp [go_sem], by simp [go_sem], by simp [go_sem], by simp [go_sem], by (repeat (first | exact Grown.refl _ | assumption | apply Grown.drew | apply Grown.alloc))⟩) g2
    clear g2
    generalize w1.heap.size = B at *
    obtain ⟨b0, b1, b2, b3, b4, b5, gb⟩ := id hB
    go_wp2_with fail
    refine (CY.out _).mono ?_
    rintro e w3 ⟨rfl, g3⟩
    clear b0 b1 b2 b3 b4 b5 gb
    replace hA := hA.grow g3
    replace hB := hB.grow g3
    clear g3
    obtain ⟨a0, a1, a2, a3, a4, a5, ga⟩ := id hA
    obtain ⟨b0, b1, b2, b3, b4, b5, gb⟩ := id hB
    go_wp2_with fail
    refine (CS.out _).mono ?_
    rintro e w4 ⟨rfl, g4⟩
    clear a0 a1 a2 a3 a4 a5 ga
    clear b0 b1 b2 b3 b4 b5 gb
    replace hA := hA.grow g4
    replace hB := hB.grow g4
    clear g4
    obtain ⟨a0, a1, a2, a3, a4, a5, ga⟩ := id hA
    obtain ⟨b0, b1, b2, b3, b4, b5, gb⟩ := id hB
    go_wp2_with fail
    refine (CT.out _).mono ?_
    rintro e w5 ⟨rfl, g5⟩
    clear a0 a1 a2 a3 a4 a5 ga
    clear b0 b1 b2 b3 b4 b5 gb
    replace hA := hA.grow g5
    replace hB := hB.grow g5
    clear g5
    obtain ⟨a0, a1, a2, a3, a4, a5, ga⟩ := id hA
    obtain ⟨b0, b1, b2, b3, b4, b5, gb⟩ := id hB
    go_wp2_with fail
    go_ret
    exact ⟨rfl, grown_trans g1 ga⟩
  · have CL := fun W => less_num 3 false n ia 4 false (n * 65536 + part) im W
    rw [sa, sm, decide_eq_true (by omega)] at CL
    replace CL := Lib.hid CL
    have CM := fun W => less_num 4 false (n * 65536 + part) im 3 false (n + 1) io W
    rw [so, sm, decide_eq_true (by omega)] at CM
    replace CM := Lib.hid CM
    have CN := fun W => same_num 3 false n ia 4 false (n * 65536 + part) im W
    rw [sa, sm, beq_eq_false_iff_ne.2 (by omega)] at CN
    replace CN := Lib.hid CN
    clear sa sf sm so ia if' im io
    go_enter Try.func12, Try.ntmps12
    go_wp2_with fail
    refine (known_yes _).mono ?_
    rintro e w1 ⟨rfl, g1⟩
    go_wp2_with fail
    refine (CX.out _).mono ?_
    rintro e w2 ⟨rfl, g2⟩
    have hA : ObS w1 w1.heap.size 3 false n 0 0 ⟨#[]⟩ w2 := ObS.grow (by exact ⟨by simp [go_sem], by simp [go_sem], by simp [go_sem], by simp [go_sem], by simp [go_sem], by simp [go_sem], by (repeat (first | exact Grown.refl _ | assumption | apply Grown.drew | apply Grown.alloc))⟩) g2
    have hB : ObS w1 (w1.heap.size + 1) 4 false (n * 65536) 0 0 ⟨#[]⟩ w2 := ObS.grow (by exact ⟨by simp [go_sem], by simp [go_sem], by simp [go_sem], by simp [go_sem], by simp [go_sem], by simp [go_sem], by (repeat (first | exact Grown.refl _ | assumption | apply Grown.drew | apply Grown.alloc))⟩) g2
    clear g2
    generalize w1.heap.size = B at *
    obtain ⟨b0, b1, b2, b3, b4, b5, gb⟩ := id hB
    go_wp2_with fail
    refine (CY.out _).mono ?_
    rintro e w3 ⟨rfl, g3⟩
    clear b0 b1 b2 b3 b4 b5 gb
    replace hA := hA.grow g3
    replace hB := hB.grow g3
    clear g3
    obtain ⟨a0, a1, a2, a3, a4, a5, ga⟩ := id hA
    obtain ⟨b0, b1, b2, b3, b4, b5, gb⟩ := id hB
    go_wp2_with fail
    refine (CS.out _).mono ?_
    rintro e w4 ⟨rfl, g4⟩
    clear a0 a1 a2 a3 a4 a5 ga
    clear b0 b1 b2 b3 b4 b5 gb
    replace hA := hA.grow g4
    replace hB := hB.grow g4
    clear g4
    obtain ⟨a0, a1, a2, a3, a4, a5, ga⟩ := id hA
    obtain ⟨b0, b1, b2, b3, b4, b5, gb⟩ := id hB
    go_wp2_with fail
    refine (CT.out _).mono ?_
    rintro e w5 ⟨rfl, g5⟩
    clear a0 a1 a2 a3 a4 a5 ga
    clear b0 b1 b2 b3 b4 b5 gb
    replace hA := hA.grow g5
    replace hB := hB.grow g5
    clear g5
    have hA1 := fun o t => hA.grow ((Grown.refl _).alloc o t)
    have a0 := fun o t => (hA1 o t).1
    have a1 := fun o t => (hA1 o t).2.1
    have a2 := fun o t => (hA1 o t).2.2.1
    have a3 := fun o t => (hA1 o t).2.2.2.1
    have a4 := fun o t => (hA1 o t).2.2.2.2.1
    have a5 := fun o t => (hA1 o t).2.2.2.2.2.1
    clear hA1
    obtain ⟨b0, b1, b2, b3, b4, b5, gb⟩ := id hB
    go_wp2_with fail
    refine (CL.out _).mono ?_
    rintro e w6 ⟨rfl, g6⟩
    have hM : ObS w5 w5.heap.size 4 false (n * 65536 + part) 0 0 ⟨#[]⟩ w6 := ObS.grow (by exact ⟨by simp [go_sem], by simp [go_sem], by simp [go_sem], by simp [go_sem], by simp [go_sem], by simp [go_sem], by (repeat (first | exact Grown.refl _ | assumption | apply Grown.drew | apply Grown.alloc))⟩) g6
    clear a0 a1 a2 a3 a4 a5 b0 b1 b2 b3 b4 b5 gb hB
    replace hA := hA.grow (grown_trans ((Grown.refl _).alloc _ _) g6)
    clear g6
    generalize w5.heap.size = D at *
    obtain ⟨m0, m1, m2, m3, m4, m5, gm⟩ := id hM
    go_wp2_with fail
    refine (CM.out _).mono ?_
    rintro e w7 ⟨rfl, g7⟩
    clear m0 m1 m2 m3 m4 m5 gm
    replace hA := hA.grow g7
    replace hM := hM.grow g7
    clear g7
    obtain ⟨a0, a1, a2, a3, a4, a5, ga⟩ := id hA
    obtain ⟨m0, m1, m2, m3, m4, m5, gm⟩ := id hM
    go_wp2_with fail
    refine (CN.out _).mono ?_
    rintro e w8 ⟨rfl, g8⟩
    go_wp2_with fail
    go_ret
    exact ⟨rfl, grown_trans g1 (grown_trans ga g8)⟩
theorem walk_ObjFixes (v part : Int) (w0 : (Lit.int .i16 v).wf = true) (w1 : (Lit.int .u16 part).wf = true) (w : World) :
    Calls Try.prog 12 #[.int .i16 v, .int .u16 part] w fun e w' => e = .returned (.bool true) ∧ Grown w w' := by
  have hx : -32768 ≤ v ∧ v ≤ 32767 := by simp [Lit.wf, IntKind.min, IntKind.max, IntKind.signed, IntKind.bits] at w0; omega
  have hy : 0 ≤ part ∧ part ≤ 65535 := by simp [Lit.wf, IntKind.min, IntKind.max, IntKind.signed, IntKind.bits] at w1; omega
  have hb := Pl.tmod_bd v 16000 (by omega)
  refine fixes_core v part _ rfl hx.1 hx.2 hy.1 hy.2 (by omega) (by omega) ?_ w
  by_cases h : part = 0
  · exact .inl (beq_iff_eq.2 h)
  · exact .inr ⟨beq_eq_false_iff_ne.2 h, by omega⟩
end Go.Proofs.Ytenmbkngkabonaa
