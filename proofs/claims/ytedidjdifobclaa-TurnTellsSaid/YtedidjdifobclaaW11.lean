/- The walks of package turn: begin, Dir and the closure in it. -/
import Derived.Test.YtedidjdifobclaaW10
import Derived.Deep.RegionHeld3
import Derived.Deep.DeepCutAuto
namespace Go.Proofs.Ytedidjdifobclaa
set_option linter.unusedVariables false
open Go.RowKit

/-- what the closure's two captured numbers are, and that the world has only grown -/
abbrev DirS (w0 : World) (A B : Nat) (y x : Int) (w : World) : Prop := w.cell? ⟨A, 0, none⟩ = some (.int .i64 y) ∧ w.cell? ⟨B, 0, none⟩ = some (.int .i64 x) ∧ Grown w0 w
theorem cosS (w0 w : World) (A B : Nat) (y x v : Int) (h : DirS w0 A B y x w) :
    Calls Try.prog 51 #[.int .i64 v] w fun e w' => e = .returned (.int .i64 (Pl.cos v)) ∧ DirS w0 A B y x w' :=
  (cos_any v w).mono fun _ _ ⟨he, hg⟩ => ⟨he, grown_cell hg h.1, grown_cell hg h.2.1, grown_trans h.2.2 hg⟩
theorem sinS (w0 w : World) (A B : Nat) (y x v : Int) (h : DirS w0 A B y x w) :
    Calls Try.prog 50 #[.int .i64 v] w fun e w' => e = .returned (.int .i64 (Pl.sin v)) ∧ DirS w0 A B y x w' :=
  (sin_any v w).mono fun _ _ ⟨he, hg⟩ => ⟨he, grown_cell hg h.1, grown_cell hg h.2.1, grown_trans h.2.2 hg⟩

theorem ahead_any (A B : Nat) (y x v : Int) (hy : -1073741823 ≤ y ∧ y ≤ 1073741823) (hx : -1073741823 ≤ x ∧ x ≤ 1073741823) (w : World)
    (hA : w.cell? ⟨A, 0, none⟩ = some (.int .i64 y)) (hB : w.cell? ⟨B, 0, none⟩ = some (.int .i64 x)) :
    Calls Try.prog 94 #[.int .i64 v, .pointer (some ⟨A, 0, none⟩), .pointer (some ⟨B, 0, none⟩)] w fun e w' => e = .returned (.int .i64 (Pl.cos v * y - Pl.sin v * x)) ∧ DirS w A B y x w' := by
  have b1 := Pl.mul_bd46 _ _ (Pl.cos_bd v) hy
  have b2 := Pl.mul_bd46 _ _ (Pl.sin_bd v) hx
  have f1 : IntKind.i64.wrap (Pl.cos v * y) = Pl.cos v * y := IntWalk.i64_in _ (by omega)
  have f2 : IntKind.i64.wrap (Pl.sin v * x) = Pl.sin v * x := IntWalk.i64_in _ (by omega)
  have f3 : IntKind.i64.wrap (Pl.cos v * y - Pl.sin v * x) = Pl.cos v * y - Pl.sin v * x := IntWalk.i64_in _ (by omega)
  clear b1 b2
  have hS0 : DirS w A B y x w.drew := ⟨hA, hB, Grown.drew (Grown.refl w)⟩
  go_enter Try.func94, Try.ntmps94
  go_wp2_with fail
  go_region_held3 (fun w' => w'.cell? ⟨A, 0, none⟩ = some (.int .i64 y) ∧ w'.cell? ⟨B, 0, none⟩ = some (.int .i64 x) ∧ Grown w w') (first | assumption | go_keep)
    (first | (go_at_call 51; refine (cosS w _ A B y x v ?_).mono ?_; (assumption); rintro e w' ⟨rfl, hS⟩) | (go_at_call 50; refine (sinS w _ A B y x v ?_).mono ?_; (assumption); rintro e w' ⟨rfl, hS⟩))
  rename_i hSw
  go_wp2
  go_ret
  exact ⟨rfl, hSw⟩

theorem begin_any (y x : Int) (w : World) :
    Calls Try.prog 93 #[.int .i64 y, .int .i64 x] w fun e w' => e = .returned (.int .i64 (Pl.begin y x)) ∧ w = w' := by
  have hb : Pl.begin y x = if 0 < x ∧ 0 ≤ y then 0 else if x ≤ 0 ∧ 0 < y then 5898240 else if x < 0 then 11796480 else 17694720 := rfl
  have hc : (0 < x ∧ 0 ≤ y ∧ Hid (Pl.begin y x = 0)) ∨ (x ≤ 0 ∧ 0 < y ∧ Hid (Pl.begin y x = 5898240)) ∨ (x < 0 ∧ y ≤ 0 ∧ Hid (Pl.begin y x = 11796480)) ∨ (0 < x ∧ y < 0 ∧ Hid (Pl.begin y x = 17694720)) ∨ (x ≤ 0 ∧ 0 ≤ x ∧ y ≤ 0 ∧ Hid (Pl.begin y x = 17694720)) := by
    by_cases c1 : 0 < x
    · by_cases c2 : 0 ≤ y
      · exact .inl ⟨c1, c2, Lib.hid (by rw [hb, if_pos ⟨c1, c2⟩])⟩
      · exact .inr (.inr (.inr (.inl ⟨c1, by omega, Lib.hid (by rw [hb, if_neg (by omega), if_neg (by omega), if_neg (by omega)])⟩)))
    · by_cases c2 : 0 < y
      · exact .inr (.inl ⟨by omega, c2, Lib.hid (by rw [hb, if_neg (by omega), if_pos ⟨by omega, c2⟩])⟩)
      · by_cases c3 : x < 0
        · exact .inr (.inr (.inl ⟨c3, by omega, Lib.hid (by rw [hb, if_neg (by omega), if_neg (by omega), if_pos c3])⟩))
        · exact .inr (.inr (.inr (.inr ⟨by omega, by omega, by omega, Lib.hid (by rw [hb, if_neg (by omega), if_neg (by omega), if_neg (by omega)])⟩)))
  clear hb
  rcases hc with ⟨h1, h2, h3⟩ | ⟨h1, h2, h3⟩ | ⟨h1, h2, h3⟩ | ⟨h1, h2, h3⟩ | ⟨h1, h4, h2, h3⟩
  all_goals
    go_enter Try.func93, Try.ntmps93
    go_wp2
    go_ret
    exact ⟨ret_int h3.out.symm, rfl⟩
set_option maxHeartbeats 1000000 in
theorem dir_no (y x : Int) (h : (y = 0 ∧ x = 0) ∨ ¬ (-1073741823 ≤ y ∧ y ≤ 1073741823) ∨ ¬ (-1073741823 ≤ x ∧ x ≤ 1073741823)) (w : World) :
    Calls Try.prog 52 #[.int .i64 y, .int .i64 x] w fun e w' => e = .returned (.tuple #[.int .i64 0, .bool false]) ∧ Grown w w' := by
  have hc : (y = 0 ∧ x = 0) ∨ (1073741823 < y ∧ (y == 0) = false) ∨ (y < -1073741823 ∧ (y == 0) = false) ∨
      ((-1073741823 ≤ y ∧ y ≤ 1073741823) ∧ 1073741823 < x ∧ (x == 0) = false ∧ ((y == 0) = true ∨ (y == 0) = false)) ∨
      ((-1073741823 ≤ y ∧ y ≤ 1073741823) ∧ x < -1073741823 ∧ (x == 0) = false ∧ ((y == 0) = true ∨ (y == 0) = false)) := by
    have hyb : (y == 0) = true ∨ (y == 0) = false := by cases (y == 0) <;> simp
    by_cases c1 : y = 0 ∧ x = 0
    · exact .inl c1
    · by_cases c2 : 1073741823 < y
      · exact .inr (.inl ⟨c2, beq_eq_false_iff_ne.2 (by omega)⟩)
      · by_cases c3 : y < -1073741823
        · exact .inr (.inr (.inl ⟨c3, beq_eq_false_iff_ne.2 (by omega)⟩))
        · by_cases c4 : 1073741823 < x
          · exact .inr (.inr (.inr (.inl ⟨by omega, c4, beq_eq_false_iff_ne.2 (by omega), hyb⟩)))
          · exact .inr (.inr (.inr (.inr ⟨by omega, by omega, beq_eq_false_iff_ne.2 (by omega), hyb⟩)))
  clear h
  rcases hc with ⟨rfl, rfl⟩ | ⟨h1, h2⟩ | ⟨h1, h2⟩ | ⟨h1, h2, h3, h4 | h4⟩ | ⟨h1, h2, h3, h4 | h4⟩
  all_goals
    go_enter Try.func52, Try.ntmps52
    go_wp2_with fail
    go_ret2
    exact ⟨rfl, ((Grown.refl w).alloc _ _).alloc _ _⟩

theorem ahead_at (w0 : World) (A B : Nat) (y x low : Int) (j : Nat) (hy : -1073741823 ≤ y ∧ y ≤ 1073741823) (hx : -1073741823 ≤ x ∧ x ≤ 1073741823) (hl : Pl.begin y x = low) (w : World) (h : DirS w0 A B y x w) :
    Calls Try.prog 94 #[.int .i64 (low + (j : Int) * 65536), .pointer (some ⟨A, 0, none⟩), .pointer (some ⟨B, 0, none⟩)] w fun e w' => e = .returned (.int .i64 (Pl.gAt y x j)) ∧ DirS w0 A B y x w' := by
  refine (ahead_any A B y x (low + (j : Int) * 65536) hy hx w h.1 h.2.1).mono fun e w' ⟨he, h1, h2, h3⟩ => ⟨?_, h1, h2, grown_trans h.2.2 h3⟩
  rw [he]; unfold Pl.gAt Pl.ahead; rw [hl]

set_option maxHeartbeats 4000000 in
theorem dir_core (y x low : Int) (J : Nat) (hy : -1073741823 ≤ y ∧ y ≤ 1073741823) (hx : -1073741823 ≤ x ∧ x ≤ 1073741823) (h0 : ((y == 0) = false ∧ (x == x) = true) ∨ ((y == 0) = true ∧ (x == 0) = false))
    (hl : Hid (Pl.begin y x = low)) (hJ : Hid (Pl.dirJ y x = J)) (w : World) :
    Calls Try.prog 52 #[.int .i64 y, .int .i64 x] w fun e w' => e = .returned (.tuple #[.int .i64 (Pl.dir y x), .bool true]) ∧ Grown w w' := by
  have hlb := Pl.begin_bd y x
  rw [hl.out] at hlb
  have CA := Lib.hid (fun (j : Nat) (w' : World) (h : DirS w w.heap.size (w.heap.size + 1) y x w') => ahead_at w w.heap.size (w.heap.size + 1) y x low j hy hx hl.out w' h)
  have hG := Lib.hid (fun j => Pl.gAt_bd y x j hy hx)
  have hd : Pl.dir y x = if Pl.gAt y x 0 ≤ 0 then Pl.begin y x else Pl.dirEnd y x (Pl.dirJ y x) := rfl
  rw [hl.out, hJ.out] at hd
  have HD := Lib.hid hd; clear hd
  have hst : Hid (Pl.stopFrom (Pl.gAt y x) 90 1 = J) := hJ.out
  have hes : ∀ j, Pl.dirEnd y x j = if Pl.gAt y x j < 0 then (low + (j : Int) * 65536 + Pl.share (Pl.gAt y x (j - 1)) 65536 (Pl.gAt y x (j - 1) - Pl.gAt y x j) - 65536) % 23592960 else (low + (j : Int) * 65536) % 23592960 := by
    intro j; unfold Pl.dirEnd; rw [hl.out]
  have HE := Lib.hid hes; clear hes
  have e0 : low + ((0 : Nat) : Int) * 65536 = low := by omega
  have C0 := Lib.hid (fun W h => CA.out 0 W h)
  rw [e0] at C0
  clear e0
  generalize Pl.gAt y x = G at *
  have hG0 := hG.out 0
  by_cases hle : G 0 ≤ 0
  · have HR := Lib.hid (HD.out.trans (if_pos hle))
    rcases h0 with ⟨h0, h1⟩ | ⟨h0, h1⟩
    all_goals
      go_enter Try.func52, Try.ntmps52
      go_wp2_with fail
      refine (begin_any y x _).mono ?_
      rintro e w1 ⟨rfl, rfl⟩
      rw [hl.out]
      go_wp2_with fail
      refine (C0.out _ ⟨by simp [go_sem], by simp [go_sem], ((Grown.refl w).alloc _ _).alloc _ _⟩).mono ?_
      rintro e w1 ⟨rfl, hS⟩
      go_wp2_with fail
      go_ret2
      exact ⟨ret_ib (by rw [HR.out]) rfl, hS.2.2⟩
  · have HR := Lib.hid (HD.out.trans (if_neg hle))
    have hpos : 0 < G 0 := by omega
    clear hle
    rcases h0 with ⟨h0, h1⟩ | ⟨h0, h1⟩
    all_goals
      go_enter Try.func52, Try.ntmps52
      go_wp2_with fail
      refine (begin_any y x _).mono ?_
      rintro e w1 ⟨rfl, rfl⟩
      rw [hl.out]
      go_wp2_with fail
      refine (C0.out _ ⟨by simp [go_sem], by simp [go_sem], ((Grown.refl w).alloc _ _).alloc _ _⟩).mono ?_
      rintro e w1 ⟨rfl, hS⟩
      go_wp2_with fail
      obtain ⟨hS1, hS2, hS3⟩ := hS
      go_loopw [8, 9] (fun was deg wr => ∃ (j : Nat) (D : Int), 1 ≤ j ∧ j ≤ 90 ∧ (low + (j : Int) * 65536 ≤ D ∧ D ≤ low + (j : Int) * 65536) ∧ deg = .int .i64 D ∧ was = .int .i64 (G (j - 1)) ∧ 0 < G (j - 1) ∧ Hid (Pl.stopFrom G (91 - j) j = J) ∧ Hid (DirS w w.heap.size (w.heap.size + 1) y x wr))
        (fun _ deg _ => (low + 6000000 - intOf deg).toNat)
      case atStart => exact ⟨1, _, by omega, by omega, by omega, rfl, rfl, hpos, hst, ⟨hS1, hS2, hS3⟩⟩
      case round =>
        obtain ⟨j, D, hj1, hj2, hD, rfl, rfl, hwas, HST, HDS⟩ := hrel
        have eD : low + (j : Int) * 65536 = D := by omega
        have hgj := hG.out j
        have hgw := hG.out (j - 1)
        have CJ := Lib.hid (CA.out j _ HDS.out)
        have HE := HE.out j
        rw [eD] at CJ HE
        have ED := Lib.hid eD; clear eD
        have hunf : Pl.stopFrom G (91 - j) j = if 0 < G j ∧ j < 90 then Pl.stopFrom G (91 - (j + 1)) (j + 1) else j := by
          rw [show 91 - j = (91 - (j + 1)) + 1 by omega]; rfl
        have HU := Lib.hid (hunf.symm.trans HST.out); clear hunf
        by_cases c : 0 < G j ∧ j < 90
        · have HJ := HU.out
          rw [if_pos c] at HJ
          have HJ' := Lib.hid HJ; clear HJ
          obtain ⟨c1, c2⟩ := c
          clear HE
          have c3 : decide (D < low + 5898240) = true := decide_eq_true (by omega)
          have c4 : decide (0 < G j) = true := decide_eq_true c1
          go_wp2_with fail
          refine CJ.out.mono ?_
          rintro e w2 ⟨rfl, hS⟩
          go_wp2_with fail
          go_roundw
          case rel => exact ⟨j + 1, _, by omega, by omega, by omega, rfl, rfl, c1, HJ'.out, hS⟩
          case measure => simp [intOf] <;> omega
        · have HJ := HU.out
          rw [if_neg c] at HJ
          subst HJ
          have HEJ := HE
          clear HE
          by_cases n : G j < 0
          · rw [if_pos n] at HEJ
            have HEJ' := Lib.hid HEJ; clear HEJ
            have hsh := Pl.share_part (G (j - 1)) (G (j - 1) - G j) hwas (by omega)
            have CM := Lib.hid (fun w => muldiv_ok (G (j - 1)) 65536 (G (j - 1) - G j) (by unfold Pl.i64; omega) (by decide) (by unfold Pl.i64; omega) (by omega) (by unfold Pl.i64; omega) w)
            clear c
            have n1 : decide (0 < G j) = false := decide_eq_false (by omega)
            have n2 : decide (G j < 0) = true := decide_eq_true n
            go_wp2_with fail
            refine CJ.out.mono ?_
            rintro e w2 ⟨rfl, hS⟩
            go_wp2_with fail
            refine (CM.out _).mono ?_
            rintro e w3 ⟨rfl, g3⟩
            go_wp2_with fail
            go_ret2
            exact ⟨ret_ib (by rw [HR.out, HEJ'.out]; congr 1; omega) rfl, grown_trans hS.2.2 g3⟩
          · rw [if_neg n] at HEJ
            have HEJ' := Lib.hid HEJ; clear HEJ
            have hc : (G j ≤ 0) ∨ (0 < G j ∧ 90 ≤ j) := by omega
            clear c
            have hc' : (decide (0 < G j) = false ∧ True) ∨ (decide (0 < G j) = true ∧ decide (D < low + 5898240) = false) := by
              rcases hc with hc | ⟨hc, hc2⟩
              · exact .inl ⟨decide_eq_false (by omega), trivial⟩
              · exact .inr ⟨decide_eq_true hc, decide_eq_false (by omega)⟩
            clear hc
            have n' : decide (G j < 0) = false := decide_eq_false n
            rcases hc' with ⟨hc, _⟩ | ⟨hc, hc2⟩
            all_goals
              go_wp2_with fail
              refine CJ.out.mono ?_
              rintro e w2 ⟨rfl, hS⟩
              go_wp2_with fail
              go_ret2
              exact ⟨ret_ib (by rw [HR.out, HEJ'.out]) rfl, hS.2.2⟩

theorem dir_ok (y x : Int) (hy : -1073741823 ≤ y ∧ y ≤ 1073741823) (hx : -1073741823 ≤ x ∧ x ≤ 1073741823) (h : ¬ (y = 0 ∧ x = 0)) (w : World) :
    Calls Try.prog 52 #[.int .i64 y, .int .i64 x] w fun e w' => e = .returned (.tuple #[.int .i64 (Pl.dir y x), .bool true]) ∧ Grown w w' := by
  refine dir_core y x _ _ hy hx ?_ (Lib.hid rfl) (Lib.hid rfl) w
  by_cases h0 : y = 0
  · exact .inr ⟨beq_iff_eq.2 h0, beq_eq_false_iff_ne.2 (fun h1 => h ⟨h0, h1⟩)⟩
  · exact .inl ⟨beq_eq_false_iff_ne.2 h0, by simp⟩
end Go.Proofs.Ytedidjdifobclaa
