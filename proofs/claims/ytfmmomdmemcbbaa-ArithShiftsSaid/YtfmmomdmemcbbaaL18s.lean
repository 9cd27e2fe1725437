/- ArithShifts: the walk where the shift is in range, and both joined. -/
import Derived.Test.YtfmmomdmemcbbaaL18s0
namespace Go.Proofs.Ytfmmomdmemcbbaa
set_option linter.unusedVariables false
open Go.RowKit

set_option maxHeartbeats 8000000 in
set_option maxRecDepth 100000 in
theorem walk_shift_in (a b : Int) (ha : -2147483648 ≤ a ∧ a ≤ 2147483647) (hb : 0 ≤ b ∧ b ≤ 255) (x k P v : Int) (hx : (-2147483647 ≤ a ∧ x = a) ∨ (a = -2147483648 ∧ x = -2147483647)) (hk : b.tmod 32 = k) (hP : Hid (P = 2 ^ k.toNat)) (hv : x * P = v) (hc : Pl.inInt v) (w : World) :
    Calls Try.prog 5 #[.int .i32 a, .int .u8 b] w fun en w' => en = .returned (.bool true) ∧ Kept w w' := by
  have bk : 0 ≤ k ∧ k ≤ 31 := by rw [Int.tmod_eq_emod_of_nonneg hb.1] at hk; omega
  have bx : Pl.inInt x := by unfold Pl.inInt; omega
  have bP : 1 ≤ P ∧ P ≤ 2147483648 := by rw [hP.out]; exact Pl.pow31 _ (by omega)
  have bv := Pl.mul_in x P bx bP
  rw [hv] at bv
  obtain ⟨m, hm⟩ : ∃ m, x / P = m := ⟨_, rfl⟩
  obtain ⟨bm, m1, m2⟩ := Pl.div_in x P bx bP
  have D2 := shift_down x k P bk hP.out bm
  rw [hm] at bm m1 m2 D2
  have bm1 := Pl.mul_in m P bm bP
  obtain ⟨mP, hmP⟩ : ∃ q, m * P = q := ⟨_, rfl⟩
  obtain ⟨mQ, hmQ⟩ : ∃ q, (m + 1) * P = q := ⟨_, rfl⟩
  have emq : mQ = mP + P := by rw [← hmQ, ← hmP, Int.add_mul, Int.one_mul]
  rw [hmP] at m1 bm1
  rw [hmQ] at m2
  have D1 := shift_up x k P bk hP.out (by rw [hv]; exact hc)
  rw [hv] at D1
  have hvx : v / P = x := by rw [← hv]; exact Int.mul_ediv_cancel _ (by omega)
  have D3 := shift_down v k P bk hP.out (by rw [hvx]; exact bx)
  rw [hvx] at D3
  clear hvx
  have mx := Pl.may_intO (v := x) bx
  have mk := Pl.may_intO (v := k) (by unfold Pl.inInt; omega)
  have mn := Pl.may_intO (v := -k) (by unfold Pl.inInt; omega)
  have R1 := Lib.hid (fun Z b (hA : RowV Z (.slice (some ⟨b, 0, none⟩) 2 2) [Pl.intO x, Pl.intO k]) => run18o Z b [Pl.intO x, Pl.intO k] 2 rfl hA (Pl.may_two mx mk) (by simp) ⟨#[98, 105, 116, 115, 104, 105, 102, 116]⟩ 31 op_bitshift 0 [Pl.intO v] D1)
  have R2 := Lib.hid (fun Z b (hA : RowV Z (.slice (some ⟨b, 0, none⟩) 2 2) [Pl.intO x, Pl.intO (-k)]) => run18 Z b [Pl.intO x, Pl.intO (-k)] 2 rfl hA (Pl.may_two mx mn) (by simp) ⟨#[98, 105, 116, 115, 104, 105, 102, 116]⟩ 31 op_bitshift 0 [Pl.intO m] D2)
  have mv := Pl.may_intO (v := v) hc
  have R3 : Hid (∀ Z u, RowV Z u [Pl.intO v, Pl.intO (-k)] → Calls Try.prog 11 #[u, .string ⟨#[98, 105, 116, 115, 104, 105, 102, 116]⟩] Z fun e w' => ∃ vi, e = .returned (.tuple #[vi, .int .i64 0]) ∧ RowV w' vi [Pl.intO x] ∧ OwnForm vi [Pl.intO x].length ∧ Fr (fun _ => False) Z w') := Lib.hid (fun Z u hA => by
    have := run_any Z u _ hA (Pl.may_two mv mn) (by simp) ⟨#[98, 105, 116, 115, 104, 105, 102, 116]⟩ 31 op_bitshift
    rw [D3] at this
    exact this)
  clear mv D3
  clear D1 D2 mx mk mn hm
  have NX := Lib.hid (fun Z => num18 x Z)
  have NK := Lib.hid (fun Z => num18 k Z)
  have NM := Lib.hid (fun Z => num18 (-k) Z)
  have NV := Lib.hid (fun Z => num18 v Z)
  unfold Pl.intO at NX NK NM NV
  unfold Pl.inInt at bx bm hc
  have K := Lib.hid known18
  have wn : IntKind.i64.wrap (-k) = -k := by unfold IntKind.wrap IntKind.bits IntKind.signed; simp; omega
  have wv : IntKind.i64.wrap v = v := by unfold IntKind.wrap IntKind.bits IntKind.signed; simp; omega
  have wp' : IntKind.i64.wrap mP = mP := by unfold IntKind.wrap IntKind.bits IntKind.signed; simp; omega
  have wq : IntKind.i64.wrap mQ = mQ := by unfold IntKind.wrap IntKind.bits IntKind.signed; simp; omega
  go_enter Try.func5, Try.ntmps5
  go_wp2_with fail
  refine (K.out _).mono ?_
  rintro en w0 ⟨rfl, f0⟩
  have F0 := Lib.hid f0
  clear f0 K
  go_upto_region 3 with fail
  go_cut [5, 6] (fun sa sb wx => sa = .int .i64 x ∧ sb = .int .i64 k ∧ Hid (Fr (fun _ => False) w wx))
  case first =>
    rcases hx with ⟨hx0, rfl⟩ | ⟨rfl, rfl⟩
    all_goals
      go_wp2_with fail
      go_meet
      case rel => exact ⟨by go_num, by go_num, F0⟩
  case rest =>
    obtain ⟨rfl, rfl, F1⟩ := hcut
    clear F0
    rename World => wx
    have F0 := F1
    clear F1 hx
    go_wp2_with fail
    go_loop [7, 9] (fun p i => ∃ (I q : Int), p = .int .i64 q ∧ i = .int .i64 I ∧ 0 ≤ I ∧ I ≤ k ∧ 1 ≤ q ∧ q ≤ 2147483648 ∧ Hid (q = 2 ^ I.toNat)) (fun _ i => (k - intOf i).toNat)
    case atStart => exact ⟨0, 1, rfl, rfl, by omega, by omega, by omega, by omega, Lib.hid rfl⟩
    case round =>
      obtain ⟨I, q, rfl, rfl, hI0, hI, hq1, hq2, hq⟩ := hrel
      by_cases hlt : I < k
      · have hpw := Pl.pow31 (I.toNat + 1) (by omega)
        rw [Int.pow_succ, ← hq.out] at hpw
        go_wp2_with fail
        go_round
        case rel => exact ⟨I + 1, 2 * q, by go_num, by go_num, by omega, by omega, by omega, by omega, Lib.hid (by rw [show (I + 1).toNat = I.toNat + 1 by omega, Int.pow_succ, ← hq.out]; omega)⟩
        case measure => simp [intOf] <;> omega
      · have hIk : k = I := by omega
        have hqP : q = P := by rw [hq.out, hP.out, hIk]
        clear hq
        subst hqP
        subst hIk
        go_wp2_with fail
        refine (NX.out _).mono ?_
        rintro en u1 ⟨rfl, h1⟩
        go_wp2_with fail
        refine (NK.out _).mono ?_
        rintro en u2 ⟨rfl, h2⟩
        have RV0 := Lib.hid (row_new u2 [Pl.intO x, Pl.intO k] #[.int .i64 3, .bool false, .int .i64 x, .int .i64 0, .int .i64 0, .string ⟨#[]⟩, .int .i64 3, .bool false, .int .i64 k, .int .i64 0, .int .i64 0, .string ⟨#[]⟩] rfl 2 rfl)
        have F2 := Lib.hid (((F0.out.trans (Fr.of_grown _ h1)).trans (Fr.of_grown _ h2)).trans (Fr.alloc (fun _ => False) u2 (.cells #[.int .i64 3, .bool false, .int .i64 x, .int .i64 0, .int .i64 0, .string ⟨#[]⟩, .int .i64 3, .bool false, .int .i64 k, .int .i64 0, .int .i64 0, .string ⟨#[]⟩] 24)))
        clear h1 h2 F0 NK
        obtain ⟨B, hB⟩ : ∃ B, B = u2.heap.size := ⟨_, rfl⟩
        go_wp2_with fail
        rw [← hB] at RV0 ⊢
        clear hB
        generalize hZ0 : u2.alloc (.cells #[.int .i64 3, .bool false, .int .i64 x, .int .i64 0, .int .i64 0, .string ⟨#[]⟩, .int .i64 3, .bool false, .int .i64 k, .int .i64 0, .int .i64 0, .string ⟨#[]⟩] 24) = Z0 at *
        clear hZ0
        refine (R1.out _ _ RV0.out).mono ?_
        rintro en w1 ⟨z1, rfl, ro, oo, ow, fo⟩
        obtain ⟨g1, cp1, rfl, hcp1, hg1, Ca⟩ := row_get1 ro oo
        have CA := Lib.hid Ca
        have OW := Lib.hid ow
        have F3 := Lib.hid (F2.out.trans fo)
        have HB0 := Lib.hid (show w.heap.size ≤ Z0.heap.size from F2.out.2.2.1)
        have HB1 := Lib.hid (show Z0.heap.size ≤ w1.heap.size from fo.2.2.1)
        clear Ca ro oo ow fo F2 RV0 R1
        go_wp2_with fail
        refine (NX.out _).mono ?_
        rintro en u3 ⟨rfl, h3⟩
        go_wp2_with fail
        refine (NM.out _).mono ?_
        rintro en u4 ⟨rfl, h4⟩
        have RV1 := Lib.hid (row_new u4 [Pl.intO x, Pl.intO (-k)] #[.int .i64 3, .bool false, .int .i64 x, .int .i64 0, .int .i64 0, .string ⟨#[]⟩, .int .i64 3, .bool false, .int .i64 (-k), .int .i64 0, .int .i64 0, .string ⟨#[]⟩] rfl 2 rfl)
        have F4 := Lib.hid (((Fr.of_grown (fun _ => False) h3).trans (Fr.of_grown _ h4)).trans (Fr.alloc (fun _ => False) u4 (.cells #[.int .i64 3, .bool false, .int .i64 x, .int .i64 0, .int .i64 0, .string ⟨#[]⟩, .int .i64 3, .bool false, .int .i64 (-k), .int .i64 0, .int .i64 0, .string ⟨#[]⟩] 24)))
        clear h3 h4
        go_wp2_with fail
        refine (R2.out _ _ RV1.out).mono ?_
        rintro en w2 ⟨z2, rfl, ro, oo, fo⟩
        obtain ⟨g2, cp2, rfl, hcp2, hg2, ⟨d0, d1, d2, d3, d4, d5⟩⟩ := row_get1 ro oo
        have FF := Lib.hid (F4.out.trans fo)
        clear ro oo fo F4 RV1 R2
        obtain ⟨hc1, hc2⟩ := hc
        go_wp2_with fail
        clear d0 d1 d2 d3 d4 d5
        refine (NM.out _).mono ?_
        rintro en u5 ⟨rfl, h5⟩
        obtain ⟨i0, hi, hz0, hz1, hz2⟩ := info_parts Try.objInfo
        have HII := Lib.hid hi
        have FA := Lib.hid ((FF.out.trans (Fr.of_grown _ h5)).trans (Fr.alloc (fun _ => False) u5 (.cells #[.int .i64 3, .bool false, .int .i64 (-k), .int .i64 0, .int .i64 0, .string ⟨#[]⟩] 24)))
        have OW5 := Lib.hid (own_fr OW.out FA.out (fun _ _ f => f))
        have HBS := Lib.hid (Nat.le_trans HB1.out FA.out.2.2.1)
        have HCC : Hid (∀ ad, some (⟨u5.heap.size, 0, none⟩ : Addr) = some ad → ∀ j u, (Pl.flat [Pl.intO (-k)])[j]? = some u → (u5.alloc (.cells #[.int .i64 3, .bool false, .int .i64 (-k), .int .i64 0, .int .i64 0, .string ⟨#[]⟩] 24)).cell? (ad.add j) = some u) := Lib.hid (fun ad q j u hu => by
          injection q with q
          subst q
          exact alloc_cell _ _ _ j u hu)
        clear hi h5 OW FF
        go_wp2_with (at_builtin; refine wpList_append_keep _ Z0.heap.size 26 24 i0 _ 6 56 Try.underlying26 HII.out hz0 hz1 hz2 rfl (by decide) (.slice (some ⟨g1, 0, none⟩) 1 cp1) 1 (Pl.flat [Pl.intO v]) OW5.out (some ⟨u5.heap.size, 0, none⟩) 1 1 (Pl.flat [Pl.intO (-k)]) (by intro q; cases q) rfl HCC.out (Pl.flat_one _) (by decide) (by decide) HBS.out (hgd := rfl) (.tmp 103) (.tmp 107) rfl (by simp [Act.eval]) (by simp [Act.eval]) ?_)
        intro v' w6 r2 g6 hb6 hk6
        have FG := Lib.hid (Fr.grown (fun k => (Value.slice (some ⟨g1, 0, none⟩) 1 cp1).ownBlock = some k) g6 (fun k hk => hk))
        have F6 := Lib.hid (show Fr (fun _ => False) w w6 from (F3.out.trans FA.out).trans' FG.out (fun k hk => .inr (Nat.le_trans HB0.out (own_base OW5.out k hk))))
        have RV6 := Lib.hid (show RowV w6 v' [Pl.intO v, Pl.intO (-k)] from own_row (base := Z0.heap.size) r2)
        have CB := Lib.hid (show w6.cell? ⟨g1, 0, none⟩ = some (.int .i64 3) ∧ w6.cell? ⟨g1, 1, none⟩ = some (.bool false) ∧ w6.cell? ⟨g1, 2, none⟩ = some (.int .i64 v) ∧ w6.cell? ⟨g1, 3, none⟩ = some (.int .i64 0) ∧ w6.cell? ⟨g1, 4, none⟩ = some (.int .i64 0) ∧ w6.cell? ⟨g1, 5, none⟩ = some (.string ⟨#[]⟩) from ⟨hk6 g1 0 _ rfl rfl, hk6 g1 1 _ rfl rfl, hk6 g1 2 _ rfl rfl, hk6 g1 3 _ rfl rfl, hk6 g1 4 _ rfl rfl, hk6 g1 5 _ rfl rfl⟩)
        obtain ⟨ao6, cp6, rfl, hr6⟩ := RV6.out
        clear r2 g6 hb6 hk6 hr6 FG FA OW5 HBS HCC HB0 HB1 F3 CA
        go_wp2_with fail
        refine (R3.out _ _ RV6.out).mono ?_
        rintro en w7 ⟨z3, rfl, ro, oo, fo⟩
        obtain ⟨g3, cp3, rfl, hcp3, hg3, Cc⟩ := row_get1 ro oo
        have CC := Lib.hid Cc
        have F7 := Lib.hid fo
        clear Cc ro oo fo RV6 R3
        obtain ⟨C, hC⟩ : ∃ C : World → Prop, C = Cells w [((⟨g1, 0, none⟩ : Addr), (.int .i64 3 : Value)), ((⟨g1, 1, none⟩ : Addr), (.bool false : Value)), ((⟨g1, 2, none⟩ : Addr), (.int .i64 v : Value)), ((⟨g1, 3, none⟩ : Addr), (.int .i64 0 : Value)), ((⟨g1, 4, none⟩ : Addr), (.int .i64 0 : Value)), ((⟨g1, 5, none⟩ : Addr), (.string ⟨#[]⟩ : Value)), ((⟨g3, 0, none⟩ : Addr), (.int .i64 3 : Value)), ((⟨g3, 1, none⟩ : Addr), (.bool false : Value)), ((⟨g3, 2, none⟩ : Addr), (.int .i64 x : Value)), ((⟨g3, 3, none⟩ : Addr), (.int .i64 0 : Value)), ((⟨g3, 4, none⟩ : Addr), (.int .i64 0 : Value)), ((⟨g3, 5, none⟩ : Addr), (.string ⟨#[]⟩ : Value))] := ⟨_, rfl⟩
        have HC0 : Hid (C w7) := Lib.hid (by rw [hC]; exact ⟨(cell_fr0 CB.out.1 F7.out), (cell_fr0 CB.out.2.1 F7.out), (cell_fr0 CB.out.2.2.1 F7.out), (cell_fr0 CB.out.2.2.2.1 F7.out), (cell_fr0 CB.out.2.2.2.2.1 F7.out), (cell_fr0 CB.out.2.2.2.2.2 F7.out), CC.out.1, CC.out.2.1, CC.out.2.2.1, CC.out.2.2.2.1, CC.out.2.2.2.2.1, CC.out.2.2.2.2.2, (F6.out.trans F7.out)⟩)
        have T0 : ∀ Z, C Z → Z.cell? ⟨g1, 0, none⟩ = some (.int .i64 3) := fun Z h => by rw [hC] at h; exact h.1
        have T1 : ∀ Z, C Z → Z.cell? ⟨g1, 1, none⟩ = some (.bool false) := fun Z h => by rw [hC] at h; exact h.2.1
        have T2 : ∀ Z, C Z → Z.cell? ⟨g1, 2, none⟩ = some (.int .i64 v) := fun Z h => by rw [hC] at h; exact h.2.2.1
        have T3 : ∀ Z, C Z → Z.cell? ⟨g1, 3, none⟩ = some (.int .i64 0) := fun Z h => by rw [hC] at h; exact h.2.2.2.1
        have T4 : ∀ Z, C Z → Z.cell? ⟨g1, 4, none⟩ = some (.int .i64 0) := fun Z h => by rw [hC] at h; exact h.2.2.2.2.1
        have T5 : ∀ Z, C Z → Z.cell? ⟨g1, 5, none⟩ = some (.string ⟨#[]⟩) := fun Z h => by rw [hC] at h; exact h.2.2.2.2.2.1
        have T6 : ∀ Z, C Z → Z.cell? ⟨g3, 0, none⟩ = some (.int .i64 3) := fun Z h => by rw [hC] at h; exact h.2.2.2.2.2.2.1
        have T7 : ∀ Z, C Z → Z.cell? ⟨g3, 1, none⟩ = some (.bool false) := fun Z h => by rw [hC] at h; exact h.2.2.2.2.2.2.2.1
        have T8 : ∀ Z, C Z → Z.cell? ⟨g3, 2, none⟩ = some (.int .i64 x) := fun Z h => by rw [hC] at h; exact h.2.2.2.2.2.2.2.2.1
        have T9 : ∀ Z, C Z → Z.cell? ⟨g3, 3, none⟩ = some (.int .i64 0) := fun Z h => by rw [hC] at h; exact h.2.2.2.2.2.2.2.2.2.1
        have T10 : ∀ Z, C Z → Z.cell? ⟨g3, 4, none⟩ = some (.int .i64 0) := fun Z h => by rw [hC] at h; exact h.2.2.2.2.2.2.2.2.2.2.1
        have T11 : ∀ Z, C Z → Z.cell? ⟨g3, 5, none⟩ = some (.string ⟨#[]⟩) := fun Z h => by rw [hC] at h; exact h.2.2.2.2.2.2.2.2.2.2.2.1
        have CF : Hid (∀ Z Z', C Z → Fr (fun _ => False) Z Z' → C Z') := Lib.hid (fun Z Z' h k => by rw [hC] at h ⊢; exact h.fr k)
        have TF : Hid (∀ Z, C Z → Fr (fun _ => False) w Z) := Lib.hid (fun Z h => by rw [hC] at h; exact h.frame)
        clear hC
        have LV := Lib.hid (fun Z (h : C Z) => (NV.out Z).mono fun en w' hh => (⟨hh.1, CF.out _ _ h (Fr.of_grown _ hh.2)⟩ : _ ∧ C w'))
        have LX := Lib.hid (fun Z (h : C Z) => (NX.out Z).mono fun en w' hh => (⟨hh.1, CF.out _ _ h (Fr.of_grown _ hh.2)⟩ : _ ∧ C w'))
        clear CB CC F6 F7 NV NX NM
        go_wp2_with fail
        refine wp_region_class (C := C) (by kernel_rfl) (by kernel_rfl) (CF.out _ _ HC0.out ((Fr.refl _ _).drew)) ?_
        repeat
          first
            | (refine quiet_no (by rfl) ?_
               try simp only [Act.put, List.setIfInBounds_toArray, List.set_cons_zero, List.set_cons_succ])
            | (refine quiet_yes ?_ (by rfl) (fun Z hZ => ?_) ?_
               rotate_left
               · unfold qAt Oper.quietAt
                 first
                   | (go_simp
                      (all_goals first | with_reducible rfl | (with_reducible exact LV.out Z hZ) | (with_reducible exact LX.out Z hZ))
                      done)
                   | (have t0 := T0 Z hZ; have t1 := T1 Z hZ; have t2 := T2 Z hZ; have t3 := T3 Z hZ; have t4 := T4 Z hZ; have t5 := T5 Z hZ; have t6 := T6 Z hZ; have t7 := T7 Z hZ; have t8 := T8 Z hZ; have t9 := T9 Z hZ; have t10 := T10 Z hZ; have t11 := T11 Z hZ
                      go_simp
                      (all_goals with_reducible rfl)
                      done)
               try simp only [Act.put, List.setIfInBounds_toArray, List.set_cons_zero, List.set_cons_succ])
        refine quiet_nil ?_
        intro Z9 hZ9
        go_wp2_with fail
        go_ret
        exact ⟨rfl, Kept.of_fr (TF.out _ hZ9)⟩
theorem law_ArithShifts (a b : Int) (w0 : (Lit.int .i32 a).wf = true) (w1 : (Lit.int .u8 b).wf = true) (w : World) :
    Calls Try.prog 5 #[.int .i32 a, .int .u8 b] w fun en w' => en = .returned (.bool true) ∧ Kept w w' := by
  have ha : -2147483648 ≤ a ∧ a ≤ 2147483647 := by simp [Lit.wf, IntKind.min, IntKind.max, IntKind.signed, IntKind.bits] at w0; omega
  have hb : 0 ≤ b ∧ b ≤ 255 := by simp [Lit.wf, IntKind.min, IntKind.max, IntKind.signed, IntKind.bits] at w1; omega
  obtain ⟨x, hx⟩ : ∃ x, (-2147483647 ≤ a ∧ x = a) ∨ (a = -2147483648 ∧ x = -2147483647) := by
    by_cases k : -2147483647 ≤ a
    · exact ⟨a, .inl ⟨k, rfl⟩⟩
    · exact ⟨_, .inr ⟨by omega, rfl⟩⟩
  by_cases h : Pl.inInt (x * 2 ^ (b.tmod 32).toNat)
  · exact walk_shift_in a b ha hb x (b.tmod 32) (2 ^ (b.tmod 32).toNat) (x * 2 ^ (b.tmod 32).toNat) hx rfl (Lib.hid rfl) rfl h w
  · exact walk_shift_over a b ha hb x (b.tmod 32) (2 ^ (b.tmod 32).toNat) (x * 2 ^ (b.tmod 32).toNat) hx rfl (Lib.hid rfl) rfl h w
end Go.Proofs.Ytfmmomdmemcbbaa
