/- ArithWhole: the walk where the divisor is not 0, and both joined. -/
import Derived.Test.YtfmmomdmemcbbaaL18w0
namespace Go.Proofs.Ytfmmomdmemcbbaa
set_option linter.unusedVariables false
open Go.RowKit

set_option maxHeartbeats 8000000 in
set_option maxRecDepth 100000 in
theorem walk_whole_n (a b : Int) (ha : -2147483648 ≤ a ∧ a ≤ 2147483647) (hb : -2147483648 ≤ b ∧ b ≤ 2147483647) (x y va vs vm : Int) (hx : (-2147483647 ≤ a ∧ x = a) ∨ (a = -2147483648 ∧ x = -2147483647)) (hy : (-2147483647 ≤ b ∧ y = b) ∨ (b = -2147483648 ∧ y = -2147483647)) (hva : x + y = va) (hvs : x - y = vs) (hvm : x * y = vm) (hyz : y ≠ 0) (w : World) :
    Calls Try.prog 3 #[.int .i32 a, .int .i32 b] w fun en w' => en = .returned (.bool true) ∧ Kept w w' := by
  have bx : Pl.inInt x := by unfold Pl.inInt; omega
  have by' : Pl.inInt y := by unfold Pl.inInt; omega
  have bm : -4611686018427387904 ≤ vm ∧ vm ≤ 4611686018427387904 := by
    rw [← hvm]
    unfold Pl.inInt at bx by'
    have h1 := Int.natAbs_mul x y
    have h2 : x.natAbs * y.natAbs ≤ 2147483647 * 2147483647 := Nat.mul_le_mul (by omega) (by omega)
    omega
  have Da := whole_do x y 11 va (.inl ⟨rfl, hva.symm⟩)
  have Ds := whole_do x y 12 vs (.inr (.inl ⟨rfl, hvs.symm⟩))
  have Dm := whole_do x y 13 vm (.inr (.inr ⟨rfl, hvm.symm⟩))
  have mm : ∀ o ∈ [Pl.intO x, Pl.intO y], Pl.mayO o := Pl.may_two (Pl.may_intO bx) (Pl.may_intO by')
  obtain ⟨bq, br, hqr, hr1, hr2, hr3, hr4⟩ := whole_share x y bx hyz
  have Dq := whole_div x y 15 (.inl rfl)
  have Dr := whole_div x y 16 (.inr rfl)
  rw [if_neg hyz, if_pos rfl, whole_in _ _ _ bq] at Dq
  rw [if_neg hyz, if_neg (by decide), whole_in _ _ _ br] at Dr
  generalize x.tdiv y = q at Dq bq hqr
  generalize x.tmod y = r at Dr br hqr hr1 hr2 hr3 hr4
  obtain ⟨qy, hqy⟩ : ∃ z, q * y = z := ⟨_, rfl⟩
  rw [hqy] at hqr
  have RQ := Lib.hid (fun Z b (hA : RowV Z (.slice (some ⟨b, 0, none⟩) 2 2) [Pl.intO x, Pl.intO y]) => run18 Z b [Pl.intO x, Pl.intO y] 2 rfl hA mm (by simp) ⟨#[105, 100, 105, 118]⟩ 15 op_idiv 0 [Pl.intO q] Dq)
  have RR := Lib.hid (fun Z b (hA : RowV Z (.slice (some ⟨b, 0, none⟩) 2 2) [Pl.intO x, Pl.intO y]) => run18 Z b [Pl.intO x, Pl.intO y] 2 rfl hA mm (by simp) ⟨#[109, 111, 100]⟩ 16 op_mod 0 [Pl.intO r] Dr)
  have I_add : Hid (Pl.inInt va → ∀ Z b, RowV Z (.slice (some ⟨b, 0, none⟩) 2 2) [Pl.intO x, Pl.intO y] → Calls Try.prog 11 #[.slice (some ⟨b, 0, none⟩) 2 2, .string ⟨#[97, 100, 100]⟩] Z fun e w' => ∃ vi, e = .returned (.tuple #[vi, .int .i64 0]) ∧ RowV w' vi [Pl.intO va] ∧ OwnForm vi [Pl.intO va].length ∧ Fr (fun _ => False) Z w') := Lib.hid (fun h Z b hA => run18 Z b [Pl.intO x, Pl.intO y] 2 rfl hA mm (by simp) ⟨#[97, 100, 100]⟩ 11 op_add 0 [Pl.intO va] (by rw [Da, whole_in _ _ _ h]))
  have O_add : Hid (¬ Pl.inInt va → ∀ Z b, RowV Z (.slice (some ⟨b, 0, none⟩) 2 2) [Pl.intO x, Pl.intO y] → Calls Try.prog 11 #[.slice (some ⟨b, 0, none⟩) 2 2, .string ⟨#[97, 100, 100]⟩] Z fun e w' => ∃ vi, e = .returned (.tuple #[vi, .int .i64 2]) ∧ RowV w' vi [Pl.intO x, Pl.intO y] ∧ OwnForm vi [Pl.intO x, Pl.intO y].length ∧ Fr (fun _ => False) Z w') := Lib.hid (fun h Z b hA => run18 Z b [Pl.intO x, Pl.intO y] 2 rfl hA mm (by simp) ⟨#[97, 100, 100]⟩ 11 op_add 2 [Pl.intO x, Pl.intO y] (by rw [Da, whole_out _ _ h]))
  have I_sub : Hid (Pl.inInt vs → ∀ Z b, RowV Z (.slice (some ⟨b, 0, none⟩) 2 2) [Pl.intO x, Pl.intO y] → Calls Try.prog 11 #[.slice (some ⟨b, 0, none⟩) 2 2, .string ⟨#[115, 117, 98]⟩] Z fun e w' => ∃ vi, e = .returned (.tuple #[vi, .int .i64 0]) ∧ RowV w' vi [Pl.intO vs] ∧ OwnForm vi [Pl.intO vs].length ∧ Fr (fun _ => False) Z w') := Lib.hid (fun h Z b hA => run18 Z b [Pl.intO x, Pl.intO y] 2 rfl hA mm (by simp) ⟨#[115, 117, 98]⟩ 12 op_sub 0 [Pl.intO vs] (by rw [Ds, whole_in _ _ _ h]))
  have O_sub : Hid (¬ Pl.inInt vs → ∀ Z b, RowV Z (.slice (some ⟨b, 0, none⟩) 2 2) [Pl.intO x, Pl.intO y] → Calls Try.prog 11 #[.slice (some ⟨b, 0, none⟩) 2 2, .string ⟨#[115, 117, 98]⟩] Z fun e w' => ∃ vi, e = .returned (.tuple #[vi, .int .i64 2]) ∧ RowV w' vi [Pl.intO x, Pl.intO y] ∧ OwnForm vi [Pl.intO x, Pl.intO y].length ∧ Fr (fun _ => False) Z w') := Lib.hid (fun h Z b hA => run18 Z b [Pl.intO x, Pl.intO y] 2 rfl hA mm (by simp) ⟨#[115, 117, 98]⟩ 12 op_sub 2 [Pl.intO x, Pl.intO y] (by rw [Ds, whole_out _ _ h]))
  have I_mul : Hid (Pl.inInt vm → ∀ Z b, RowV Z (.slice (some ⟨b, 0, none⟩) 2 2) [Pl.intO x, Pl.intO y] → Calls Try.prog 11 #[.slice (some ⟨b, 0, none⟩) 2 2, .string ⟨#[109, 117, 108]⟩] Z fun e w' => ∃ vi, e = .returned (.tuple #[vi, .int .i64 0]) ∧ RowV w' vi [Pl.intO vm] ∧ OwnForm vi [Pl.intO vm].length ∧ Fr (fun _ => False) Z w') := Lib.hid (fun h Z b hA => run18 Z b [Pl.intO x, Pl.intO y] 2 rfl hA mm (by simp) ⟨#[109, 117, 108]⟩ 13 op_mul 0 [Pl.intO vm] (by rw [Dm, whole_in _ _ _ h]))
  have O_mul : Hid (¬ Pl.inInt vm → ∀ Z b, RowV Z (.slice (some ⟨b, 0, none⟩) 2 2) [Pl.intO x, Pl.intO y] → Calls Try.prog 11 #[.slice (some ⟨b, 0, none⟩) 2 2, .string ⟨#[109, 117, 108]⟩] Z fun e w' => ∃ vi, e = .returned (.tuple #[vi, .int .i64 2]) ∧ RowV w' vi [Pl.intO x, Pl.intO y] ∧ OwnForm vi [Pl.intO x, Pl.intO y].length ∧ Fr (fun _ => False) Z w') := Lib.hid (fun h Z b hA => run18 Z b [Pl.intO x, Pl.intO y] 2 rfl hA mm (by simp) ⟨#[109, 117, 108]⟩ 13 op_mul 2 [Pl.intO x, Pl.intO y] (by rw [Dm, whole_out _ _ h]))
  clear Da Ds Dm Dq Dr mm
  have SM : Hid (∀ Z v1 v2, RowV Z v1 [Pl.intO x, Pl.intO y] → RowV Z v2 [Pl.intO x, Pl.intO y] → Calls Try.prog 12 #[v1, v2] Z fun e w' => e = .returned (.bool true) ∧ Grown Z w') := Lib.hid (fun Z v1 v2 h1 h2 => same_yes v1 v2 _ (by simp) Z h1 h2)
  have NX := Lib.hid (fun Z => num18 x Z)
  have NY := Lib.hid (fun Z => num18 y Z)
  have Nadd := Lib.hid (fun Z => num18 va Z)
  have Nsub := Lib.hid (fun Z => num18 vs Z)
  have Nmul := Lib.hid (fun Z => num18 vm Z)
  unfold Pl.intO at NX NY Nadd Nsub Nmul
  have K := Lib.hid known18
  have bx0 : -2147483647 ≤ x ∧ x ≤ 2147483647 := bx
  have by0 : -2147483647 ≤ y ∧ y ≤ 2147483647 := by'
  clear bx by'
  have wa : IntKind.i64.wrap va = va := by unfold IntKind.wrap IntKind.bits IntKind.signed; simp; omega
  have ws : IntKind.i64.wrap vs = vs := by unfold IntKind.wrap IntKind.bits IntKind.signed; simp; omega
  have wm : IntKind.i64.wrap vm = vm := by unfold IntKind.wrap IntKind.bits IntKind.signed; simp; omega
  go_enter Try.func3, Try.ntmps3
  go_wp2_with fail
  refine (K.out _).mono ?_
  rintro en w0 ⟨rfl, f0⟩
  have F0 := Lib.hid f0
  clear f0 K
  go_upto_region 3 with fail
  go_cut [5, 6] (fun sa sb wx => sa = .int .i64 x ∧ sb = .int .i64 y ∧ Hid (Fr (fun _ => False) w wx))
  case first =>
    rcases hx with ⟨hx0, rfl⟩ | ⟨rfl, rfl⟩ <;> rcases hy with ⟨hy0, rfl⟩ | ⟨rfl, rfl⟩
    all_goals
      go_wp2_with fail
      go_meet
      case rel => exact ⟨by go_num, by go_num, F0⟩
  case rest =>
    obtain ⟨rfl, rfl, F1⟩ := hcut
    clear F0
    go_wp2_with fail
    refine (NX.out _).mono ?_
    rintro en u1 ⟨rfl, h1⟩
    go_wp2_with fail
    refine (NY.out _).mono ?_
    rintro en u2 ⟨rfl, h2⟩
    have RV0 := Lib.hid (row_new u2 [Pl.intO x, Pl.intO y] #[.int .i64 3, .bool false, .int .i64 x, .int .i64 0, .int .i64 0, .string ⟨#[]⟩, .int .i64 3, .bool false, .int .i64 y, .int .i64 0, .int .i64 0, .string ⟨#[]⟩] rfl 2 rfl)
    have F2 := Lib.hid (((F1.out.trans (Fr.of_grown _ h1)).trans (Fr.of_grown _ h2)).trans (Fr.alloc (fun _ => False) u2 (.cells #[.int .i64 3, .bool false, .int .i64 x, .int .i64 0, .int .i64 0, .string ⟨#[]⟩, .int .i64 3, .bool false, .int .i64 y, .int .i64 0, .int .i64 0, .string ⟨#[]⟩] 24)))
    clear h1 h2 F1 NX NY
    clear hx hy
    obtain ⟨B, hB⟩ : ∃ B, B = u2.heap.size := ⟨_, rfl⟩
    go_wp2_with fail
    rw [← hB] at RV0 ⊢
    clear hB
    generalize hZ0 : u2.alloc (.cells #[.int .i64 3, .bool false, .int .i64 x, .int .i64 0, .int .i64 0, .string ⟨#[]⟩, .int .i64 3, .bool false, .int .i64 y, .int .i64 0, .int .i64 0, .string ⟨#[]⟩] 24) = Z0 at *
    clear hZ0
    have i0 : ∀ W, (Instr.index 27 (.agg #[.string ⟨#[97, 100, 100]⟩, .string ⟨#[115, 117, 98]⟩, .string ⟨#[109, 117, 108]⟩]) (.int .i64 0)).run Try.prog W = .ok (.string ⟨#[97, 100, 100]⟩) W := fun W => rfl
    have i1 : ∀ W, (Instr.index 27 (.agg #[.string ⟨#[97, 100, 100]⟩, .string ⟨#[115, 117, 98]⟩, .string ⟨#[109, 117, 108]⟩]) (.int .i64 1)).run Try.prog W = .ok (.string ⟨#[115, 117, 98]⟩) W := fun W => rfl
    have i2 : ∀ W, (Instr.index 27 (.agg #[.string ⟨#[97, 100, 100]⟩, .string ⟨#[115, 117, 98]⟩, .string ⟨#[109, 117, 108]⟩]) (.int .i64 2)).run Try.prog W = .ok (.string ⟨#[109, 117, 108]⟩) W := fun W => rfl
    go_loopw [32] (fun s wz => (s = .int .i64 0 ∨ s = .int .i64 1 ∨ s = .int .i64 2 ∨ s = .int .i64 3) ∧ Hid (Fr (fun _ => False) w wz ∧ RowV wz (.slice (some ⟨B, 0, none⟩) 2 2) [Pl.intO x, Pl.intO y])) (fun s _ => (3 - intOf s).toNat)
    case atStart => exact ⟨.inl rfl, Lib.hid ⟨F2.out, RV0.out⟩⟩
    case round =>
      obtain ⟨hj, HR⟩ := hrel
      clear F2 RV0
      rcases hj with rfl | rfl | rfl | rfl
      · by_cases hin : Pl.inInt va
        · have C1 := Lib.hid (I_add.out hin)
          have hb2 : -2147483647 ≤ va ∧ va ≤ 2147483647 := hin
          obtain ⟨hb3, hb4⟩ := hb2
          clear hin
          go_wp2_with fail
          refine (C1.out _ _ HR.out.2).mono ?_
          rintro en w2 ⟨vi, rfl, ro, oo, fo⟩
          obtain ⟨g, cp, rfl, hcp, hg, Cc⟩ := row_get1 ro oo
          have FIN := Lib.hid (show Fr (fun _ => False) w w2 ∧ RowV w2 (.slice (some ⟨B, 0, none⟩) 2 2) [Pl.intO x, Pl.intO y] from ⟨HR.out.1.trans fo, HR.out.2.fr0 fo⟩)
          obtain ⟨C, hC⟩ : ∃ C : World → Prop, C = Cells w2 [((⟨g, 0, none⟩ : Addr), (.int .i64 3 : Value)), ((⟨g, 1, none⟩ : Addr), (.bool false : Value)), ((⟨g, 2, none⟩ : Addr), (.int .i64 va : Value)), ((⟨g, 3, none⟩ : Addr), (.int .i64 0 : Value)), ((⟨g, 4, none⟩ : Addr), (.int .i64 0 : Value)), ((⟨g, 5, none⟩ : Addr), (.string ⟨#[]⟩ : Value))] := ⟨_, rfl⟩
          have HC0 : Hid (C w2) := Lib.hid (by rw [hC]; exact ⟨Cc.1, Cc.2.1, Cc.2.2.1, Cc.2.2.2.1, Cc.2.2.2.2.1, Cc.2.2.2.2.2, Fr.refl _ _⟩)
          have T0 : ∀ Z, C Z → Z.cell? ⟨g, 0, none⟩ = some (.int .i64 3) := fun Z h => by rw [hC] at h; exact h.1
          have T1 : ∀ Z, C Z → Z.cell? ⟨g, 1, none⟩ = some (.bool false) := fun Z h => by rw [hC] at h; exact h.2.1
          have T2 : ∀ Z, C Z → Z.cell? ⟨g, 2, none⟩ = some (.int .i64 va) := fun Z h => by rw [hC] at h; exact h.2.2.1
          have T3 : ∀ Z, C Z → Z.cell? ⟨g, 3, none⟩ = some (.int .i64 0) := fun Z h => by rw [hC] at h; exact h.2.2.2.1
          have T4 : ∀ Z, C Z → Z.cell? ⟨g, 4, none⟩ = some (.int .i64 0) := fun Z h => by rw [hC] at h; exact h.2.2.2.2.1
          have T5 : ∀ Z, C Z → Z.cell? ⟨g, 5, none⟩ = some (.string ⟨#[]⟩) := fun Z h => by rw [hC] at h; exact h.2.2.2.2.2.1
          have CF : Hid (∀ Z Z', C Z → Fr (fun _ => False) Z Z' → C Z') := Lib.hid (fun Z Z' h k => by rw [hC] at h ⊢; exact h.fr k)
          have TF : Hid (∀ Z, C Z → Fr (fun _ => False) w2 Z) := Lib.hid (fun Z h => by rw [hC] at h; exact h.frame)
          clear hC
          have LV := Lib.hid (fun Z (h : C Z) => (Nadd.out Z).mono fun en w' hh => (⟨hh.1, CF.out _ _ h (Fr.of_grown _ hh.2)⟩ : _ ∧ C w'))
          clear Cc ro oo fo C1
          go_wp2_with fail
          refine wp_region_class (C := C) (by kernel_rfl) (by kernel_rfl) (CF.out _ _ HC0.out ((Fr.refl _ _).drew)) ?_
          repeat
            first
              | (refine quiet_no (by rfl) ?_
                 try simp only [Act.put, List.setIfInBounds_toArray, List.set_cons_zero, List.set_cons_succ])
              | (refine quiet_yes ?_ (by rfl) (fun Z hZ => ?_) ?_
                 rotate_left
                 · unfold qAt Oper.quietAt
                   first
                     | (go_simp
                        (all_goals first | with_reducible rfl | (with_reducible exact LV.out Z hZ))
                        done)
                     | (have t0 := T0 Z hZ; have t1 := T1 Z hZ; have t2 := T2 Z hZ; have t3 := T3 Z hZ; have t4 := T4 Z hZ; have t5 := T5 Z hZ
                        go_simp
                        (all_goals with_reducible rfl)
                        done)
                 try simp only [Act.put, List.setIfInBounds_toArray, List.set_cons_zero, List.set_cons_succ])
          refine quiet_nil ?_
          intro Z9 hZ9
          have FIN := Lib.hid (show Fr (fun _ => False) w Z9 ∧ RowV Z9 (.slice (some ⟨B, 0, none⟩) 2 2) [Pl.intO x, Pl.intO y] from ⟨FIN.out.1.trans (TF.out _ hZ9), FIN.out.2.fr0 (TF.out _ hZ9)⟩)
          go_wp2_with fail
          refine ⟨?_, by simp [intOf]⟩
          repeat (apply Exists.intro (α := Value))
          first
            | exact ⟨.inr (.inl rfl), FIN⟩
            | (refine ⟨⟨.inr (.inl rfl), FIN⟩, ?_⟩
               repeat (first | exact rfl | refine ⟨rfl, ?_⟩))
        · have C1 := Lib.hid (O_add.out hin)
          have hb2 : va < -2147483647 ∨ (-2147483647 ≤ va ∧ 2147483647 < va) := by unfold Pl.inInt at hin; omega
          clear hin
          rcases hb2 with hb3 | ⟨hb3, hb4⟩
          all_goals
            go_wp2_with fail
            refine (C1.out _ _ HR.out.2).mono ?_
            rintro en w2 ⟨vi, rfl, ro, oo, fo⟩
            have RO := Lib.hid ro
            have FI0 := Lib.hid (show Fr (fun _ => False) w w2 ∧ RowV w2 (.slice (some ⟨B, 0, none⟩) 2 2) [Pl.intO x, Pl.intO y] from ⟨HR.out.1.trans fo, HR.out.2.fr0 fo⟩)
            clear ro oo fo C1
            go_wp2_with fail
            refine (SM.out _ _ _ RO.out FI0.out.2).mono ?_
            rintro en w3 ⟨rfl, g3⟩
            have FIN := Lib.hid (show Fr (fun _ => False) w w3 ∧ RowV w3 (.slice (some ⟨B, 0, none⟩) 2 2) [Pl.intO x, Pl.intO y] from ⟨FI0.out.1.trans (Fr.of_grown _ g3), FI0.out.2.fr0 (Fr.of_grown _ g3)⟩)
            clear g3 RO FI0
            go_wp2_with fail
            refine ⟨?_, by simp [intOf]⟩
            repeat (apply Exists.intro (α := Value))
            first
              | exact ⟨.inr (.inl rfl), FIN⟩
              | (refine ⟨⟨.inr (.inl rfl), FIN⟩, ?_⟩
                 repeat (first | exact rfl | refine ⟨rfl, ?_⟩))
      · by_cases hin : Pl.inInt vs
        · have C1 := Lib.hid (I_sub.out hin)
          have hb2 : -2147483647 ≤ vs ∧ vs ≤ 2147483647 := hin
          obtain ⟨hb3, hb4⟩ := hb2
          clear hin
          go_wp2_with fail
          refine (C1.out _ _ HR.out.2).mono ?_
          rintro en w2 ⟨vi, rfl, ro, oo, fo⟩
          obtain ⟨g, cp, rfl, hcp, hg, Cc⟩ := row_get1 ro oo
          have FIN := Lib.hid (show Fr (fun _ => False) w w2 ∧ RowV w2 (.slice (some ⟨B, 0, none⟩) 2 2) [Pl.intO x, Pl.intO y] from ⟨HR.out.1.trans fo, HR.out.2.fr0 fo⟩)
          obtain ⟨C, hC⟩ : ∃ C : World → Prop, C = Cells w2 [((⟨g, 0, none⟩ : Addr), (.int .i64 3 : Value)), ((⟨g, 1, none⟩ : Addr), (.bool false : Value)), ((⟨g, 2, none⟩ : Addr), (.int .i64 vs : Value)), ((⟨g, 3, none⟩ : Addr), (.int .i64 0 : Value)), ((⟨g, 4, none⟩ : Addr), (.int .i64 0 : Value)), ((⟨g, 5, none⟩ : Addr), (.string ⟨#[]⟩ : Value))] := ⟨_, rfl⟩
          have HC0 : Hid (C w2) := Lib.hid (by rw [hC]; exact ⟨Cc.1, Cc.2.1, Cc.2.2.1, Cc.2.2.2.1, Cc.2.2.2.2.1, Cc.2.2.2.2.2, Fr.refl _ _⟩)
          have T0 : ∀ Z, C Z → Z.cell? ⟨g, 0, none⟩ = some (.int .i64 3) := fun Z h => by rw [hC] at h; exact h.1
          have T1 : ∀ Z, C Z → Z.cell? ⟨g, 1, none⟩ = some (.bool false) := fun Z h => by rw [hC] at h; exact h.2.1
          have T2 : ∀ Z, C Z → Z.cell? ⟨g, 2, none⟩ = some (.int .i64 vs) := fun Z h => by rw [hC] at h; exact h.2.2.1
          have T3 : ∀ Z, C Z → Z.cell? ⟨g, 3, none⟩ = some (.int .i64 0) := fun Z h => by rw [hC] at h; exact h.2.2.2.1
          have T4 : ∀ Z, C Z → Z.cell? ⟨g, 4, none⟩ = some (.int .i64 0) := fun Z h => by rw [hC] at h; exact h.2.2.2.2.1
          have T5 : ∀ Z, C Z → Z.cell? ⟨g, 5, none⟩ = some (.string ⟨#[]⟩) := fun Z h => by rw [hC] at h; exact h.2.2.2.2.2.1
          have CF : Hid (∀ Z Z', C Z → Fr (fun _ => False) Z Z' → C Z') := Lib.hid (fun Z Z' h k => by rw [hC] at h ⊢; exact h.fr k)
          have TF : Hid (∀ Z, C Z → Fr (fun _ => False) w2 Z) := Lib.hid (fun Z h => by rw [hC] at h; exact h.frame)
          clear hC
          have LV := Lib.hid (fun Z (h : C Z) => (Nsub.out Z).mono fun en w' hh => (⟨hh.1, CF.out _ _ h (Fr.of_grown _ hh.2)⟩ : _ ∧ C w'))
          clear Cc ro oo fo C1
          go_wp2_with fail
          refine wp_region_class (C := C) (by kernel_rfl) (by kernel_rfl) (CF.out _ _ HC0.out ((Fr.refl _ _).drew)) ?_
          repeat
            first
              | (refine quiet_no (by rfl) ?_
                 try simp only [Act.put, List.setIfInBounds_toArray, List.set_cons_zero, List.set_cons_succ])
              | (refine quiet_yes ?_ (by rfl) (fun Z hZ => ?_) ?_
                 rotate_left
                 · unfold qAt Oper.quietAt
                   first
                     | (go_simp
                        (all_goals first | with_reducible rfl | (with_reducible exact LV.out Z hZ))
                        done)
                     | (have t0 := T0 Z hZ; have t1 := T1 Z hZ; have t2 := T2 Z hZ; have t3 := T3 Z hZ; have t4 := T4 Z hZ; have t5 := T5 Z hZ
                        go_simp
                        (all_goals with_reducible rfl)
                        done)
                 try simp only [Act.put, List.setIfInBounds_toArray, List.set_cons_zero, List.set_cons_succ])
          refine quiet_nil ?_
          intro Z9 hZ9
          have FIN := Lib.hid (show Fr (fun _ => False) w Z9 ∧ RowV Z9 (.slice (some ⟨B, 0, none⟩) 2 2) [Pl.intO x, Pl.intO y] from ⟨FIN.out.1.trans (TF.out _ hZ9), FIN.out.2.fr0 (TF.out _ hZ9)⟩)
          go_wp2_with fail
          refine ⟨?_, by simp [intOf]⟩
          repeat (apply Exists.intro (α := Value))
          first
            | exact ⟨.inr (.inr (.inl rfl)), FIN⟩
            | (refine ⟨⟨.inr (.inr (.inl rfl)), FIN⟩, ?_⟩
               repeat (first | exact rfl | refine ⟨rfl, ?_⟩))
        · have C1 := Lib.hid (O_sub.out hin)
          have hb2 : vs < -2147483647 ∨ (-2147483647 ≤ vs ∧ 2147483647 < vs) := by unfold Pl.inInt at hin; omega
          clear hin
          rcases hb2 with hb3 | ⟨hb3, hb4⟩
          all_goals
            go_wp2_with fail
            refine (C1.out _ _ HR.out.2).mono ?_
            rintro en w2 ⟨vi, rfl, ro, oo, fo⟩
            have RO := Lib.hid ro
            have FI0 := Lib.hid (show Fr (fun _ => False) w w2 ∧ RowV w2 (.slice (some ⟨B, 0, none⟩) 2 2) [Pl.intO x, Pl.intO y] from ⟨HR.out.1.trans fo, HR.out.2.fr0 fo⟩)
            clear ro oo fo C1
            go_wp2_with fail
            refine (SM.out _ _ _ RO.out FI0.out.2).mono ?_
            rintro en w3 ⟨rfl, g3⟩
            have FIN := Lib.hid (show Fr (fun _ => False) w w3 ∧ RowV w3 (.slice (some ⟨B, 0, none⟩) 2 2) [Pl.intO x, Pl.intO y] from ⟨FI0.out.1.trans (Fr.of_grown _ g3), FI0.out.2.fr0 (Fr.of_grown _ g3)⟩)
            clear g3 RO FI0
            go_wp2_with fail
            refine ⟨?_, by simp [intOf]⟩
            repeat (apply Exists.intro (α := Value))
            first
              | exact ⟨.inr (.inr (.inl rfl)), FIN⟩
              | (refine ⟨⟨.inr (.inr (.inl rfl)), FIN⟩, ?_⟩
                 repeat (first | exact rfl | refine ⟨rfl, ?_⟩))
      · by_cases hin : Pl.inInt vm
        · have C1 := Lib.hid (I_mul.out hin)
          have hb2 : -2147483647 ≤ vm ∧ vm ≤ 2147483647 := hin
          obtain ⟨hb3, hb4⟩ := hb2
          clear hin
          go_wp2_with fail
          refine (C1.out _ _ HR.out.2).mono ?_
          rintro en w2 ⟨vi, rfl, ro, oo, fo⟩
          obtain ⟨g, cp, rfl, hcp, hg, Cc⟩ := row_get1 ro oo
          have FIN := Lib.hid (show Fr (fun _ => False) w w2 ∧ RowV w2 (.slice (some ⟨B, 0, none⟩) 2 2) [Pl.intO x, Pl.intO y] from ⟨HR.out.1.trans fo, HR.out.2.fr0 fo⟩)
          obtain ⟨C, hC⟩ : ∃ C : World → Prop, C = Cells w2 [((⟨g, 0, none⟩ : Addr), (.int .i64 3 : Value)), ((⟨g, 1, none⟩ : Addr), (.bool false : Value)), ((⟨g, 2, none⟩ : Addr), (.int .i64 vm : Value)), ((⟨g, 3, none⟩ : Addr), (.int .i64 0 : Value)), ((⟨g, 4, none⟩ : Addr), (.int .i64 0 : Value)), ((⟨g, 5, none⟩ : Addr), (.string ⟨#[]⟩ : Value))] := ⟨_, rfl⟩
          have HC0 : Hid (C w2) := Lib.hid (by rw [hC]; exact ⟨Cc.1, Cc.2.1, Cc.2.2.1, Cc.2.2.2.1, Cc.2.2.2.2.1, Cc.2.2.2.2.2, Fr.refl _ _⟩)
          have T0 : ∀ Z, C Z → Z.cell? ⟨g, 0, none⟩ = some (.int .i64 3) := fun Z h => by rw [hC] at h; exact h.1
          have T1 : ∀ Z, C Z → Z.cell? ⟨g, 1, none⟩ = some (.bool false) := fun Z h => by rw [hC] at h; exact h.2.1
          have T2 : ∀ Z, C Z → Z.cell? ⟨g, 2, none⟩ = some (.int .i64 vm) := fun Z h => by rw [hC] at h; exact h.2.2.1
          have T3 : ∀ Z, C Z → Z.cell? ⟨g, 3, none⟩ = some (.int .i64 0) := fun Z h => by rw [hC] at h; exact h.2.2.2.1
          have T4 : ∀ Z, C Z → Z.cell? ⟨g, 4, none⟩ = some (.int .i64 0) := fun Z h => by rw [hC] at h; exact h.2.2.2.2.1
          have T5 : ∀ Z, C Z → Z.cell? ⟨g, 5, none⟩ = some (.string ⟨#[]⟩) := fun Z h => by rw [hC] at h; exact h.2.2.2.2.2.1
          have CF : Hid (∀ Z Z', C Z → Fr (fun _ => False) Z Z' → C Z') := Lib.hid (fun Z Z' h k => by rw [hC] at h ⊢; exact h.fr k)
          have TF : Hid (∀ Z, C Z → Fr (fun _ => False) w2 Z) := Lib.hid (fun Z h => by rw [hC] at h; exact h.frame)
          clear hC
          have LV := Lib.hid (fun Z (h : C Z) => (Nmul.out Z).mono fun en w' hh => (⟨hh.1, CF.out _ _ h (Fr.of_grown _ hh.2)⟩ : _ ∧ C w'))
          clear Cc ro oo fo C1
          go_wp2_with fail
          refine wp_region_class (C := C) (by kernel_rfl) (by kernel_rfl) (CF.out _ _ HC0.out ((Fr.refl _ _).drew)) ?_
          repeat
            first
              | (refine quiet_no (by rfl) ?_
                 try simp only [Act.put, List.setIfInBounds_toArray, List.set_cons_zero, List.set_cons_succ])
              | (refine quiet_yes ?_ (by rfl) (fun Z hZ => ?_) ?_
                 rotate_left
                 · unfold qAt Oper.quietAt
                   first
                     | (go_simp
                        (all_goals first | with_reducible rfl | (with_reducible exact LV.out Z hZ))
                        done)
                     | (have t0 := T0 Z hZ; have t1 := T1 Z hZ; have t2 := T2 Z hZ; have t3 := T3 Z hZ; have t4 := T4 Z hZ; have t5 := T5 Z hZ
                        go_simp
                        (all_goals with_reducible rfl)
                        done)
                 try simp only [Act.put, List.setIfInBounds_toArray, List.set_cons_zero, List.set_cons_succ])
          refine quiet_nil ?_
          intro Z9 hZ9
          have FIN := Lib.hid (show Fr (fun _ => False) w Z9 ∧ RowV Z9 (.slice (some ⟨B, 0, none⟩) 2 2) [Pl.intO x, Pl.intO y] from ⟨FIN.out.1.trans (TF.out _ hZ9), FIN.out.2.fr0 (TF.out _ hZ9)⟩)
          go_wp2_with fail
          refine ⟨?_, by simp [intOf]⟩
          repeat (apply Exists.intro (α := Value))
          first
            | exact ⟨.inr (.inr (.inr rfl)), FIN⟩
            | (refine ⟨⟨.inr (.inr (.inr rfl)), FIN⟩, ?_⟩
               repeat (first | exact rfl | refine ⟨rfl, ?_⟩))
        · have C1 := Lib.hid (O_mul.out hin)
          have hb2 : vm < -2147483647 ∨ (-2147483647 ≤ vm ∧ 2147483647 < vm) := by unfold Pl.inInt at hin; omega
          clear hin
          rcases hb2 with hb3 | ⟨hb3, hb4⟩
          all_goals
            go_wp2_with fail
            refine (C1.out _ _ HR.out.2).mono ?_
            rintro en w2 ⟨vi, rfl, ro, oo, fo⟩
            have RO := Lib.hid ro
            have FI0 := Lib.hid (show Fr (fun _ => False) w w2 ∧ RowV w2 (.slice (some ⟨B, 0, none⟩) 2 2) [Pl.intO x, Pl.intO y] from ⟨HR.out.1.trans fo, HR.out.2.fr0 fo⟩)
            clear ro oo fo C1
            go_wp2_with fail
            refine (SM.out _ _ _ RO.out FI0.out.2).mono ?_
            rintro en w3 ⟨rfl, g3⟩
            have FIN := Lib.hid (show Fr (fun _ => False) w w3 ∧ RowV w3 (.slice (some ⟨B, 0, none⟩) 2 2) [Pl.intO x, Pl.intO y] from ⟨FI0.out.1.trans (Fr.of_grown _ g3), FI0.out.2.fr0 (Fr.of_grown _ g3)⟩)
            clear g3 RO FI0
            go_wp2_with fail
            refine ⟨?_, by simp [intOf]⟩
            repeat (apply Exists.intro (α := Value))
            first
              | exact ⟨.inr (.inr (.inr rfl)), FIN⟩
              | (refine ⟨⟨.inr (.inr (.inr rfl)), FIN⟩, ?_⟩
                 repeat (first | exact rfl | refine ⟨rfl, ?_⟩))
      · go_wp2_with fail
        refine (RQ.out _ _ HR.out.2).mono ?_
        rintro en w2 ⟨z2, rfl, ro, oo, fo⟩
        have FI := Lib.hid (show Fr (fun _ => False) w w2 ∧ RowV w2 (.slice (some ⟨B, 0, none⟩) 2 2) [Pl.intO x, Pl.intO y] from ⟨HR.out.1.trans fo, HR.out.2.fr0 fo⟩)
        obtain ⟨g, cp, rfl, hcp, hg, Cc⟩ := row_get1 ro oo
        have CC := Lib.hid Cc
        clear ro oo fo RQ HR Cc
        go_wp2_with fail
        refine (RR.out _ _ FI.out.2).mono ?_
        rintro en w3 ⟨z3, rfl, ro, oo, fo⟩
        have FJ := Lib.hid (FI.out.1.trans fo)
        obtain ⟨h, cp2, rfl, hcp2, hh, Dd⟩ := row_get1 ro oo
        obtain ⟨d0, d1, d2, d3, d4, d5⟩ := Dd
        have c0 := cell_fr0 CC.out.1 fo
        have c2 := cell_fr0 CC.out.2.2.1 fo
        clear ro oo fo RR FI CC
        have hyb : (y == 0) = false := beq_eq_false_iff_ne.2 hyz
        have hcase : (0 ≤ x ∧ r = 0) ∨ (0 ≤ x ∧ 0 < r) ∨ (x < 0 ∧ r = 0) ∨ (x < 0 ∧ r < 0) := by
          rcases Int.lt_or_le x 0 with hx0 | hx0
          · have := hr2 hx0
            omega
          · have := hr1 hx0
            omega
        have hyc : 0 < y ∨ y < 0 := by omega
        have wy : IntKind.i64.wrap (-y) = -y := by unfold IntKind.wrap IntKind.bits IntKind.signed; simp; omega
        have bq' : -2147483647 ≤ q ∧ q ≤ 2147483647 := bq
        have br' : -2147483647 ≤ r ∧ r ≤ 2147483647 := br
        have wq : IntKind.i64.wrap qy = qy := by unfold IntKind.wrap IntKind.bits IntKind.signed; simp; omega
        clear hyz hr1 hr2 bq br hva hvs hvm wa ws wm
        rcases hyc with q1 | q1
        · have hk := hr3 q1
          clear hr3 hr4
          rcases hcase with ⟨p1, rfl⟩ | ⟨p1, p2⟩ | ⟨p1, rfl⟩ | ⟨p1, p2⟩
          · go_wp2_with fail
            go_ret
            exact ⟨rfl, Kept.of_fr FJ.out⟩
          · have hrb : (r != 0) = true := bne_iff_ne.2 (by omega)
            go_wp2_with fail
            go_ret
            exact ⟨rfl, Kept.of_fr FJ.out⟩
          · go_wp2_with fail
            go_ret
            exact ⟨rfl, Kept.of_fr FJ.out⟩
          · have hrb : (r != 0) = true := bne_iff_ne.2 (by omega)
            go_wp2_with fail
            go_ret
            exact ⟨rfl, Kept.of_fr FJ.out⟩
        · have hk := hr4 q1
          clear hr3 hr4
          rcases hcase with ⟨p1, rfl⟩ | ⟨p1, p2⟩ | ⟨p1, rfl⟩ | ⟨p1, p2⟩
          · go_wp2_with fail
            go_ret
            exact ⟨rfl, Kept.of_fr FJ.out⟩
          · have hrb : (r != 0) = true := bne_iff_ne.2 (by omega)
            go_wp2_with fail
            go_ret
            exact ⟨rfl, Kept.of_fr FJ.out⟩
          · go_wp2_with fail
            go_ret
            exact ⟨rfl, Kept.of_fr FJ.out⟩
          · have hrb : (r != 0) = true := bne_iff_ne.2 (by omega)
            go_wp2_with fail
            go_ret
            exact ⟨rfl, Kept.of_fr FJ.out⟩
theorem law_ArithWhole (a b : Int) (w0 : (Lit.int .i32 a).wf = true) (w1 : (Lit.int .i32 b).wf = true) (w : World) :
    Calls Try.prog 3 #[.int .i32 a, .int .i32 b] w fun en w' => en = .returned (.bool true) ∧ Kept w w' := by
  have ha : -2147483648 ≤ a ∧ a ≤ 2147483647 := by simp [Lit.wf, IntKind.min, IntKind.max, IntKind.signed, IntKind.bits] at w0; omega
  have hb : -2147483648 ≤ b ∧ b ≤ 2147483647 := by simp [Lit.wf, IntKind.min, IntKind.max, IntKind.signed, IntKind.bits] at w1; omega
  have hm : ∀ c : Int, -2147483648 ≤ c → ∃ x, (-2147483647 ≤ c ∧ x = c) ∨ (c = -2147483648 ∧ x = -2147483647) := fun c h => by
    by_cases k : -2147483647 ≤ c
    · exact ⟨c, .inl ⟨k, rfl⟩⟩
    · exact ⟨_, .inr ⟨by omega, rfl⟩⟩
  obtain ⟨x, hx⟩ := hm a ha.1
  obtain ⟨y, hy⟩ := hm b hb.1
  by_cases hz : y = 0
  · exact walk_whole_z a b ha hb x y _ _ _ hx hy rfl rfl rfl hz w
  · exact walk_whole_n a b ha hb x y _ _ _ hx hy rfl rfl rfl hz w
end Go.Proofs.Ytfmmomdmemcbbaa
