/- The reference's parts: idiv, mod, bitshift. -/
import Derived.Test.YtfmmomdmemcbbaaGreatZ1
import Derived.Test.YtfmmomdmemcbbaaGreatA9
set_option maxHeartbeats 4000000
set_option maxRecDepth 100000
namespace Go.Proofs.YtfmmomdmemcbbaaGreat
set_option linter.unusedVariables false
open Go.RowKit
abbrev RPost (base p : Nat) (W : World) (R : Int × List Pl.Ob) (e : Ending) (w' : World) : Prop := e = .returned (.int .i64 R.1) ∧ (R.1 = 0 → RS base p R.2 w') ∧ Fr (fun c => c = p) W w'
theorem Pl.far_shift (a : Int) (s : Nat) (ha : -2147483648 ≤ a ∧ a ≤ 2147483647) (hs : 31 ≤ s) : a / 2 ^ s = if a < 0 then -1 else 0 := by
  have h1 : (2 : Int) ^ 31 ≤ 2 ^ s := by exact_mod_cast Nat.pow_le_pow_right (n := 2) (by decide) hs
  have e : (2 : Int) ^ 31 = 2147483648 := by decide
  rw [e] at h1
  generalize (2 : Int) ^ s = P at h1
  split
  · rw [Int.ediv_eq_iff_of_pos (by omega)]
    constructor <;> omega
  · exact Int.ediv_eq_zero_of_lt (by omega) (by omega)
theorem Pl.shift_bd (a : Int) (s : Nat) (h : -2147483647 ≤ a ∧ a ≤ 2147483647) : -2147483647 ≤ a / 2 ^ s ∧ a / 2 ^ s ≤ 2147483647 := by
  have h1 : (1 : Int) ≤ 2 ^ s := Int.pow_pos (by decide)
  generalize (2 : Int) ^ s = P at h1
  constructor
  · exact (Int.le_ediv_iff_mul_le (by omega)).2 (by have := Int.mul_le_mul_of_nonneg_left h1 (show (0 : Int) ≤ 2147483647 by decide); omega)
  · have := Int.ediv_le_ediv (show 0 < P by omega) h.2
    have h4 : (2147483647 : Int) / P ≤ 2147483647 := Int.ediv_le_self _ (by decide)
    omega
theorem Pl.pow31 (j : Nat) (h : j ≤ 31) : (1 : Int) ≤ 2 ^ j ∧ (2 : Int) ^ j ≤ 2147483648 := by
  have h1 : (0 : Int) < 2 ^ j := Int.pow_pos (by decide)
  have h2 : (2 : Int) ^ j ≤ 2 ^ 31 := by exact_mod_cast Nat.pow_le_pow_right (n := 2) (by decide) h
  have e : (2 : Int) ^ 31 = 2147483648 := by decide
  omega
theorem Pl.mul_in (x P : Int) (hx : -2147483647 ≤ x ∧ x ≤ 2147483647) (hP : 1 ≤ P ∧ P ≤ 2147483648) : -4611686018427387904 ≤ x * P ∧ x * P ≤ 4611686018427387904 := by
  have h1 : x * P ≤ 2147483648 * P := Int.mul_le_mul_of_nonneg_right (by omega) (by omega)
  have h2 : -2147483648 * P ≤ x * P := Int.mul_le_mul_of_nonneg_right (by omega) (by omega)
  omega
section
variable (base p : Nat) (L : List Pl.Ob) (W : World) (hlen : L.length ≤ 200) (h : RS base p L W) (hb : base ≤ W.heap.size)
include hlen h hb
omit hb hlen in
theorem rparts_under (NM : ByteArray) (hL : L.length < 2) :
    Calls Tryz.prog 63 #[.pointer (some ⟨p, 0, none⟩), .string NM] W fun e w' => RPost base p W (((7, L) : Int × List Pl.Ob)) e w' := by
  have TK := Lib.hid (rtake_under base p L (W.alloc (.cells #[.int .i64 3, .int .i64 3] 3)) (h.fresh (Fr.alloc _ _ _)) 2 (by omega) hL W.heap.size 2)
  clear h hL
  go_enter Tryz.func63, Tryz.ntmps63
  go_wp2_with fail
  refine TK.out.mono ?_
  rintro e w2 ⟨rfl, f2⟩
  have F2 := Lib.hid ((Fr.alloc (fun _ => False) W (.cells #[.int .i64 3, .int .i64 3] 3)).trans f2)
  clear TK f2
  go_wp2_with fail
  go_ret
  exact ⟨rfl, fun q => absurd q (by simp), F2.out.weaken (fun _ f => f.elim)⟩
omit hb in
theorem rparts_bad (NM : ByteArray) (o0 o1 : Pl.Ob) (J : Nat) (hn : L.length = J + 2) (h0 : L[J + 0]? = some o0) (h1 : L[J + 1]? = some o1) (f1 : Pl.rfits 3 o1.1 = false) :
    Calls Tryz.prog 63 #[.pointer (some ⟨p, 0, none⟩), .string NM] W fun e w' => RPost base p W (((6, L) : Int × List Pl.Ob)) e w' := by
  have TK := Lib.hid (rtake2_bad base p L (W.alloc (.cells #[.int .i64 3, .int .i64 3] 3)) (by omega) (h.fresh (Fr.alloc _ _ _)) o0 o1 J hn h0 h1 W.heap.size 2 (Nat.le_refl _) 3 3 (.inr (.inr (.inr rfl))) (.inr (.inr (.inr rfl))) (by simp [go_sem]) (by simp [go_sem]) f1)
  clear hlen h hn h0 h1 f1
  go_enter Tryz.func63, Tryz.ntmps63
  go_wp2_with fail
  refine TK.out.mono ?_
  rintro e w2 ⟨rfl, f2⟩
  have F2 := Lib.hid ((Fr.alloc (fun _ => False) W (.cells #[.int .i64 3, .int .i64 3] 3)).trans f2)
  clear TK f2
  go_wp2_with fail
  go_ret
  exact ⟨rfl, fun q => absurd q (by simp), F2.out.weaken (fun _ f => f.elim)⟩
omit hb in
theorem rparts_bad0 (NM : ByteArray) (o0 o1 : Pl.Ob) (J : Nat) (hn : L.length = J + 2) (h0 : L[J + 0]? = some o0) (h1 : L[J + 1]? = some o1) (f1 : Pl.rfits 3 o1.1 = true) (f0 : Pl.rfits 3 o0.1 = false) :
    Calls Tryz.prog 63 #[.pointer (some ⟨p, 0, none⟩), .string NM] W fun e w' => RPost base p W (((6, L) : Int × List Pl.Ob)) e w' := by
  have TK := Lib.hid (rtake2_bad0 base p L (W.alloc (.cells #[.int .i64 3, .int .i64 3] 3)) (by omega) (h.fresh (Fr.alloc _ _ _)) o0 o1 J hn h0 h1 W.heap.size 2 (Nat.le_refl _) 3 3 (.inr (.inr (.inr rfl))) (.inr (.inr (.inr rfl))) (by simp [go_sem]) (by simp [go_sem]) f1 f0)
  clear hlen h hn h0 h1 f1 f0
  go_enter Tryz.func63, Tryz.ntmps63
  go_wp2_with fail
  refine TK.out.mono ?_
  rintro e w2 ⟨rfl, f2⟩
  have F2 := Lib.hid ((Fr.alloc (fun _ => False) W (.cells #[.int .i64 3, .int .i64 3] 3)).trans f2)
  clear TK f2
  go_wp2_with fail
  go_ret
  exact ⟨rfl, fun q => absurd q (by simp), F2.out.weaken (fun _ f => f.elim)⟩
theorem rparts_idiv_zero (a b : Int) (x y : Bool) (J : Nat) (hn : L.length = J + 2) (h0 : L[J + 0]? = some (3, x, a, 0, 0, ⟨#[]⟩)) (h1 : L[J + 1]? = some (3, y, b, 0, 0, ⟨#[]⟩)) (ia : -2147483647 ≤ a ∧ a ≤ 2147483647) (ib : -2147483647 ≤ b ∧ b ≤ 2147483647) (hz : b = 0) :
    Calls Tryz.prog 63 #[.pointer (some ⟨p, 0, none⟩), .string ⟨#[105, 100, 105, 118]⟩] W fun e w' => RPost base p W (((19, L) : Int × List Pl.Ob)) e w' := by
  have hb0 : (b == 0) = true := beq_iff_eq.2 hz
  have HS := Lib.hid h
  have HB := Lib.hid hb
  have TK := Lib.hid (rtake2_ok base p L (W.alloc (.cells #[.int .i64 3, .int .i64 3] 3)) (by omega) (h.fresh (Fr.alloc _ _ _)) (3, x, a, 0, 0, ⟨#[]⟩) (3, y, b, 0, 0, ⟨#[]⟩) J hn h0 h1 W.heap.size 2 (Nat.le_refl _) 3 3 (.inr (.inr (.inr rfl))) (.inr (.inr (.inr rfl))) (by simp [go_sem]) (by simp [go_sem]) (by rfl) (by rfl))
  clear hlen h hn h0 h1 hb
  go_enter Tryz.func63, Tryz.ntmps63
  go_wp2_with fail
  refine TK.out.mono ?_
  rintro e w2 ⟨f2, g, cap, hgp, hl, hcap, rfl⟩
  have F2 := Lib.hid ((Fr.alloc (fun _ => False) W (.cells #[.int .i64 3, .int .i64 3] 3)).trans f2)
  have HL := Lib.hid (And.intro hgp hl)
  have ecap : (2 : Int) ≤ (cap : Int) := by omega
  obtain ⟨C, hC⟩ : ∃ C : World → Prop, C = Cells w2 [((⟨g, J * 6 + 2, none⟩ : Addr), (.int .i64 a : Value)), ((⟨g, J * 6 + 8, none⟩ : Addr), (.int .i64 b : Value))] := ⟨_, rfl⟩
  have HC0 : Hid (C w2) := Lib.hid (by rw [hC]; exact ⟨(hl.2 2 _ rfl), (hl.2 8 _ rfl), Fr.refl _ _⟩)
  have T0 : ∀ Z, C Z → Z.cell? ⟨g, J * 6 + 2, none⟩ = some (.int .i64 a) := fun Z h => by rw [hC] at h; exact h.1
  have T1 : ∀ Z, C Z → Z.cell? ⟨g, J * 6 + 8, none⟩ = some (.int .i64 b) := fun Z h => by rw [hC] at h; exact h.2.1
  have CF : Hid (∀ Z Z', C Z → Fr (fun _ => False) Z Z' → C Z') := Lib.hid (fun Z Z' h k => by rw [hC] at h ⊢; exact h.fr k)
  have TF : Hid (∀ Z, C Z → Fr (fun _ => False) w2 Z) := Lib.hid (fun Z h => by rw [hC] at h; exact h.frame)
  clear hC
  clear TK f2 hl hgp hcap
  go_wp2_with fail
  refine wp_region_class (C := C) (by kernel_rfl) (by kernel_rfl) (CF.out _ _ HC0.out ((Fr.refl _ _).drew)) ?_
  repeat
    first
      | (refine quiet_no (by rfl) ?_
         try simp only [Act.put, List.setIfInBounds_toArray, List.set_cons_zero, List.set_cons_succ])
      | (refine quiet_yes ?_ (by rfl) (fun Z hZ => ?_) ?_
         rotate_left
         · unfold qAt Oper.quietAt
           first
             | (go_simp
                (all_goals first | with_reducible rfl )
                done)
             | (have t0 := T0 Z hZ; have t1 := T1 Z hZ
                go_simp
                (all_goals with_reducible rfl)
                done)
         try simp only [Act.put, List.setIfInBounds_toArray, List.set_cons_zero, List.set_cons_succ])
  refine quiet_nil ?_
  intro Z hZ
  have FZ := Lib.hid (F2.out.trans (TF.out _ hZ))
  clear hZ HC0 CF TF F2 HL T0 T1
  clear C
  go_wp2_with fail
  go_ret
  exact ⟨rfl, fun q => absurd q (by simp), FZ.out.weaken (fun _ f => f.elim)⟩
theorem rparts_idiv (a b : Int) (x y : Bool) (J : Nat) (hn : L.length = J + 2) (h0 : L[J + 0]? = some (3, x, a, 0, 0, ⟨#[]⟩)) (h1 : L[J + 1]? = some (3, y, b, 0, 0, ⟨#[]⟩)) (ia : -2147483647 ≤ a ∧ a ≤ 2147483647) (ib : -2147483647 ≤ b ∧ b ≤ 2147483647) (hz : b ≠ 0) :
    Calls Tryz.prog 63 #[.pointer (some ⟨p, 0, none⟩), .string ⟨#[105, 100, 105, 118]⟩] W fun e w' => RPost base p W (Pl.wholeR L 2 (a.tdiv b)) e w' := by
  have bd := Pl.tdiv_bd2 a b 2147483647 (by omega)
  obtain ⟨c, hc⟩ : ∃ c, a.tdiv b = c := ⟨_, rfl⟩
  rw [hc] at bd ⊢
  have hb0 : (b == 0) = false := beq_eq_false_iff_ne.2 hz
  have CG := Lib.hid (fun Z (hZ : RS base p L Z) (hbZ : base ≤ Z.heap.size) => rgiveint_any base p L Z (by omega) hZ hbZ 2 (by omega) (c))
  have HS := Lib.hid h
  have HB := Lib.hid hb
  have TK := Lib.hid (rtake2_ok base p L (W.alloc (.cells #[.int .i64 3, .int .i64 3] 3)) (by omega) (h.fresh (Fr.alloc _ _ _)) (3, x, a, 0, 0, ⟨#[]⟩) (3, y, b, 0, 0, ⟨#[]⟩) J hn h0 h1 W.heap.size 2 (Nat.le_refl _) 3 3 (.inr (.inr (.inr rfl))) (.inr (.inr (.inr rfl))) (by simp [go_sem]) (by simp [go_sem]) (by rfl) (by rfl))
  clear hlen h hn h0 h1 hb
  go_enter Tryz.func63, Tryz.ntmps63
  go_wp2_with fail
  refine TK.out.mono ?_
  rintro e w2 ⟨f2, g, cap, hgp, hl, hcap, rfl⟩
  have F2 := Lib.hid ((Fr.alloc (fun _ => False) W (.cells #[.int .i64 3, .int .i64 3] 3)).trans f2)
  have HL := Lib.hid (And.intro hgp hl)
  have ecap : (2 : Int) ≤ (cap : Int) := by omega
  obtain ⟨C, hC⟩ : ∃ C : World → Prop, C = Cells w2 [((⟨g, J * 6 + 2, none⟩ : Addr), (.int .i64 a : Value)), ((⟨g, J * 6 + 8, none⟩ : Addr), (.int .i64 b : Value))] := ⟨_, rfl⟩
  have HC0 : Hid (C w2) := Lib.hid (by rw [hC]; exact ⟨(hl.2 2 _ rfl), (hl.2 8 _ rfl), Fr.refl _ _⟩)
  have T0 : ∀ Z, C Z → Z.cell? ⟨g, J * 6 + 2, none⟩ = some (.int .i64 a) := fun Z h => by rw [hC] at h; exact h.1
  have T1 : ∀ Z, C Z → Z.cell? ⟨g, J * 6 + 8, none⟩ = some (.int .i64 b) := fun Z h => by rw [hC] at h; exact h.2.1
  have CF : Hid (∀ Z Z', C Z → Fr (fun _ => False) Z Z' → C Z') := Lib.hid (fun Z Z' h k => by rw [hC] at h ⊢; exact h.fr k)
  have TF : Hid (∀ Z, C Z → Fr (fun _ => False) w2 Z) := Lib.hid (fun Z h => by rw [hC] at h; exact h.frame)
  clear hC
  clear TK f2 hl hgp hcap
  go_wp2_with fail
  refine wp_region_class (C := C) (by kernel_rfl) (by kernel_rfl) (CF.out _ _ HC0.out ((Fr.refl _ _).drew)) ?_
  repeat
    first
      | (refine quiet_no (by rfl) ?_
         try simp only [Act.put, List.setIfInBounds_toArray, List.set_cons_zero, List.set_cons_succ])
      | (refine quiet_yes ?_ (by rfl) (fun Z hZ => ?_) ?_
         rotate_left
         · unfold qAt Oper.quietAt
           first
             | (go_simp
                (all_goals first | with_reducible rfl )
                done)
             | (have t0 := T0 Z hZ; have t1 := T1 Z hZ
                go_simp
                (all_goals with_reducible rfl)
                done)
         try simp only [Act.put, List.setIfInBounds_toArray, List.set_cons_zero, List.set_cons_succ])
  refine quiet_nil ?_
  intro Z hZ
  have FZ := Lib.hid (F2.out.trans (TF.out _ hZ))
  clear hZ HC0 CF TF F2 HL T0 T1
  clear C
  go_wp2_with fail
  refine (CG.out _ (HS.out.fresh (FZ.out)) (Nat.le_trans HB.out (FZ.out).2.2.1)).mono ?_
  rintro e w8 ⟨rfl, hs, hf⟩
  have H8 := Lib.hid (And.intro hs ((Fr.weaken (FZ.out) (fun _ f => f.elim)).trans hf))
  clear hs hf CG
  go_wp2_with fail
  go_ret
  exact ⟨rfl, fun _ => H8.out.1, H8.out.2⟩
theorem rparts_mod_zero (a b : Int) (x y : Bool) (J : Nat) (hn : L.length = J + 2) (h0 : L[J + 0]? = some (3, x, a, 0, 0, ⟨#[]⟩)) (h1 : L[J + 1]? = some (3, y, b, 0, 0, ⟨#[]⟩)) (ia : -2147483647 ≤ a ∧ a ≤ 2147483647) (ib : -2147483647 ≤ b ∧ b ≤ 2147483647) (hz : b = 0) :
    Calls Tryz.prog 63 #[.pointer (some ⟨p, 0, none⟩), .string ⟨#[109, 111, 100]⟩] W fun e w' => RPost base p W (((19, L) : Int × List Pl.Ob)) e w' := by
  have hb0 : (b == 0) = true := beq_iff_eq.2 hz
  have HS := Lib.hid h
  have HB := Lib.hid hb
  have TK := Lib.hid (rtake2_ok base p L (W.alloc (.cells #[.int .i64 3, .int .i64 3] 3)) (by omega) (h.fresh (Fr.alloc _ _ _)) (3, x, a, 0, 0, ⟨#[]⟩) (3, y, b, 0, 0, ⟨#[]⟩) J hn h0 h1 W.heap.size 2 (Nat.le_refl _) 3 3 (.inr (.inr (.inr rfl))) (.inr (.inr (.inr rfl))) (by simp [go_sem]) (by simp [go_sem]) (by rfl) (by rfl))
  clear hlen h hn h0 h1 hb
  go_enter Tryz.func63, Tryz.ntmps63
  go_wp2_with fail
  refine TK.out.mono ?_
  rintro e w2 ⟨f2, g, cap, hgp, hl, hcap, rfl⟩
  have F2 := Lib.hid ((Fr.alloc (fun _ => False) W (.cells #[.int .i64 3, .int .i64 3] 3)).trans f2)
  have HL := Lib.hid (And.intro hgp hl)
  have ecap : (2 : Int) ≤ (cap : Int) := by omega
  obtain ⟨C, hC⟩ : ∃ C : World → Prop, C = Cells w2 [((⟨g, J * 6 + 2, none⟩ : Addr), (.int .i64 a : Value)), ((⟨g, J * 6 + 8, none⟩ : Addr), (.int .i64 b : Value))] := ⟨_, rfl⟩
  have HC0 : Hid (C w2) := Lib.hid (by rw [hC]; exact ⟨(hl.2 2 _ rfl), (hl.2 8 _ rfl), Fr.refl _ _⟩)
  have T0 : ∀ Z, C Z → Z.cell? ⟨g, J * 6 + 2, none⟩ = some (.int .i64 a) := fun Z h => by rw [hC] at h; exact h.1
  have T1 : ∀ Z, C Z → Z.cell? ⟨g, J * 6 + 8, none⟩ = some (.int .i64 b) := fun Z h => by rw [hC] at h; exact h.2.1
  have CF : Hid (∀ Z Z', C Z → Fr (fun _ => False) Z Z' → C Z') := Lib.hid (fun Z Z' h k => by rw [hC] at h ⊢; exact h.fr k)
  have TF : Hid (∀ Z, C Z → Fr (fun _ => False) w2 Z) := Lib.hid (fun Z h => by rw [hC] at h; exact h.frame)
  clear hC
  clear TK f2 hl hgp hcap
  go_wp2_with fail
  refine wp_region_class (C := C) (by kernel_rfl) (by kernel_rfl) (CF.out _ _ HC0.out ((Fr.refl _ _).drew)) ?_
  repeat
    first
      | (refine quiet_no (by rfl) ?_
         try simp only [Act.put, List.setIfInBounds_toArray, List.set_cons_zero, List.set_cons_succ])
      | (refine quiet_yes ?_ (by rfl) (fun Z hZ => ?_) ?_
         rotate_left
         · unfold qAt Oper.quietAt
           first
             | (go_simp
                (all_goals first | with_reducible rfl )
                done)
             | (have t0 := T0 Z hZ; have t1 := T1 Z hZ
                go_simp
                (all_goals with_reducible rfl)
                done)
         try simp only [Act.put, List.setIfInBounds_toArray, List.set_cons_zero, List.set_cons_succ])
  refine quiet_nil ?_
  intro Z hZ
  have FZ := Lib.hid (F2.out.trans (TF.out _ hZ))
  clear hZ HC0 CF TF F2 HL T0 T1
  clear C
  go_wp2_with fail
  go_ret
  exact ⟨rfl, fun q => absurd q (by simp), FZ.out.weaken (fun _ f => f.elim)⟩
theorem rparts_mod (a b : Int) (x y : Bool) (J : Nat) (hn : L.length = J + 2) (h0 : L[J + 0]? = some (3, x, a, 0, 0, ⟨#[]⟩)) (h1 : L[J + 1]? = some (3, y, b, 0, 0, ⟨#[]⟩)) (ia : -2147483647 ≤ a ∧ a ≤ 2147483647) (ib : -2147483647 ≤ b ∧ b ≤ 2147483647) (hz : b ≠ 0) :
    Calls Tryz.prog 63 #[.pointer (some ⟨p, 0, none⟩), .string ⟨#[109, 111, 100]⟩] W fun e w' => RPost base p W (Pl.wholeR L 2 (a.tmod b)) e w' := by
  have bd := Pl.tmod_bd2 a b 2147483647 (by omega)
  obtain ⟨c, hc⟩ : ∃ c, a.tmod b = c := ⟨_, rfl⟩
  rw [hc] at bd ⊢
  have hb0 : (b == 0) = false := beq_eq_false_iff_ne.2 hz
  have CG := Lib.hid (fun Z (hZ : RS base p L Z) (hbZ : base ≤ Z.heap.size) => rgiveint_any base p L Z (by omega) hZ hbZ 2 (by omega) (c))
  have HS := Lib.hid h
  have HB := Lib.hid hb
  have TK := Lib.hid (rtake2_ok base p L (W.alloc (.cells #[.int .i64 3, .int .i64 3] 3)) (by omega) (h.fresh (Fr.alloc _ _ _)) (3, x, a, 0, 0, ⟨#[]⟩) (3, y, b, 0, 0, ⟨#[]⟩) J hn h0 h1 W.heap.size 2 (Nat.le_refl _) 3 3 (.inr (.inr (.inr rfl))) (.inr (.inr (.inr rfl))) (by simp [go_sem]) (by simp [go_sem]) (by rfl) (by rfl))
  clear hlen h hn h0 h1 hb
  go_enter Tryz.func63, Tryz.ntmps63
  go_wp2_with fail
  refine TK.out.mono ?_
  rintro e w2 ⟨f2, g, cap, hgp, hl, hcap, rfl⟩
  have F2 := Lib.hid ((Fr.alloc (fun _ => False) W (.cells #[.int .i64 3, .int .i64 3] 3)).trans f2)
  have HL := Lib.hid (And.intro hgp hl)
  have ecap : (2 : Int) ≤ (cap : Int) := by omega
  obtain ⟨C, hC⟩ : ∃ C : World → Prop, C = Cells w2 [((⟨g, J * 6 + 2, none⟩ : Addr), (.int .i64 a : Value)), ((⟨g, J * 6 + 8, none⟩ : Addr), (.int .i64 b : Value))] := ⟨_, rfl⟩
  have HC0 : Hid (C w2) := Lib.hid (by rw [hC]; exact ⟨(hl.2 2 _ rfl), (hl.2 8 _ rfl), Fr.refl _ _⟩)
  have T0 : ∀ Z, C Z → Z.cell? ⟨g, J * 6 + 2, none⟩ = some (.int .i64 a) := fun Z h => by rw [hC] at h; exact h.1
  have T1 : ∀ Z, C Z → Z.cell? ⟨g, J * 6 + 8, none⟩ = some (.int .i64 b) := fun Z h => by rw [hC] at h; exact h.2.1
  have CF : Hid (∀ Z Z', C Z → Fr (fun _ => False) Z Z' → C Z') := Lib.hid (fun Z Z' h k => by rw [hC] at h ⊢; exact h.fr k)
  have TF : Hid (∀ Z, C Z → Fr (fun _ => False) w2 Z) := Lib.hid (fun Z h => by rw [hC] at h; exact h.frame)
  clear hC
  clear TK f2 hl hgp hcap
  go_wp2_with fail
  refine wp_region_class (C := C) (by kernel_rfl) (by kernel_rfl) (CF.out _ _ HC0.out ((Fr.refl _ _).drew)) ?_
  repeat
    first
      | (refine quiet_no (by rfl) ?_
         try simp only [Act.put, List.setIfInBounds_toArray, List.set_cons_zero, List.set_cons_succ])
      | (refine quiet_yes ?_ (by rfl) (fun Z hZ => ?_) ?_
         rotate_left
         · unfold qAt Oper.quietAt
           first
             | (go_simp
                (all_goals first | with_reducible rfl )
                done)
             | (have t0 := T0 Z hZ; have t1 := T1 Z hZ
                go_simp
                (all_goals with_reducible rfl)
                done)
         try simp only [Act.put, List.setIfInBounds_toArray, List.set_cons_zero, List.set_cons_succ])
  refine quiet_nil ?_
  intro Z hZ
  have FZ := Lib.hid (F2.out.trans (TF.out _ hZ))
  clear hZ HC0 CF TF F2 HL T0 T1
  clear C
  go_wp2_with fail
  refine (CG.out _ (HS.out.fresh (FZ.out)) (Nat.le_trans HB.out (FZ.out).2.2.1)).mono ?_
  rintro e w8 ⟨rfl, hs, hf⟩
  have H8 := Lib.hid (And.intro hs ((Fr.weaken (FZ.out) (fun _ f => f.elim)).trans hf))
  clear hs hf CG
  go_wp2_with fail
  go_ret
  exact ⟨rfl, fun _ => H8.out.1, H8.out.2⟩
theorem rparts_down (a b : Int) (x y : Bool) (J : Nat) (hn : L.length = J + 2) (h0 : L[J + 0]? = some (3, x, a, 0, 0, ⟨#[]⟩)) (h1 : L[J + 1]? = some (3, y, b, 0, 0, ⟨#[]⟩)) (ia : -2147483647 ≤ a ∧ a ≤ 2147483647) (ib : -2147483647 ≤ b ∧ b ≤ 2147483647) (hz : b < 0) :
    Calls Tryz.prog 63 #[.pointer (some ⟨p, 0, none⟩), .string ⟨#[98, 105, 116, 115, 104, 105, 102, 116]⟩] W fun e w' => RPost base p W (Pl.wholeR L 2 (a / 2 ^ (if 63 < -b then 63 else -b).toNat)) e w' := by
  have e0 : a / 2 ^ (if 63 < -b then 63 else -b).toNat = a / 2 ^ (if 62 < -b then 62 else -b).toNat := by
    by_cases q : 62 < -b
    · rw [Pl.far_shift a _ (by omega) (by split <;> omega), Pl.far_shift a _ (by omega) (by rw [if_pos q]; decide)]
    · rw [if_neg (by omega), if_neg q]
  rw [e0]
  obtain ⟨s, hs⟩ : ∃ s, (if 62 < -b then 62 else -b) = s := ⟨_, rfl⟩
  have bs : 0 ≤ s ∧ s ≤ 62 := by rw [← hs]; split <;> omega
  rw [hs]
  obtain ⟨c, hc⟩ : ∃ c, a / 2 ^ s.toNat = c := ⟨_, rfl⟩
  have bc : -2147483647 ≤ c ∧ c ≤ 2147483647 := by rw [← hc]; exact Pl.shift_bd a s.toNat ia
  obtain ⟨bs0, bs1⟩ := bs
  rw [hc]
  clear e0
  have CG := Lib.hid (fun Z (hZ : RS base p L Z) (hbZ : base ≤ Z.heap.size) => rgiveint_any base p L Z (by omega) hZ hbZ 2 (by omega) (c))
  have HS := Lib.hid h
  have HB := Lib.hid hb
  have TK := Lib.hid (rtake2_ok base p L (W.alloc (.cells #[.int .i64 3, .int .i64 3] 3)) (by omega) (h.fresh (Fr.alloc _ _ _)) (3, x, a, 0, 0, ⟨#[]⟩) (3, y, b, 0, 0, ⟨#[]⟩) J hn h0 h1 W.heap.size 2 (Nat.le_refl _) 3 3 (.inr (.inr (.inr rfl))) (.inr (.inr (.inr rfl))) (by simp [go_sem]) (by simp [go_sem]) (by rfl) (by rfl))
  clear hlen h hn h0 h1 hb
  go_enter Tryz.func63, Tryz.ntmps63
  go_wp2_with fail
  refine TK.out.mono ?_
  rintro e w2 ⟨f2, g, cap, hgp, hl, hcap, rfl⟩
  have F2 := Lib.hid ((Fr.alloc (fun _ => False) W (.cells #[.int .i64 3, .int .i64 3] 3)).trans f2)
  have HL := Lib.hid (And.intro hgp hl)
  have ecap : (2 : Int) ≤ (cap : Int) := by omega
  obtain ⟨C, hC⟩ : ∃ C : World → Prop, C = Cells w2 [((⟨g, J * 6 + 2, none⟩ : Addr), (.int .i64 a : Value)), ((⟨g, J * 6 + 8, none⟩ : Addr), (.int .i64 b : Value))] := ⟨_, rfl⟩
  have HC0 : Hid (C w2) := Lib.hid (by rw [hC]; exact ⟨(hl.2 2 _ rfl), (hl.2 8 _ rfl), Fr.refl _ _⟩)
  have T0 : ∀ Z, C Z → Z.cell? ⟨g, J * 6 + 2, none⟩ = some (.int .i64 a) := fun Z h => by rw [hC] at h; exact h.1
  have T1 : ∀ Z, C Z → Z.cell? ⟨g, J * 6 + 8, none⟩ = some (.int .i64 b) := fun Z h => by rw [hC] at h; exact h.2.1
  have CF : Hid (∀ Z Z', C Z → Fr (fun _ => False) Z Z' → C Z') := Lib.hid (fun Z Z' h k => by rw [hC] at h ⊢; exact h.fr k)
  have TF : Hid (∀ Z, C Z → Fr (fun _ => False) w2 Z) := Lib.hid (fun Z h => by rw [hC] at h; exact h.frame)
  clear hC
  clear TK f2 hl hgp hcap
  go_wp2_with fail
  refine wp_region_class (C := C) (by kernel_rfl) (by kernel_rfl) (CF.out _ _ HC0.out ((Fr.refl _ _).drew)) ?_
  repeat
    first
      | (refine quiet_no (by rfl) ?_
         try simp only [Act.put, List.setIfInBounds_toArray, List.set_cons_zero, List.set_cons_succ])
      | (refine quiet_yes ?_ (by rfl) (fun Z hZ => ?_) ?_
         rotate_left
         · unfold qAt Oper.quietAt
           first
             | (go_simp
                (all_goals first | with_reducible rfl )
                done)
             | (have t0 := T0 Z hZ; have t1 := T1 Z hZ
                go_simp
                (all_goals with_reducible rfl)
                done)
         try simp only [Act.put, List.setIfInBounds_toArray, List.set_cons_zero, List.set_cons_succ])
  refine quiet_nil ?_
  intro Z hZ
  have FZ := Lib.hid (F2.out.trans (TF.out _ hZ))
  clear hZ HC0 CF TF F2 HL T0 T1
  clear C
  go_wp2_with fail
  refine (CG.out _ (HS.out.fresh (FZ.out)) (Nat.le_trans HB.out (FZ.out).2.2.1)).mono ?_
  rintro e w8 ⟨rfl, hs, hf⟩
  have H8 := Lib.hid (And.intro hs ((Fr.weaken (FZ.out) (fun _ f => f.elim)).trans hf))
  clear hs hf CG
  go_wp2_with fail
  go_ret
  exact ⟨rfl, fun _ => H8.out.1, H8.out.2⟩
theorem rparts_far (a b : Int) (x y : Bool) (J : Nat) (hn : L.length = J + 2) (h0 : L[J + 0]? = some (3, x, a, 0, 0, ⟨#[]⟩)) (h1 : L[J + 1]? = some (3, y, b, 0, 0, ⟨#[]⟩)) (ia : -2147483647 ≤ a ∧ a ≤ 2147483647) (ib : -2147483647 ≤ b ∧ b ≤ 2147483647) (hz : 31 < b) (ha : a ≠ 0) :
    Calls Tryz.prog 63 #[.pointer (some ⟨p, 0, none⟩), .string ⟨#[98, 105, 116, 115, 104, 105, 102, 116]⟩] W fun e w' => RPost base p W (((2, L) : Int × List Pl.Ob)) e w' := by
  have ha0 : (a == 0) = false := beq_eq_false_iff_ne.2 ha
  have ha1 : (a != 0) = true := bne_iff_ne.2 ha
  have HS := Lib.hid h
  have HB := Lib.hid hb
  have TK := Lib.hid (rtake2_ok base p L (W.alloc (.cells #[.int .i64 3, .int .i64 3] 3)) (by omega) (h.fresh (Fr.alloc _ _ _)) (3, x, a, 0, 0, ⟨#[]⟩) (3, y, b, 0, 0, ⟨#[]⟩) J hn h0 h1 W.heap.size 2 (Nat.le_refl _) 3 3 (.inr (.inr (.inr rfl))) (.inr (.inr (.inr rfl))) (by simp [go_sem]) (by simp [go_sem]) (by rfl) (by rfl))
  clear hlen h hn h0 h1 hb
  go_enter Tryz.func63, Tryz.ntmps63
  go_wp2_with fail
  refine TK.out.mono ?_
  rintro e w2 ⟨f2, g, cap, hgp, hl, hcap, rfl⟩
  have F2 := Lib.hid ((Fr.alloc (fun _ => False) W (.cells #[.int .i64 3, .int .i64 3] 3)).trans f2)
  have HL := Lib.hid (And.intro hgp hl)
  have ecap : (2 : Int) ≤ (cap : Int) := by omega
  obtain ⟨C, hC⟩ : ∃ C : World → Prop, C = Cells w2 [((⟨g, J * 6 + 2, none⟩ : Addr), (.int .i64 a : Value)), ((⟨g, J * 6 + 8, none⟩ : Addr), (.int .i64 b : Value))] := ⟨_, rfl⟩
  have HC0 : Hid (C w2) := Lib.hid (by rw [hC]; exact ⟨(hl.2 2 _ rfl), (hl.2 8 _ rfl), Fr.refl _ _⟩)
  have T0 : ∀ Z, C Z → Z.cell? ⟨g, J * 6 + 2, none⟩ = some (.int .i64 a) := fun Z h => by rw [hC] at h; exact h.1
  have T1 : ∀ Z, C Z → Z.cell? ⟨g, J * 6 + 8, none⟩ = some (.int .i64 b) := fun Z h => by rw [hC] at h; exact h.2.1
  have CF : Hid (∀ Z Z', C Z → Fr (fun _ => False) Z Z' → C Z') := Lib.hid (fun Z Z' h k => by rw [hC] at h ⊢; exact h.fr k)
  have TF : Hid (∀ Z, C Z → Fr (fun _ => False) w2 Z) := Lib.hid (fun Z h => by rw [hC] at h; exact h.frame)
  clear hC
  clear TK f2 hl hgp hcap
  go_wp2_with fail
  refine wp_region_class (C := C) (by kernel_rfl) (by kernel_rfl) (CF.out _ _ HC0.out ((Fr.refl _ _).drew)) ?_
  repeat
    first
      | (refine quiet_no (by rfl) ?_
         try simp only [Act.put, List.setIfInBounds_toArray, List.set_cons_zero, List.set_cons_succ])
      | (refine quiet_yes ?_ (by rfl) (fun Z hZ => ?_) ?_
         rotate_left
         · unfold qAt Oper.quietAt
           first
             | (go_simp
                (all_goals first | with_reducible rfl )
                done)
             | (have t0 := T0 Z hZ; have t1 := T1 Z hZ
                go_simp
                (all_goals with_reducible rfl)
                done)
         try simp only [Act.put, List.setIfInBounds_toArray, List.set_cons_zero, List.set_cons_succ])
  refine quiet_nil ?_
  intro Z hZ
  have FZ := Lib.hid (F2.out.trans (TF.out _ hZ))
  clear hZ HC0 CF TF F2 HL T0 T1
  clear C
  go_wp2_with fail
  go_ret
  exact ⟨rfl, fun q => absurd q (by simp), FZ.out.weaken (fun _ f => f.elim)⟩
theorem rparts_none (a b : Int) (x y : Bool) (J : Nat) (hn : L.length = J + 2) (h0 : L[J + 0]? = some (3, x, a, 0, 0, ⟨#[]⟩)) (h1 : L[J + 1]? = some (3, y, b, 0, 0, ⟨#[]⟩)) (ia : -2147483647 ≤ a ∧ a ≤ 2147483647) (ib : -2147483647 ≤ b ∧ b ≤ 2147483647) (hz : 31 < b) (ha : a = 0) :
    Calls Tryz.prog 63 #[.pointer (some ⟨p, 0, none⟩), .string ⟨#[98, 105, 116, 115, 104, 105, 102, 116]⟩] W fun e w' => RPost base p W (Pl.wholeR L 2 0) e w' := by
  have ha0 : (a == 0) = true := beq_iff_eq.2 ha
  have ha1 : (a != 0) = false := by rw [ha]; rfl
  have CG := Lib.hid (fun Z (hZ : RS base p L Z) (hbZ : base ≤ Z.heap.size) => rgiveint_any base p L Z (by omega) hZ hbZ 2 (by omega) (0))
  have HS := Lib.hid h
  have HB := Lib.hid hb
  have TK := Lib.hid (rtake2_ok base p L (W.alloc (.cells #[.int .i64 3, .int .i64 3] 3)) (by omega) (h.fresh (Fr.alloc _ _ _)) (3, x, a, 0, 0, ⟨#[]⟩) (3, y, b, 0, 0, ⟨#[]⟩) J hn h0 h1 W.heap.size 2 (Nat.le_refl _) 3 3 (.inr (.inr (.inr rfl))) (.inr (.inr (.inr rfl))) (by simp [go_sem]) (by simp [go_sem]) (by rfl) (by rfl))
  clear hlen h hn h0 h1 hb
  go_enter Tryz.func63, Tryz.ntmps63
  go_wp2_with fail
  refine TK.out.mono ?_
  rintro e w2 ⟨f2, g, cap, hgp, hl, hcap, rfl⟩
  have F2 := Lib.hid ((Fr.alloc (fun _ => False) W (.cells #[.int .i64 3, .int .i64 3] 3)).trans f2)
  have HL := Lib.hid (And.intro hgp hl)
  have ecap : (2 : Int) ≤ (cap : Int) := by omega
  obtain ⟨C, hC⟩ : ∃ C : World → Prop, C = Cells w2 [((⟨g, J * 6 + 2, none⟩ : Addr), (.int .i64 a : Value)), ((⟨g, J * 6 + 8, none⟩ : Addr), (.int .i64 b : Value))] := ⟨_, rfl⟩
  have HC0 : Hid (C w2) := Lib.hid (by rw [hC]; exact ⟨(hl.2 2 _ rfl), (hl.2 8 _ rfl), Fr.refl _ _⟩)
  have T0 : ∀ Z, C Z → Z.cell? ⟨g, J * 6 + 2, none⟩ = some (.int .i64 a) := fun Z h => by rw [hC] at h; exact h.1
  have T1 : ∀ Z, C Z → Z.cell? ⟨g, J * 6 + 8, none⟩ = some (.int .i64 b) := fun Z h => by rw [hC] at h; exact h.2.1
  have CF : Hid (∀ Z Z', C Z → Fr (fun _ => False) Z Z' → C Z') := Lib.hid (fun Z Z' h k => by rw [hC] at h ⊢; exact h.fr k)
  have TF : Hid (∀ Z, C Z → Fr (fun _ => False) w2 Z) := Lib.hid (fun Z h => by rw [hC] at h; exact h.frame)
  clear hC
  clear TK f2 hl hgp hcap
  go_wp2_with fail
  refine wp_region_class (C := C) (by kernel_rfl) (by kernel_rfl) (CF.out _ _ HC0.out ((Fr.refl _ _).drew)) ?_
  repeat
    first
      | (refine quiet_no (by rfl) ?_
         try simp only [Act.put, List.setIfInBounds_toArray, List.set_cons_zero, List.set_cons_succ])
      | (refine quiet_yes ?_ (by rfl) (fun Z hZ => ?_) ?_
         rotate_left
         · unfold qAt Oper.quietAt
           first
             | (go_simp
                (all_goals first | with_reducible rfl )
                done)
             | (have t0 := T0 Z hZ; have t1 := T1 Z hZ
                go_simp
                (all_goals with_reducible rfl)
                done)
         try simp only [Act.put, List.setIfInBounds_toArray, List.set_cons_zero, List.set_cons_succ])
  refine quiet_nil ?_
  intro Z hZ
  have FZ := Lib.hid (F2.out.trans (TF.out _ hZ))
  clear hZ HC0 CF TF F2 HL T0 T1
  clear C
  go_wp2_with fail
  refine (CG.out _ (HS.out.fresh (FZ.out)) (Nat.le_trans HB.out (FZ.out).2.2.1)).mono ?_
  rintro e w8 ⟨rfl, hs, hf⟩
  have H8 := Lib.hid (And.intro hs ((Fr.weaken (FZ.out) (fun _ f => f.elim)).trans hf))
  clear hs hf CG
  go_wp2_with fail
  go_ret
  exact ⟨rfl, fun _ => H8.out.1, H8.out.2⟩
theorem rparts_up (a b : Int) (x y : Bool) (J : Nat) (hn : L.length = J + 2) (h0 : L[J + 0]? = some (3, x, a, 0, 0, ⟨#[]⟩)) (h1 : L[J + 1]? = some (3, y, b, 0, 0, ⟨#[]⟩)) (ia : -2147483647 ≤ a ∧ a ≤ 2147483647) (ib : -2147483647 ≤ b ∧ b ≤ 2147483647) (hz : 0 ≤ b ∧ b ≤ 31) :
    Calls Tryz.prog 63 #[.pointer (some ⟨p, 0, none⟩), .string ⟨#[98, 105, 116, 115, 104, 105, 102, 116]⟩] W fun e w' => RPost base p W (Pl.wholeR L 2 (a * 2 ^ b.toNat)) e w' := by
  have hP := Pl.pow31 b.toNat (by omega)
  obtain ⟨P, hPe⟩ : ∃ P, (2 : Int) ^ b.toNat = P := ⟨_, rfl⟩
  rw [hPe] at hP ⊢
  have hc := Pl.mul_in a P ia hP
  obtain ⟨c, hce⟩ : ∃ c, a * P = c := ⟨_, rfl⟩
  rw [hce] at hc ⊢
  have CG := Lib.hid (fun Z (hZ : RS base p L Z) (hbZ : base ≤ Z.heap.size) => rgiveint_any base p L Z (by omega) hZ hbZ 2 (by omega) (c))
  have HS := Lib.hid h
  have HB := Lib.hid hb
  have TK := Lib.hid (rtake2_ok base p L (W.alloc (.cells #[.int .i64 3, .int .i64 3] 3)) (by omega) (h.fresh (Fr.alloc _ _ _)) (3, x, a, 0, 0, ⟨#[]⟩) (3, y, b, 0, 0, ⟨#[]⟩) J hn h0 h1 W.heap.size 2 (Nat.le_refl _) 3 3 (.inr (.inr (.inr rfl))) (.inr (.inr (.inr rfl))) (by simp [go_sem]) (by simp [go_sem]) (by rfl) (by rfl))
  clear hlen h hn h0 h1 hb
  go_enter Tryz.func63, Tryz.ntmps63
  go_wp2_with fail
  refine TK.out.mono ?_
  rintro e w2 ⟨f2, g, cap, hgp, hl, hcap, rfl⟩
  have F2 := Lib.hid ((Fr.alloc (fun _ => False) W (.cells #[.int .i64 3, .int .i64 3] 3)).trans f2)
  have HL := Lib.hid (And.intro hgp hl)
  have ecap : (2 : Int) ≤ (cap : Int) := by omega
  obtain ⟨C, hC⟩ : ∃ C : World → Prop, C = Cells w2 [((⟨g, J * 6 + 2, none⟩ : Addr), (.int .i64 a : Value)), ((⟨g, J * 6 + 8, none⟩ : Addr), (.int .i64 b : Value))] := ⟨_, rfl⟩
  have HC0 : Hid (C w2) := Lib.hid (by rw [hC]; exact ⟨(hl.2 2 _ rfl), (hl.2 8 _ rfl), Fr.refl _ _⟩)
  have T0 : ∀ Z, C Z → Z.cell? ⟨g, J * 6 + 2, none⟩ = some (.int .i64 a) := fun Z h => by rw [hC] at h; exact h.1
  have T1 : ∀ Z, C Z → Z.cell? ⟨g, J * 6 + 8, none⟩ = some (.int .i64 b) := fun Z h => by rw [hC] at h; exact h.2.1
  have CF : Hid (∀ Z Z', C Z → Fr (fun _ => False) Z Z' → C Z') := Lib.hid (fun Z Z' h k => by rw [hC] at h ⊢; exact h.fr k)
  have TF : Hid (∀ Z, C Z → Fr (fun _ => False) w2 Z) := Lib.hid (fun Z h => by rw [hC] at h; exact h.frame)
  clear hC
  clear TK f2 hl hgp hcap
  go_wp2_with fail
  refine wp_region_class (C := C) (by kernel_rfl) (by kernel_rfl) (CF.out _ _ HC0.out ((Fr.refl _ _).drew)) ?_
  repeat
    first
      | (refine quiet_no (by rfl) ?_
         try simp only [Act.put, List.setIfInBounds_toArray, List.set_cons_zero, List.set_cons_succ])
      | (refine quiet_yes ?_ (by rfl) (fun Z hZ => ?_) ?_
         rotate_left
         · unfold qAt Oper.quietAt
           first
             | (go_simp
                (all_goals first | with_reducible rfl )
                done)
             | (have t0 := T0 Z hZ; have t1 := T1 Z hZ
                go_simp
                (all_goals with_reducible rfl)
                done)
         try simp only [Act.put, List.setIfInBounds_toArray, List.set_cons_zero, List.set_cons_succ])
  refine quiet_nil ?_
  intro Z hZ
  have FZ := Lib.hid (F2.out.trans (TF.out _ hZ))
  clear hZ HC0 CF TF F2 HL T0 T1
  clear C
  go_wp2_with fail
  refine (CG.out _ (HS.out.fresh (FZ.out)) (Nat.le_trans HB.out (FZ.out).2.2.1)).mono ?_
  rintro e w8 ⟨rfl, hs, hf⟩
  have H8 := Lib.hid (And.intro hs ((Fr.weaken (FZ.out) (fun _ f => f.elim)).trans hf))
  clear hs hf CG
  go_wp2_with fail
  go_ret
  exact ⟨rfl, fun _ => H8.out.1, H8.out.2⟩
end
end Go.Proofs.YtfmmomdmemcbbaaGreat
