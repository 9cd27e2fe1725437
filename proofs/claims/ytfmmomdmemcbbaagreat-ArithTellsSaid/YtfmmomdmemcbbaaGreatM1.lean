/- Small words that all walks of this claim share: results by t -/
import Derived.WalkKit
import Derived.WalkSpells
import Derived.WalkLawsBesides
import Derived.Deep.QuietTactic
import Derived.BigQuiet
import Derived.ProofKit
import Derived.Lib.Hide
import Derived.Deep.RegionHeld3
import Derived.Test.YtfmmomdmemcbbaaGreatRows
namespace Go.Proofs.YtfmmomdmemcbbaaGreat
set_option linter.unusedVariables false
open Go.RowKit
theorem ret_int {k : IntKind} {a b : Int} (h : a = b) : Ending.returned (.int k a) = .returned (.int k b) := by rw [h]
theorem ret2_int {k k' : IntKind} {a b a' b' : Int} (h : a = b) (h' : a' = b') : Ending.returned (.tuple #[.int k a, .int k' a']) = .returned (.tuple #[.int k b, .int k' b']) := by rw [h, h']
theorem ret_bool {a b : Bool} (h : a = b) : Ending.returned (.bool a) = .returned (.bool b) := by rw [h]
theorem ret_ib {k : IntKind} {a b : Int} {x y : Bool} (h : a = b) (h' : x = y) : Ending.returned (.tuple #[.int k a, .bool x]) = .returned (.tuple #[.int k b, .bool y]) := by rw [h, h']
theorem grown_drewN {W w' : World} (h : Grown W w') (n : Nat) : Grown W (w'.drewN n) := h
theorem grown_trans {a b c : World} (h : Grown a b) (k : Grown b c) : Grown a c :=
  ⟨World.keptBut_trans h.1 (World.keptBut_mono (fun _ f => f) k.1), fun x => (k.2.1 x).trans (h.2.1 x), Nat.le_trans h.2.2 k.2.2⟩
end Go.Proofs.YtfmmomdmemcbbaaGreat
namespace Go.Proofs.YtfmmomdmemcbbaaGreat
set_option linter.unusedVariables false
open Go.RowKit
abbrev obv (k : Int) (x : Bool) (n a l : Int) (s : ByteArray) : Value := .agg #[.int .i64 k, .bool x, .int .i64 n, .int .i64 a, .int .i64 l, .string s]
theorem bare_num (k : Int) (x : Bool) (n a l : Int) (s : ByteArray) (hk : k = 2 ∨ k = 3 ∨ k = 4 ∨ k = 7 ∨ k = 10 ∨ k = 11) (w : World) :
    Calls Tryz.prog 30 #[obv k x n a l s] w fun e w' => e = .returned (obv k false 0 a l s) ∧ Grown w w' := by
  rcases hk with rfl | rfl | rfl | rfl | rfl | rfl
  all_goals
    go_enter Tryz.func30, Tryz.ntmps30
    go_wp2
    exact bodyPost_ret (v := obv _ false 0 a l s) (by simp [results, Tryz.results30, go_sem]) rfl ⟨rfl, by repeat (first | exact Grown.refl _ | apply Grown.drew | apply Grown.alloc)⟩
theorem bare_name (x : Bool) (n a l : Int) (s : ByteArray) (w : World) :
    Calls Tryz.prog 30 #[obv 5 x n a l s] w fun e w' => e = .returned (obv 5 false n a l ⟨#[]⟩) ∧ Grown w w' := by
  go_enter Tryz.func30, Tryz.ntmps30
  go_wp2
  exact bodyPost_ret (v := obv 5 false n a l ⟨#[]⟩) (by simp [results, Tryz.results30, go_sem]) rfl ⟨rfl, by repeat (first | exact Grown.refl _ | apply Grown.drew | apply Grown.alloc)⟩
theorem bare_row (k : Int) (x : Bool) (n a l : Int) (s : ByteArray) (hk : k = 8 ∨ k = 9) (w : World) :
    Calls Tryz.prog 30 #[obv k x n a l s] w fun e w' => e = .returned (obv k false 0 0 0 s) ∧ Grown w w' := by
  rcases hk with rfl | rfl
  all_goals
    go_enter Tryz.func30, Tryz.ntmps30
    go_wp2
    exact bodyPost_ret (v := obv _ false 0 0 0 s) (by simp [results, Tryz.results30, go_sem]) rfl ⟨rfl, by repeat (first | exact Grown.refl _ | apply Grown.drew | apply Grown.alloc)⟩
theorem bare_else (k : Int) (x : Bool) (n a l : Int) (s : ByteArray) (hk : ¬ (k = 2 ∨ k = 3 ∨ k = 4 ∨ k = 5 ∨ k = 7 ∨ k = 8 ∨ k = 9 ∨ k = 10 ∨ k = 11)) (w : World) :
    Calls Tryz.prog 30 #[obv k x n a l s] w fun e w' => e = .returned (obv k false n a l s) ∧ Grown w w' := by
  have k2 : (k == 2) = false := beq_eq_false_iff_ne.2 (by omega)
  have k3 : (k == 3) = false := beq_eq_false_iff_ne.2 (by omega)
  have k4 : (k == 4) = false := beq_eq_false_iff_ne.2 (by omega)
  have k5 : (k == 5) = false := beq_eq_false_iff_ne.2 (by omega)
  have k7 : (k == 7) = false := beq_eq_false_iff_ne.2 (by omega)
  have k8 : (k == 8) = false := beq_eq_false_iff_ne.2 (by omega)
  have k9 : (k == 9) = false := beq_eq_false_iff_ne.2 (by omega)
  have k10 : (k == 10) = false := beq_eq_false_iff_ne.2 (by omega)
  have k11 : (k == 11) = false := beq_eq_false_iff_ne.2 (by omega)
  clear hk
  go_enter Tryz.func30, Tryz.ntmps30
  go_wp2
  exact bodyPost_ret (v := obv k false n a l s) (by simp [results, Tryz.results30, go_sem]) rfl ⟨rfl, by repeat (first | exact Grown.refl _ | apply Grown.drew | apply Grown.alloc)⟩
end Go.Proofs.YtfmmomdmemcbbaaGreat
namespace Go.Proofs.YtfmmomdmemcbbaaGreat
set_option linter.unusedVariables false
open Go.RowKit
section
variable {P : Program} {ops : Array Oper} {rest : List Oper} {o : Oper} {a : Act} {w : World} {Q : Exit → Act → World → Prop}
theorem wpList_build_to (hg : o.guard = none) (t : TypeId) (parts : Array (Nat × Operand)) (ho : o.op = .build t parts) (A : Array Value)
    (hf : P.built t (parts.map fun (i, x) => (i, a.eval x)).toList = some A)
    (h : wpList P ops Q rest (a.put o.dst (.agg A)) w) : wpList P ops Q (o :: rest) a w :=
  wpList_build hg t parts ho (by rw [hf]; rfl) (by rw [hf]; exact h)
theorem wpList_alloc_to (hg : o.guard = none) (t : TypeId) (ho : o.op = .alloc t) (Z : Array Value)
    (hr : (Instr.alloc t true (.tuple #[])).run P w = .ok (.pointer (some ⟨w.heap.size, 0, none⟩)) (w.alloc (.cells Z t)))
    (h : wpList P ops Q rest (a.put o.dst (.pointer (some ⟨w.heap.size, 0, none⟩))) (w.alloc (.cells Z t))) : wpList P ops Q (o :: rest) a w := by
  refine wpList_plain hg fun _ hK => ?_
  unfold Oper.wp execOp
  simp only [ho, Sem.run_bind, hr, Result.andThen_ok]
  exact hK _ _ h
theorem setRow_new (w : World) (Z A : Array Value) (t : TypeId) : (w.alloc (.cells Z t)).setRow w.heap.size A = w.alloc (.cells A t) := by
  unfold World.setRow World.alloc
  congr 1
  apply Array.ext
  · simp
  · intro i h1 h2
    simp only [Array.getElem_modify]
    by_cases e : w.heap.size = i
    · subst e; simp
    · rw [if_neg e]
      have : i < w.heap.size := by simp at h2; omega
      simp [Array.getElem_push, this]
theorem wpList_store_new (hgd : o.guard = none) (ty : TypeId) (x y : Operand) (ho : o.op = .store ty x y)
    (Z A : Array Value) (hx : a.eval x = .pointer (some ⟨w.heap.size, 0, none⟩)) (hy : a.eval y = .agg A)
    (hi : (P.info? ty).map (·.size) = some A.size) (hold : Z.size = A.size) (h1 : A.all (·.oneCell') = true)
    (h : wpList P ops Q rest (a.put o.dst undef) (w.alloc (.cells A ty))) : wpList P ops Q (o :: rest) a (w.alloc (.cells Z ty)) := by
  refine wpList_store_row hgd ty x y ho w.heap.size A hx hy ty Z (heap_alloc_new w _) hi hold h1 ?_
  rw [setRow_new]
  exact h
end
theorem grown_cell {W w' : World} (h : Grown W w') {b off : Nat} {v : Value} (hc : W.cell? ⟨b, off, none⟩ = some v) : w'.cell? ⟨b, off, none⟩ = some v := by
  have hb : b < W.heap.size := block_lt_of_cell hc
  rw [h.1.cell hb (fun h => h)]
  exact hc
end Go.Proofs.YtfmmomdmemcbbaaGreat
namespace Go.Proofs.YtfmmomdmemcbbaaGreat
set_option linter.unusedVariables false
open Go.RowKit
abbrev ObS (w0 : World) (b : Nat) (k : Int) (x : Bool) (n a l : Int) (s : ByteArray) (W : World) : Prop :=
  W.cell? ⟨b, 0, none⟩ = some (.int .i64 k) ∧ W.cell? ⟨b, 1, none⟩ = some (.bool x) ∧ W.cell? ⟨b, 2, none⟩ = some (.int .i64 n) ∧ W.cell? ⟨b, 3, none⟩ = some (.int .i64 a) ∧ W.cell? ⟨b, 4, none⟩ = some (.int .i64 l) ∧ W.cell? ⟨b, 5, none⟩ = some (.string s) ∧ Grown w0 W
theorem ObS.grow {w0 W W' : World} {b : Nat} {k : Int} {x : Bool} {n a l : Int} {s : ByteArray} (h : ObS w0 b k x n a l s W) (hg : Grown W W') : ObS w0 b k x n a l s W' :=
  ⟨grown_cell hg h.1, grown_cell hg h.2.1, grown_cell hg h.2.2.1, grown_cell hg h.2.2.2.1, grown_cell hg h.2.2.2.2.1, grown_cell hg h.2.2.2.2.2.1, grown_trans h.2.2.2.2.2.2 hg⟩
theorem may_int_yes (x : Bool) (n : Int) (h1 : -2147483647 ≤ n) (h2 : n ≤ 2147483647) (w : World) :
    Calls Tryz.prog 16 #[obv 3 x n 0 0 ⟨#[]⟩] w fun e w' => e = Ending.returned (.bool true) ∧ Grown w w' := by
  have CB := Lib.hid (fun (W : World) (h : ObS w w.heap.size 3 x n 0 0 ⟨#[]⟩ W) => (bare_num 3 x n 0 0 ⟨#[]⟩ (by omega) W).mono fun e W' ⟨he, hg⟩ => (⟨he, h.grow hg⟩ : e = Ending.returned (obv 3 false 0 0 0 ⟨#[]⟩) ∧ ObS w w.heap.size 3 x n 0 0 ⟨#[]⟩ W'))
  go_enter Tryz.func16, Tryz.ntmps16
  go_wp2_with fail
  go_region_held3 (fun W => W.cell? ⟨w.heap.size, 0, none⟩ = some (.int .i64 3) ∧ W.cell? ⟨w.heap.size, 1, none⟩ = some (.bool x) ∧ W.cell? ⟨w.heap.size, 2, none⟩ = some (.int .i64 n) ∧ W.cell? ⟨w.heap.size, 3, none⟩ = some (.int .i64 0) ∧ W.cell? ⟨w.heap.size, 4, none⟩ = some (.int .i64 0) ∧ W.cell? ⟨w.heap.size, 5, none⟩ = some (.string ⟨#[]⟩) ∧ Grown w W)
    (first | assumption | (refine ⟨by simp [go_sem], by simp [go_sem], by simp [go_sem], by simp [go_sem], by simp [go_sem], by simp [go_sem], ?_⟩; exact Grown.drew ((Grown.refl w).alloc _ _)))
    (first | (go_at_call 30; refine (CB.out _ ?_).mono ?_; (assumption); rintro e w' ⟨rfl, hS⟩))
  generalize hid : w.heap.size = b at *
  go_wp2
  go_ret
  exact ⟨ret_bool (by first | rfl | (rw [decide_eq_true_eq]; omega) | (rw [decide_eq_false_iff_not]; omega)), (‹ObS w _ _ _ _ _ _ _ _› : ObS w _ 3 x n 0 0 ⟨#[]⟩ _).2.2.2.2.2.2⟩
theorem may_int_low (x : Bool) (n : Int) (h1 : n < -2147483647) (w : World) :
    Calls Tryz.prog 16 #[obv 3 x n 0 0 ⟨#[]⟩] w fun e w' => e = Ending.returned (.bool false) ∧ Grown w w' := by
  have CB := Lib.hid (fun (W : World) (h : ObS w w.heap.size 3 x n 0 0 ⟨#[]⟩ W) => (bare_num 3 x n 0 0 ⟨#[]⟩ (by omega) W).mono fun e W' ⟨he, hg⟩ => (⟨he, h.grow hg⟩ : e = Ending.returned (obv 3 false 0 0 0 ⟨#[]⟩) ∧ ObS w w.heap.size 3 x n 0 0 ⟨#[]⟩ W'))
  go_enter Tryz.func16, Tryz.ntmps16
  go_wp2_with fail
  go_region_held3 (fun W => W.cell? ⟨w.heap.size, 0, none⟩ = some (.int .i64 3) ∧ W.cell? ⟨w.heap.size, 1, none⟩ = some (.bool x) ∧ W.cell? ⟨w.heap.size, 2, none⟩ = some (.int .i64 n) ∧ W.cell? ⟨w.heap.size, 3, none⟩ = some (.int .i64 0) ∧ W.cell? ⟨w.heap.size, 4, none⟩ = some (.int .i64 0) ∧ W.cell? ⟨w.heap.size, 5, none⟩ = some (.string ⟨#[]⟩) ∧ Grown w W)
    (first | assumption | (refine ⟨by simp [go_sem], by simp [go_sem], by simp [go_sem], by simp [go_sem], by simp [go_sem], by simp [go_sem], ?_⟩; exact Grown.drew ((Grown.refl w).alloc _ _)))
    (first | (go_at_call 30; refine (CB.out _ ?_).mono ?_; (assumption); rintro e w' ⟨rfl, hS⟩))
  generalize hid : w.heap.size = b at *
  go_wp2
  go_ret
  exact ⟨ret_bool (by first | rfl | (rw [decide_eq_true_eq]; omega) | (rw [decide_eq_false_iff_not]; omega)), (‹ObS w _ _ _ _ _ _ _ _› : ObS w _ 3 x n 0 0 ⟨#[]⟩ _).2.2.2.2.2.2⟩
theorem may_int_high (x : Bool) (n : Int) (h1 : -2147483647 ≤ n) (h2 : 2147483647 < n) (w : World) :
    Calls Tryz.prog 16 #[obv 3 x n 0 0 ⟨#[]⟩] w fun e w' => e = Ending.returned (.bool false) ∧ Grown w w' := by
  have CB := Lib.hid (fun (W : World) (h : ObS w w.heap.size 3 x n 0 0 ⟨#[]⟩ W) => (bare_num 3 x n 0 0 ⟨#[]⟩ (by omega) W).mono fun e W' ⟨he, hg⟩ => (⟨he, h.grow hg⟩ : e = Ending.returned (obv 3 false 0 0 0 ⟨#[]⟩) ∧ ObS w w.heap.size 3 x n 0 0 ⟨#[]⟩ W'))
  go_enter Tryz.func16, Tryz.ntmps16
  go_wp2_with fail
  go_region_held3 (fun W => W.cell? ⟨w.heap.size, 0, none⟩ = some (.int .i64 3) ∧ W.cell? ⟨w.heap.size, 1, none⟩ = some (.bool x) ∧ W.cell? ⟨w.heap.size, 2, none⟩ = some (.int .i64 n) ∧ W.cell? ⟨w.heap.size, 3, none⟩ = some (.int .i64 0) ∧ W.cell? ⟨w.heap.size, 4, none⟩ = some (.int .i64 0) ∧ W.cell? ⟨w.heap.size, 5, none⟩ = some (.string ⟨#[]⟩) ∧ Grown w W)
    (first | assumption | (refine ⟨by simp [go_sem], by simp [go_sem], by simp [go_sem], by simp [go_sem], by simp [go_sem], by simp [go_sem], ?_⟩; exact Grown.drew ((Grown.refl w).alloc _ _)))
    (first | (go_at_call 30; refine (CB.out _ ?_).mono ?_; (assumption); rintro e w' ⟨rfl, hS⟩))
  generalize hid : w.heap.size = b at *
  go_wp2
  go_ret
  exact ⟨ret_bool (by first | rfl | (rw [decide_eq_true_eq]; omega) | (rw [decide_eq_false_iff_not]; omega)), (‹ObS w _ _ _ _ _ _ _ _› : ObS w _ 3 x n 0 0 ⟨#[]⟩ _).2.2.2.2.2.2⟩
theorem may_fix_yes (x : Bool) (n : Int) (h1 : -1073741823 ≤ n) (h2 : n ≤ 1073741823) (w : World) :
    Calls Tryz.prog 16 #[obv 4 x n 0 0 ⟨#[]⟩] w fun e w' => e = Ending.returned (.bool true) ∧ Grown w w' := by
  have CB := Lib.hid (fun (W : World) (h : ObS w w.heap.size 4 x n 0 0 ⟨#[]⟩ W) => (bare_num 4 x n 0 0 ⟨#[]⟩ (by omega) W).mono fun e W' ⟨he, hg⟩ => (⟨he, h.grow hg⟩ : e = Ending.returned (obv 4 false 0 0 0 ⟨#[]⟩) ∧ ObS w w.heap.size 4 x n 0 0 ⟨#[]⟩ W'))
  go_enter Tryz.func16, Tryz.ntmps16
  go_wp2_with fail
  go_region_held3 (fun W => W.cell? ⟨w.heap.size, 0, none⟩ = some (.int .i64 4) ∧ W.cell? ⟨w.heap.size, 1, none⟩ = some (.bool x) ∧ W.cell? ⟨w.heap.size, 2, none⟩ = some (.int .i64 n) ∧ W.cell? ⟨w.heap.size, 3, none⟩ = some (.int .i64 0) ∧ W.cell? ⟨w.heap.size, 4, none⟩ = some (.int .i64 0) ∧ W.cell? ⟨w.heap.size, 5, none⟩ = some (.string ⟨#[]⟩) ∧ Grown w W)
    (first | assumption | (refine ⟨by simp [go_sem], by simp [go_sem], by simp [go_sem], by simp [go_sem], by simp [go_sem], by simp [go_sem], ?_⟩; exact Grown.drew ((Grown.refl w).alloc _ _)))
    (first | (go_at_call 30; refine (CB.out _ ?_).mono ?_; (assumption); rintro e w' ⟨rfl, hS⟩))
  generalize hid : w.heap.size = b at *
  go_wp2
  go_ret
  exact ⟨ret_bool (by first | rfl | (rw [decide_eq_true_eq]; omega) | (rw [decide_eq_false_iff_not]; omega)), (‹ObS w _ _ _ _ _ _ _ _› : ObS w _ 4 x n 0 0 ⟨#[]⟩ _).2.2.2.2.2.2⟩
theorem may_fix_low (x : Bool) (n : Int) (h1 : n < -1073741823) (w : World) :
    Calls Tryz.prog 16 #[obv 4 x n 0 0 ⟨#[]⟩] w fun e w' => e = Ending.returned (.bool false) ∧ Grown w w' := by
  have CB := Lib.hid (fun (W : World) (h : ObS w w.heap.size 4 x n 0 0 ⟨#[]⟩ W) => (bare_num 4 x n 0 0 ⟨#[]⟩ (by omega) W).mono fun e W' ⟨he, hg⟩ => (⟨he, h.grow hg⟩ : e = Ending.returned (obv 4 false 0 0 0 ⟨#[]⟩) ∧ ObS w w.heap.size 4 x n 0 0 ⟨#[]⟩ W'))
  go_enter Tryz.func16, Tryz.ntmps16
  go_wp2_with fail
  go_region_held3 (fun W => W.cell? ⟨w.heap.size, 0, none⟩ = some (.int .i64 4) ∧ W.cell? ⟨w.heap.size, 1, none⟩ = some (.bool x) ∧ W.cell? ⟨w.heap.size, 2, none⟩ = some (.int .i64 n) ∧ W.cell? ⟨w.heap.size, 3, none⟩ = some (.int .i64 0) ∧ W.cell? ⟨w.heap.size, 4, none⟩ = some (.int .i64 0) ∧ W.cell? ⟨w.heap.size, 5, none⟩ = some (.string ⟨#[]⟩) ∧ Grown w W)
    (first | assumption | (refine ⟨by simp [go_sem], by simp [go_sem], by simp [go_sem], by simp [go_sem], by simp [go_sem], by simp [go_sem], ?_⟩; exact Grown.drew ((Grown.refl w).alloc _ _)))
    (first | (go_at_call 30; refine (CB.out _ ?_).mono ?_; (assumption); rintro e w' ⟨rfl, hS⟩))
  generalize hid : w.heap.size = b at *
  go_wp2
  go_ret
  exact ⟨ret_bool (by first | rfl | (rw [decide_eq_true_eq]; omega) | (rw [decide_eq_false_iff_not]; omega)), (‹ObS w _ _ _ _ _ _ _ _› : ObS w _ 4 x n 0 0 ⟨#[]⟩ _).2.2.2.2.2.2⟩
theorem may_fix_high (x : Bool) (n : Int) (h1 : -1073741823 ≤ n) (h2 : 1073741823 < n) (w : World) :
    Calls Tryz.prog 16 #[obv 4 x n 0 0 ⟨#[]⟩] w fun e w' => e = Ending.returned (.bool false) ∧ Grown w w' := by
  have CB := Lib.hid (fun (W : World) (h : ObS w w.heap.size 4 x n 0 0 ⟨#[]⟩ W) => (bare_num 4 x n 0 0 ⟨#[]⟩ (by omega) W).mono fun e W' ⟨he, hg⟩ => (⟨he, h.grow hg⟩ : e = Ending.returned (obv 4 false 0 0 0 ⟨#[]⟩) ∧ ObS w w.heap.size 4 x n 0 0 ⟨#[]⟩ W'))
  go_enter Tryz.func16, Tryz.ntmps16
  go_wp2_with fail
  go_region_held3 (fun W => W.cell? ⟨w.heap.size, 0, none⟩ = some (.int .i64 4) ∧ W.cell? ⟨w.heap.size, 1, none⟩ = some (.bool x) ∧ W.cell? ⟨w.heap.size, 2, none⟩ = some (.int .i64 n) ∧ W.cell? ⟨w.heap.size, 3, none⟩ = some (.int .i64 0) ∧ W.cell? ⟨w.heap.size, 4, none⟩ = some (.int .i64 0) ∧ W.cell? ⟨w.heap.size, 5, none⟩ = some (.string ⟨#[]⟩) ∧ Grown w W)
    (first | assumption | (refine ⟨by simp [go_sem], by simp [go_sem], by simp [go_sem], by simp [go_sem], by simp [go_sem], by simp [go_sem], ?_⟩; exact Grown.drew ((Grown.refl w).alloc _ _)))
    (first | (go_at_call 30; refine (CB.out _ ?_).mono ?_; (assumption); rintro e w' ⟨rfl, hS⟩))
  generalize hid : w.heap.size = b at *
  go_wp2
  go_ret
  exact ⟨ret_bool (by first | rfl | (rw [decide_eq_true_eq]; omega) | (rw [decide_eq_false_iff_not]; omega)), (‹ObS w _ _ _ _ _ _ _ _› : ObS w _ 4 x n 0 0 ⟨#[]⟩ _).2.2.2.2.2.2⟩
end Go.Proofs.YtfmmomdmemcbbaaGreat
