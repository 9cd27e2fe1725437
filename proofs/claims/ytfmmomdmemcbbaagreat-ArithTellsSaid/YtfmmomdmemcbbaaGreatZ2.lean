/- Numbers in the reference of layer 18: what Num, Less and the -/
import Derived.Test.YtfmmomdmemcbbaaGreatZ1
import Derived.Test.YtfmmomdmemcbbaaGreatM7
import Derived.Test.YtfmmomdmemcbbaaGreatM8
namespace Go.Proofs.YtfmmomdmemcbbaaGreat
set_option linter.unusedVariables false
open Go.RowKit
theorem rnum_obj (o : Pl.Ob) (hm : Pl.mayO o) (hk : o.1 = 3 ∨ o.1 = 4) (W : World) :
    Calls Tryz.prog 90 #[Pl.ov o] W fun e w' => e = .returned (.tuple #[.int .i64 (Pl.numv o).1, .bool (Pl.numv o).2]) ∧ Grown W w' := by
  obtain ⟨x, ho, h3, h4⟩ := Pl.mayO_num hm hk
  obtain ⟨k, x2, n, a, l, s⟩ := o
  simp only at ho hk h3 h4
  rcases hk with rfl | rfl
  · unfold Pl.numv
    rw [if_pos rfl]
    by_cases hr : -16383 ≤ n ∧ n ≤ 16383
    · rw [if_pos hr]
      exact rnum_3 x2 n a l s _ _ (Lib.hid fun W => r3from_ok n hr W) W
    · rw [if_neg hr]
      exact rnum_3 x2 n a l s _ _ (Lib.hid fun W => r3from_no n hr W) W
  · unfold Pl.numv
    rw [if_neg (by simp)]
    have := h4 rfl
    unfold Pl.inFix at this
    exact rnum_4 x2 n a l s this W
theorem rless_num (k : Int) (x : Bool) (n : Int) (h : Pl.isn k n) (k' : Int) (x' : Bool) (n' : Int) (h' : Pl.isn k' n') (W : World) :
    Calls Tryz.prog 105 #[obv k x n 0 0 ⟨#[]⟩, obv k' x' n' 0 0 ⟨#[]⟩] W fun e w' => e = Ending.returned (.tuple #[.bool (decide (Pl.sz k n < Pl.sz k' n')), .bool true]) ∧ Grown W w' :=
  rless_both k x n 0 0 ⟨#[]⟩ k' x' n' 0 0 ⟨#[]⟩ _ _ (Lib.hid fun Z => rnumber_any k x n 0 0 ⟨#[]⟩ true ⟨fun _ => ⟨h, rfl, rfl, rfl⟩, fun _ => rfl⟩ Z) (Lib.hid fun Z => rnumber_any k' x' n' 0 0 ⟨#[]⟩ true ⟨fun _ => ⟨h', rfl, rfl, rfl⟩, fun _ => rfl⟩ Z)
    (Lib.hid fun Z => rsize_num k x n 0 0 ⟨#[]⟩ h Z) (Lib.hid fun Z => rsize_num k' x' n' 0 0 ⟨#[]⟩ h' Z) W
section
variable (x y : Int) (hx : Pl.fx x) (hy : Pl.fx y) (W : World)
include hx hy
theorem rf2_add : Calls Tryz.prog 91 #[.int .i64 x, .int .i64 y] W fun e w' => e = .returned (.tuple #[.int .i64 (Pl.f2 11 x y).1, .bool (Pl.f2 11 x y).2]) ∧ Grown W w' := by
  unfold Pl.f2
  rw [if_pos rfl]
  by_cases hc : Pl.inFix (x + y)
  · rw [if_pos hc]; exact radd3_by x y _ _ hx hy (Lib.hid fun w => r3held_ok _ hc w) W
  · rw [if_neg hc]; exact radd3_by x y _ _ hx hy (Lib.hid fun w => r3held_no _ hc w) W
theorem rf2_sub : Calls Tryz.prog 92 #[.int .i64 x, .int .i64 y] W fun e w' => e = .returned (.tuple #[.int .i64 (Pl.f2 12 x y).1, .bool (Pl.f2 12 x y).2]) ∧ Grown W w' := by
  unfold Pl.f2
  rw [if_neg (by decide), if_pos rfl]
  by_cases hc : Pl.inFix (x - y)
  · rw [if_pos hc]; exact rsub3_by x y _ _ hx hy (Lib.hid fun w => r3held_ok _ hc w) W
  · rw [if_neg hc]; exact rsub3_by x y _ _ hx hy (Lib.hid fun w => r3held_no _ hc w) W
theorem rf2_mul : Calls Tryz.prog 93 #[.int .i64 x, .int .i64 y] W fun e w' => e = .returned (.tuple #[.int .i64 (Pl.f2 13 x y).1, .bool (Pl.f2 13 x y).2]) ∧ Grown W w' := by
  unfold Pl.f2
  rw [if_neg (by decide), if_neg (by decide), if_pos rfl]
  obtain ⟨u, is, _, M, hv⟩ := muldiv2_ex x y 65536 (fx_i64 hx) (fx_i64 hy) (by decide)
  rcases hv with ⟨h0, h1, rfl, rfl⟩ | ⟨h1, rfl, rfl⟩
  · by_cases hc : Pl.inFix (Pl.share x y 65536)
    · rw [if_pos hc]; exact rmul3_by x y _ _ _ _ hx hy (Lib.hid M) (Lib.hid fun w => r3held_ok _ hc w) W
    · rw [if_neg hc]; exact rmul3_by x y _ _ _ _ hx hy (Lib.hid M) (Lib.hid fun w => r3held_no _ hc w) W
  · rw [if_neg (fun hc : Pl.inFix _ => h1.elim (fun e => by cases e) (fun e => e (fx_i64 hc)))]
    exact rmul3_by x y _ _ _ _ hx hy (Lib.hid M) (Lib.hid fun w => r3held_false _ w) W
theorem rf2_div (h0 : y ≠ 0) : Calls Tryz.prog 94 #[.int .i64 x, .int .i64 y] W fun e w' => e = .returned (.tuple #[.int .i64 (Pl.f2 14 x y).1, .bool (Pl.f2 14 x y).2]) ∧ Grown W w' := by
  unfold Pl.f2
  rw [if_neg (by decide), if_neg (by decide), if_neg (by decide), if_pos rfl]
  obtain ⟨u, is, _, M, hv⟩ := muldiv2_ex x 65536 y (fx_i64 hx) (by decide) (fx_i64 hy)
  rcases hv with ⟨_, h1, rfl, rfl⟩ | ⟨h1, rfl, rfl⟩
  · by_cases hc : Pl.inFix (Pl.share x 65536 y)
    · rw [if_pos ⟨h0, hc⟩]; exact rdiv3_by x y _ _ _ _ hx hy (Lib.hid M) (Lib.hid fun w => r3held_ok _ hc w) W
    · rw [if_neg (fun q => hc q.2)]; exact rdiv3_by x y _ _ _ _ hx hy (Lib.hid M) (Lib.hid fun w => r3held_no _ hc w) W
  · rw [if_neg (fun hc : y ≠ 0 ∧ Pl.inFix _ => h1.elim (fun e => h0 e) (fun e => e (fx_i64 hc.2)))]
    exact rdiv3_by x y _ _ _ _ hx hy (Lib.hid M) (Lib.hid fun w => r3held_false _ w) W
theorem rf2_dir : Calls Tryz.prog 104 #[.int .i64 x, .int .i64 y] W fun e w' => e = .returned (.tuple #[.int .i64 (Pl.f2 26 x y).1, .bool (Pl.f2 26 x y).2]) ∧ Grown W w' := by
  unfold Pl.f2
  rw [if_neg (by decide), if_neg (by decide), if_neg (by decide), if_neg (by decide)]
  by_cases h : x = 0 ∧ y = 0
  · rw [if_pos h]; exact dir4_no x y (.inl h) W
  · rw [if_neg h]; exact dir4_ok x y hx hy h W
end
end Go.Proofs.YtfmmomdmemcbbaaGreat
