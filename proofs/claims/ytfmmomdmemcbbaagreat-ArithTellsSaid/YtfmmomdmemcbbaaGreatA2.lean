/- The walk of hand.Take of one operand, and of two. -/
import Derived.Deep.QuietTactic
import Derived.Test.YtfmmomdmemcbbaaGreatM5
set_option maxHeartbeats 4000000
set_option maxRecDepth 100000
namespace Go.Proofs.YtfmmomdmemcbbaaGreat
set_option linter.unusedVariables false
open Go.RowKit
def ObAt (g : Nat) (i : Nat) (o : Pl.Ob) (W : World) : Prop := ∀ j u, (Pl.oc o)[j]? = some u → W.cell? ⟨g, 6 * i + j, none⟩ = some u
theorem ObAt.grown {W W' : World} {g i : Nat} {o : Pl.Ob} (h : ObAt g i o W) (hg : Grown W W') : ObAt g i o W' := fun j u hu => grown_cell hg (h j u hu)
theorem make_two (w : World) : (Instr.makeSlice 22 (.int .i64 2) (.int .i64 2)).run Tryz.prog w = .ok (.slice (some ⟨w.heap.size, 0, none⟩) 2 2) (w.alloc (.cells #[.int .i64 0, .bool false, .int .i64 0, .int .i64 0, .int .i64 0, .string ⟨#[]⟩, .int .i64 0, .bool false, .int .i64 0, .int .i64 0, .int .i64 0, .string ⟨#[]⟩] 25)) := by
  obtain ⟨i0, hi, hz0, hz1, hz2⟩ := info_parts Tryz.objInfo
  have h := run_make (P := Tryz.prog) w 22 25 i0 _ Tryz.underlying22 hi hz0 .i64 .i64 2 2 (by omega) (by omega) (by rw [hz2]; omega) (by omega)
  rw [hz1] at h
  have hm : madeCells (obv 0 false 0 0 0 ⟨#[]⟩).cells 12 = #[.int .i64 0, .bool false, .int .i64 0, .int .i64 0, .int .i64 0, .string ⟨#[]⟩, .int .i64 0, .bool false, .int .i64 0, .int .i64 0, .int .i64 0, .string ⟨#[]⟩] := by
    apply Array.ext_getElem?
    intro j
    rcases Nat.lt_or_ge j 12 with hj | hj
    · rcases (show j = 0 ∨ j = 1 ∨ j = 2 ∨ j = 3 ∨ j = 4 ∨ j = 5 ∨ j = 6 ∨ j = 7 ∨ j = 8 ∨ j = 9 ∨ j = 10 ∨ j = 11 by omega) with rfl | rfl | rfl | rfl | rfl | rfl | rfl | rfl | rfl | rfl | rfl | rfl <;> simp [madeCells, Value.cells]
    · rw [Array.getElem?_eq_none (by rw [size_madeCells]; exact hj), Array.getElem?_eq_none (by exact hj)]
  rw [show (2 : Int).toNat * 6 = 12 from rfl, hm] at h
  exact h
theorem ObAt.cells0 {g : Nat} {k n a l : Int} {x : Bool} {s : ByteArray} {W : World} (h : ObAt g 0 (k, x, n, a, l, s) W) : W.cell? ⟨g, 0, none⟩ = some (.int .i64 k) ∧ W.cell? ⟨g, 1, none⟩ = some (.bool x) ∧ W.cell? ⟨g, 2, none⟩ = some (.int .i64 n) ∧ W.cell? ⟨g, 3, none⟩ = some (.int .i64 a) ∧ W.cell? ⟨g, 4, none⟩ = some (.int .i64 l) ∧ W.cell? ⟨g, 5, none⟩ = some (.string s) :=
  ⟨h 0 _ rfl, h 1 _ rfl, h 2 _ rfl, h 3 _ rfl, h 4 _ rfl, h 5 _ rfl⟩
abbrev Rd6 (W : World) (g o0 o1 o2 o3 o4 o5 b bo : Nat) (k : Int) (x : Bool) (n a l : Int) (s : ByteArray) (kinds : Int) (A : List Value) (Z : World) : Prop := Z.cell? ⟨g, o0, none⟩ = some (.int .i64 k) ∧ Z.cell? ⟨g, o1, none⟩ = some (.bool x) ∧ Z.cell? ⟨g, o2, none⟩ = some (.int .i64 n) ∧ Z.cell? ⟨g, o3, none⟩ = some (.int .i64 a) ∧ Z.cell? ⟨g, o4, none⟩ = some (.int .i64 l) ∧ Z.cell? ⟨g, o5, none⟩ = some (.string s) ∧ Z.cell? ⟨b, bo, none⟩ = some (.int .i64 kinds) ∧ Blk W g A Z ∧ Grown W Z
theorem Rd6.grown {W Z Z' : World} {g o0 o1 o2 o3 o4 o5 b bo : Nat} {k n a l kinds : Int} {x : Bool} {s : ByteArray} {A : List Value} (h : Rd6 W g o0 o1 o2 o3 o4 o5 b bo k x n a l s kinds A Z) (q : Grown Z Z') : Rd6 W g o0 o1 o2 o3 o4 o5 b bo k x n a l s kinds A Z' := by
  obtain ⟨c0, c1, c2, c3, c4, c5, hb, hB, hG⟩ := h
  exact ⟨grown_cell q c0, grown_cell q c1, grown_cell q c2, grown_cell q c3, grown_cell q c4, grown_cell q c5, grown_cell q hb, hB.grow q, grown_trans hG q⟩
section
variable (W0 : World) (Pr : Nat → Prop) (p : Nat) (L : List Pl.Ob) (W : World) (hlen : L.length ≤ 200) (h : Stk W0 Pr p L W)
include h hlen
omit hlen in
theorem take1_under (hL : L.length < 1) (b : Nat) (c : Nat) :
    Calls Tryz.prog 22 #[.pointer (some ⟨p, 0, none⟩), .slice (some ⟨b, 0, none⟩) 1 c] W fun e w' => e = .returned (.tuple #[.slice none 0 0, .int .i64 7]) ∧ w' = W := by
  have HL := Lib.hid (stk_len W0 Pr p L W h)
  obtain ⟨M, hM⟩ : ∃ M, M = L.length := ⟨_, rfl⟩
  rw [← hM] at HL hL
  clear hM h
  have hlt : (M : Int) < 1 := by omega
  go_enter Tryz.func22, Tryz.ntmps22
  go_wp2_with fail
  refine HL.out.mono ?_
  rintro e w' ⟨rfl, rfl⟩
  go_wp2_with fail
  go_ret2
  exact ⟨rfl, rfl⟩
theorem take1_ok (o : Pl.Ob) (ho : L.reverse[0]? = some o) (hm : 1 ≤ o.1 ∧ o.1 ≤ 11) (b : Nat) (c : Nat) (hc : 1 ≤ c) (kinds : Int) (hk : W.cell? ⟨b, 0, none⟩ = some (.int .i64 kinds)) (hf : Pl.fits kinds o.1 = true) :
    Calls Tryz.prog 22 #[.pointer (some ⟨p, 0, none⟩), .slice (some ⟨b, 0, none⟩) 1 c] W fun e w' => Grown W w' ∧ ∃ g, Blk W g (Pl.oc o) w' ∧ e = .returned (.tuple #[.slice (some ⟨g, 0, none⟩) 1 1, .int .i64 0]) := by
  have HL := Lib.hid (stk_len W0 Pr p L W h)
  have hl1 : 1 ≤ L.length := by
    have := (List.getElem?_eq_some_iff.1 ho).1
    rw [List.length_reverse] at this
    omega
  have HP := Lib.hid (fun W' (hS : Stk W0 Pr p L W') => stk_peek W0 Pr p L W' hS 0 o ho (by omega))
  have HI0 := Lib.hid (fun W' => is_any o kinds hm W')
  rw [hf] at HI0
  obtain ⟨M, hM⟩ : ∃ M, M = L.length := ⟨_, rfl⟩
  rw [← hM] at HL hlen hl1
  clear hM
  have HS := Lib.hid h
  have HK := Lib.hid hk
  clear hf h ho hm hk
  have hmk := fun Z => make_one Z
  have hge : (1 : Int) ≤ (M : Int) := by omega
  obtain ⟨k0, x0, n0, a0, l0, s0⟩ := o
  go_enter Tryz.func22, Tryz.ntmps22
  go_wp2_with fail
  refine HL.out.mono ?_
  rintro e w' ⟨rfl, rfl⟩
  go_wp2_with fail
  refine wp_loop_rounds 2 ?_
  rw [rounds_succ]
  go_wp2_with fail
  refine (HP.out _ (HS.out.grown ((Grown.refl _).alloc _ _))).mono ?_
  rintro e w1 ⟨rfl, hs1, g1⟩
  have B1 := Lib.hid ((Blk.new (W := w') (Z := w') #[.int .i64 0, .bool false, .int .i64 0, .int .i64 0, .int .i64 0, .string ⟨#[]⟩] 25 (Nat.le_refl _)).grow g1)
  have G0 := Lib.hid (grown_trans ((Grown.refl w').alloc #[.int .i64 0, .bool false, .int .i64 0, .int .i64 0, .int .i64 0, .string ⟨#[]⟩] 25) g1)
  have hkk0 : w1.cell? ⟨b, 0, none⟩ = some (.int .i64 kinds) := grown_cell G0.out HK.out
  obtain ⟨g, hg⟩ : ∃ g, g = w'.heap.size := ⟨_, rfl⟩
  rw [← hg] at B1 ⊢
  have bg : b ≠ g := by have := block_lt_of_cell HK.out; simp at this; omega
  have hgw : w'.heap.size ≤ g := by omega
  clear hg g1 hs1 hmk HP HK
  obtain ⟨c0, c1, c2, c3, c4, c5⟩ := B1.out.at6
  have fg := B1.out.2.2.2
  go_wp2_with fail
  generalize hZ0 : World.setCell _ _ _ = Z0
  have HT0 : Hid (Rd6 w' g 0 1 2 3 4 5 b 0 k0 x0 n0 a0 l0 s0 kinds [.int .i64 k0, .bool x0, .int .i64 n0, .int .i64 a0, .int .i64 l0, .string s0] Z0) := Lib.hid (by
    have hB : Blk w' g [.int .i64 k0, .bool x0, .int .i64 n0, .int .i64 a0, .int .i64 l0, .string s0] Z0 := by rw [← hZ0]; exact B1.out.six
    refine ⟨hB.at 0 _ rfl, hB.at 1 _ rfl, hB.at 2 _ rfl, hB.at 3 _ rfl, hB.at 4 _ rfl, hB.at 5 _ rfl, ?_, hB, ?_⟩
    · rw [← hZ0]
      exact (cell_six bg).trans hkk0
    · rw [← hZ0]; exact grown_six (o := 0) G0.out (by omega))
  clear hZ0 B1 G0 hkk0 c0 c1 c2 c3 c4 c5 fg
  have LI0 := Lib.hid (fun Z (h : Rd6 w' g 0 1 2 3 4 5 b 0 k0 x0 n0 a0 l0 s0 kinds [.int .i64 k0, .bool x0, .int .i64 n0, .int .i64 a0, .int .i64 l0, .string s0] Z) => (HI0.out Z).mono fun en w'' hh => (⟨hh.1, h.grown hh.2⟩ : _ ∧ Rd6 w' g 0 1 2 3 4 5 b 0 k0 x0 n0 a0 l0 s0 kinds [.int .i64 k0, .bool x0, .int .i64 n0, .int .i64 a0, .int .i64 l0, .string s0] w''))
  clear HI0
  go_region_held3 (fun Z => Z.cell? ⟨g, 0, none⟩ = some (.int .i64 k0) ∧ Z.cell? ⟨g, 1, none⟩ = some (.bool x0) ∧ Z.cell? ⟨g, 2, none⟩ = some (.int .i64 n0) ∧ Z.cell? ⟨g, 3, none⟩ = some (.int .i64 a0) ∧ Z.cell? ⟨g, 4, none⟩ = some (.int .i64 l0) ∧ Z.cell? ⟨g, 5, none⟩ = some (.string s0) ∧ Z.cell? ⟨b, 0, none⟩ = some (.int .i64 kinds) ∧ Blk w' g [.int .i64 k0, .bool x0, .int .i64 n0, .int .i64 a0, .int .i64 l0, .string s0] Z ∧ Grown w' Z)
    (first | assumption | exact HT0.out)
    (first
      | (go_at_call 55; first | (with_reducible refine Calls.mono (LI0.out _ ?_) ?_; (assumption); rintro e w2 ⟨rfl, hS2⟩)))
  all_goals
    have HX := Lib.hid hS2
    clear hS2
    go_wp2_with fail
    rw [rounds_succ]
    go_wp2_with fail
    go_ret2
    exact ⟨HX.out.2.2.2.2.2.2.2.2, g, HX.out.2.2.2.2.2.2.2.1, rfl⟩
theorem take1_bad (o : Pl.Ob) (ho : L.reverse[0]? = some o) (hm : 1 ≤ o.1 ∧ o.1 ≤ 11) (b : Nat) (c : Nat) (hc : 1 ≤ c) (kinds : Int) (hk : W.cell? ⟨b, 0, none⟩ = some (.int .i64 kinds)) (hf : Pl.fits kinds o.1 = false) :
    Calls Tryz.prog 22 #[.pointer (some ⟨p, 0, none⟩), .slice (some ⟨b, 0, none⟩) 1 c] W fun e w' => Grown W w' ∧ e = .returned (.tuple #[.slice none 0 0, .int .i64 6]) := by
  have HL := Lib.hid (stk_len W0 Pr p L W h)
  have hl1 : 1 ≤ L.length := by
    have := (List.getElem?_eq_some_iff.1 ho).1
    rw [List.length_reverse] at this
    omega
  have HP := Lib.hid (fun W' (hS : Stk W0 Pr p L W') => stk_peek W0 Pr p L W' hS 0 o ho (by omega))
  have HI0 := Lib.hid (fun W' => is_any o kinds hm W')
  rw [hf] at HI0
  obtain ⟨M, hM⟩ : ∃ M, M = L.length := ⟨_, rfl⟩
  rw [← hM] at HL hlen hl1
  clear hM
  have HS := Lib.hid h
  have HK := Lib.hid hk
  clear hf h ho hm hk
  have hmk := fun Z => make_one Z
  have hge : (1 : Int) ≤ (M : Int) := by omega
  obtain ⟨k0, x0, n0, a0, l0, s0⟩ := o
  go_enter Tryz.func22, Tryz.ntmps22
  go_wp2_with fail
  refine HL.out.mono ?_
  rintro e w' ⟨rfl, rfl⟩
  go_wp2_with fail
  refine wp_loop_rounds 2 ?_
  rw [rounds_succ]
  go_wp2_with fail
  refine (HP.out _ (HS.out.grown ((Grown.refl _).alloc _ _))).mono ?_
  rintro e w1 ⟨rfl, hs1, g1⟩
  have B1 := Lib.hid ((Blk.new (W := w') (Z := w') #[.int .i64 0, .bool false, .int .i64 0, .int .i64 0, .int .i64 0, .string ⟨#[]⟩] 25 (Nat.le_refl _)).grow g1)
  have G0 := Lib.hid (grown_trans ((Grown.refl w').alloc #[.int .i64 0, .bool false, .int .i64 0, .int .i64 0, .int .i64 0, .string ⟨#[]⟩] 25) g1)
  have hkk0 : w1.cell? ⟨b, 0, none⟩ = some (.int .i64 kinds) := grown_cell G0.out HK.out
  obtain ⟨g, hg⟩ : ∃ g, g = w'.heap.size := ⟨_, rfl⟩
  rw [← hg] at B1 ⊢
  have bg : b ≠ g := by have := block_lt_of_cell HK.out; simp at this; omega
  have hgw : w'.heap.size ≤ g := by omega
  clear hg g1 hs1 hmk HP HK
  obtain ⟨c0, c1, c2, c3, c4, c5⟩ := B1.out.at6
  have fg := B1.out.2.2.2
  go_wp2_with fail
  generalize hZ0 : World.setCell _ _ _ = Z0
  have HT0 : Hid (Rd6 w' g 0 1 2 3 4 5 b 0 k0 x0 n0 a0 l0 s0 kinds [.int .i64 k0, .bool x0, .int .i64 n0, .int .i64 a0, .int .i64 l0, .string s0] Z0) := Lib.hid (by
    have hB : Blk w' g [.int .i64 k0, .bool x0, .int .i64 n0, .int .i64 a0, .int .i64 l0, .string s0] Z0 := by rw [← hZ0]; exact B1.out.six
    refine ⟨hB.at 0 _ rfl, hB.at 1 _ rfl, hB.at 2 _ rfl, hB.at 3 _ rfl, hB.at 4 _ rfl, hB.at 5 _ rfl, ?_, hB, ?_⟩
    · rw [← hZ0]
      exact (cell_six bg).trans hkk0
    · rw [← hZ0]; exact grown_six (o := 0) G0.out (by omega))
  clear hZ0 B1 G0 hkk0 c0 c1 c2 c3 c4 c5 fg
  have LI0 := Lib.hid (fun Z (h : Rd6 w' g 0 1 2 3 4 5 b 0 k0 x0 n0 a0 l0 s0 kinds [.int .i64 k0, .bool x0, .int .i64 n0, .int .i64 a0, .int .i64 l0, .string s0] Z) => (HI0.out Z).mono fun en w'' hh => (⟨hh.1, h.grown hh.2⟩ : _ ∧ Rd6 w' g 0 1 2 3 4 5 b 0 k0 x0 n0 a0 l0 s0 kinds [.int .i64 k0, .bool x0, .int .i64 n0, .int .i64 a0, .int .i64 l0, .string s0] w''))
  clear HI0
  go_region_held3 (fun Z => Z.cell? ⟨g, 0, none⟩ = some (.int .i64 k0) ∧ Z.cell? ⟨g, 1, none⟩ = some (.bool x0) ∧ Z.cell? ⟨g, 2, none⟩ = some (.int .i64 n0) ∧ Z.cell? ⟨g, 3, none⟩ = some (.int .i64 a0) ∧ Z.cell? ⟨g, 4, none⟩ = some (.int .i64 l0) ∧ Z.cell? ⟨g, 5, none⟩ = some (.string s0) ∧ Z.cell? ⟨b, 0, none⟩ = some (.int .i64 kinds) ∧ Blk w' g [.int .i64 k0, .bool x0, .int .i64 n0, .int .i64 a0, .int .i64 l0, .string s0] Z ∧ Grown w' Z)
    (first | assumption | exact HT0.out)
    (first
      | (go_at_call 55; first | (with_reducible refine Calls.mono (LI0.out _ ?_) ?_; (assumption); rintro e w2 ⟨rfl, hS2⟩)))
  all_goals
    have HX := Lib.hid hS2
    clear hS2
    go_wp2_with fail
    go_ret2
    exact ⟨HX.out.2.2.2.2.2.2.2.2, rfl⟩
omit hlen in
theorem take2_under (hL : L.length < 2) (b : Nat) (c : Nat) :
    Calls Tryz.prog 22 #[.pointer (some ⟨p, 0, none⟩), .slice (some ⟨b, 0, none⟩) 2 c] W fun e w' => e = .returned (.tuple #[.slice none 0 0, .int .i64 7]) ∧ w' = W := by
  have HL := Lib.hid (stk_len W0 Pr p L W h)
  obtain ⟨M, hM⟩ : ∃ M, M = L.length := ⟨_, rfl⟩
  rw [← hM] at HL hL
  clear hM h
  have hlt : (M : Int) < 2 := by omega
  go_enter Tryz.func22, Tryz.ntmps22
  go_wp2_with fail
  refine HL.out.mono ?_
  rintro e w' ⟨rfl, rfl⟩
  go_wp2_with fail
  go_ret2
  exact ⟨rfl, rfl⟩
theorem take2_bad1 (o0 o1 : Pl.Ob) (ho1 : L.reverse[0]? = some o1) (ho0 : L.reverse[1]? = some o0) (hm0 : 1 ≤ o0.1 ∧ o0.1 ≤ 11) (hm1 : 1 ≤ o1.1 ∧ o1.1 ≤ 11) (b : Nat) (c : Nat) (hc : 2 ≤ c) (kinds0 kinds1 : Int) (hk0 : W.cell? ⟨b, 0, none⟩ = some (.int .i64 kinds0)) (hk1 : W.cell? ⟨b, 1, none⟩ = some (.int .i64 kinds1)) (hf1 : Pl.fits kinds1 o1.1 = false) :
    Calls Tryz.prog 22 #[.pointer (some ⟨p, 0, none⟩), .slice (some ⟨b, 0, none⟩) 2 c] W fun e w' => Grown W w' ∧ e = .returned (.tuple #[.slice none 0 0, .int .i64 6]) := by
  have HL := Lib.hid (stk_len W0 Pr p L W h)
  have hl1 : 2 ≤ L.length := by
    have := (List.getElem?_eq_some_iff.1 ho0).1
    rw [List.length_reverse] at this
    omega
  have HP1 := Lib.hid (fun W' (hS : Stk W0 Pr p L W') => stk_peek W0 Pr p L W' hS 0 o1 ho1 (by omega))
  have HI1 := Lib.hid (fun W' => is_any o1 kinds1 hm1 W')
  rw [hf1] at HI1
  obtain ⟨M, hM⟩ : ∃ M, M = L.length := ⟨_, rfl⟩
  rw [← hM] at HL hlen hl1
  clear hM
  have HS := Lib.hid h
  have HK0 := Lib.hid hk0
  have HK1 := Lib.hid hk1
  clear hf1 h ho0 ho1 hm0 hm1 hk0 hk1
  have hmk := fun Z => make_two Z
  have hge : (2 : Int) ≤ (M : Int) := by omega
  obtain ⟨k1, x1, n1, a1, l1, s1⟩ := o1
  obtain ⟨k0, x0, n0, a0, l0, s0⟩ := o0
  go_enter Tryz.func22, Tryz.ntmps22
  go_wp2_with fail
  refine HL.out.mono ?_
  rintro e w' ⟨rfl, rfl⟩
  go_wp2_with fail
  refine wp_loop_rounds 3 ?_
  rw [rounds_succ]
  go_wp2_with fail
  refine (HP1.out _ (HS.out.grown ((Grown.refl _).alloc _ _))).mono ?_
  rintro e w1 ⟨rfl, hs1, g1⟩
  have HS1 := Lib.hid hs1
  have B1 := Lib.hid ((Blk.new (W := w') (Z := w') #[.int .i64 0, .bool false, .int .i64 0, .int .i64 0, .int .i64 0, .string ⟨#[]⟩, .int .i64 0, .bool false, .int .i64 0, .int .i64 0, .int .i64 0, .string ⟨#[]⟩] 25 (Nat.le_refl _)).grow g1)
  have G1 := Lib.hid (grown_trans ((Grown.refl w').alloc #[.int .i64 0, .bool false, .int .i64 0, .int .i64 0, .int .i64 0, .string ⟨#[]⟩, .int .i64 0, .bool false, .int .i64 0, .int .i64 0, .int .i64 0, .string ⟨#[]⟩] 25) g1)
  have hkk1 : w1.cell? ⟨b, 1, none⟩ = some (.int .i64 kinds1) := grown_cell G1.out HK1.out
  obtain ⟨g, hg⟩ : ∃ g, g = w'.heap.size := ⟨_, rfl⟩
  rw [← hg] at B1 ⊢
  have bg : b ≠ g := by have := block_lt_of_cell HK0.out; simp at this; omega
  have hgw : w'.heap.size ≤ g := by omega
  clear hg g1 hs1 hmk HP1
  obtain ⟨c0, c1, c2, c3, c4, c5, c6, c7, c8, c9, c10, c11⟩ := B1.out.at12
  have fg := B1.out.2.2.2
  go_wp2_with fail
  generalize hZ1 : World.setCell _ _ _ = Z1
  have HT1 : Hid (Rd6 w' g 6 7 8 9 10 11 b 1 k1 x1 n1 a1 l1 s1 kinds1 [.int .i64 0, .bool false, .int .i64 0, .int .i64 0, .int .i64 0, .string ⟨#[]⟩, .int .i64 k1, .bool x1, .int .i64 n1, .int .i64 a1, .int .i64 l1, .string s1] Z1) := Lib.hid (by
    have hB : Blk w' g [.int .i64 0, .bool false, .int .i64 0, .int .i64 0, .int .i64 0, .string ⟨#[]⟩, .int .i64 k1, .bool x1, .int .i64 n1, .int .i64 a1, .int .i64 l1, .string s1] Z1 := by rw [← hZ1]; exact B1.out.hi6
    refine ⟨hB.at 6 _ rfl, hB.at 7 _ rfl, hB.at 8 _ rfl, hB.at 9 _ rfl, hB.at 10 _ rfl, hB.at 11 _ rfl, ?_, hB, ?_⟩
    · rw [← hZ1]
      exact (cell_hi6 bg).trans hkk1
    · rw [← hZ1]; exact grown_hi6 (o := 0) G1.out (by omega))
  clear hZ1 B1 G1 hkk1 c0 c1 c2 c3 c4 c5 c6 c7 c8 c9 c10 c11 fg
  have LI1 := Lib.hid (fun Z (h : Rd6 w' g 6 7 8 9 10 11 b 1 k1 x1 n1 a1 l1 s1 kinds1 [.int .i64 0, .bool false, .int .i64 0, .int .i64 0, .int .i64 0, .string ⟨#[]⟩, .int .i64 k1, .bool x1, .int .i64 n1, .int .i64 a1, .int .i64 l1, .string s1] Z) => (HI1.out Z).mono fun en w'' hh => (⟨hh.1, h.grown hh.2⟩ : _ ∧ Rd6 w' g 6 7 8 9 10 11 b 1 k1 x1 n1 a1 l1 s1 kinds1 [.int .i64 0, .bool false, .int .i64 0, .int .i64 0, .int .i64 0, .string ⟨#[]⟩, .int .i64 k1, .bool x1, .int .i64 n1, .int .i64 a1, .int .i64 l1, .string s1] w''))
  clear HI1
  go_region_held3 (fun Z => Z.cell? ⟨g, 6, none⟩ = some (.int .i64 k1) ∧ Z.cell? ⟨g, 7, none⟩ = some (.bool x1) ∧ Z.cell? ⟨g, 8, none⟩ = some (.int .i64 n1) ∧ Z.cell? ⟨g, 9, none⟩ = some (.int .i64 a1) ∧ Z.cell? ⟨g, 10, none⟩ = some (.int .i64 l1) ∧ Z.cell? ⟨g, 11, none⟩ = some (.string s1) ∧ Z.cell? ⟨b, 1, none⟩ = some (.int .i64 kinds1) ∧ Blk w' g [.int .i64 0, .bool false, .int .i64 0, .int .i64 0, .int .i64 0, .string ⟨#[]⟩, .int .i64 k1, .bool x1, .int .i64 n1, .int .i64 a1, .int .i64 l1, .string s1] Z ∧ Grown w' Z)
    (first | assumption | exact HT1.out)
    (first
      | (go_at_call 55; first | (with_reducible refine Calls.mono (LI1.out _ ?_) ?_; (assumption); rintro e w2 ⟨rfl, hS2⟩)))
  all_goals
    have HX := Lib.hid hS2
    clear hS2
    go_wp2_with fail
    go_ret2
    exact ⟨HX.out.2.2.2.2.2.2.2.2, rfl⟩
theorem take2_bad0 (o0 o1 : Pl.Ob) (ho1 : L.reverse[0]? = some o1) (ho0 : L.reverse[1]? = some o0) (hm0 : 1 ≤ o0.1 ∧ o0.1 ≤ 11) (hm1 : 1 ≤ o1.1 ∧ o1.1 ≤ 11) (b : Nat) (c : Nat) (hc : 2 ≤ c) (kinds0 kinds1 : Int) (hk0 : W.cell? ⟨b, 0, none⟩ = some (.int .i64 kinds0)) (hk1 : W.cell? ⟨b, 1, none⟩ = some (.int .i64 kinds1)) (hf1 : Pl.fits kinds1 o1.1 = true) (hf0 : Pl.fits kinds0 o0.1 = false) :
    Calls Tryz.prog 22 #[.pointer (some ⟨p, 0, none⟩), .slice (some ⟨b, 0, none⟩) 2 c] W fun e w' => Grown W w' ∧ e = .returned (.tuple #[.slice none 0 0, .int .i64 6]) := by
  have HL := Lib.hid (stk_len W0 Pr p L W h)
  have hl1 : 2 ≤ L.length := by
    have := (List.getElem?_eq_some_iff.1 ho0).1
    rw [List.length_reverse] at this
    omega
  have HP1 := Lib.hid (fun W' (hS : Stk W0 Pr p L W') => stk_peek W0 Pr p L W' hS 0 o1 ho1 (by omega))
  have HI1 := Lib.hid (fun W' => is_any o1 kinds1 hm1 W')
  rw [hf1] at HI1
  have HP0 := Lib.hid (fun W' (hS : Stk W0 Pr p L W') => stk_peek W0 Pr p L W' hS 1 o0 ho0 (by omega))
  have HI0 := Lib.hid (fun W' => is_any o0 kinds0 hm0 W')
  rw [hf0] at HI0
  obtain ⟨M, hM⟩ : ∃ M, M = L.length := ⟨_, rfl⟩
  rw [← hM] at HL hlen hl1
  clear hM
  have HS := Lib.hid h
  have HK0 := Lib.hid hk0
  have HK1 := Lib.hid hk1
  clear hf1 h ho0 ho1 hm0 hm1 hk0 hk1 hf0
  have hmk := fun Z => make_two Z
  have hge : (2 : Int) ≤ (M : Int) := by omega
  obtain ⟨k1, x1, n1, a1, l1, s1⟩ := o1
  obtain ⟨k0, x0, n0, a0, l0, s0⟩ := o0
  go_enter Tryz.func22, Tryz.ntmps22
  go_wp2_with fail
  refine HL.out.mono ?_
  rintro e w' ⟨rfl, rfl⟩
  go_wp2_with fail
  refine wp_loop_rounds 3 ?_
  rw [rounds_succ]
  go_wp2_with fail
  refine (HP1.out _ (HS.out.grown ((Grown.refl _).alloc _ _))).mono ?_
  rintro e w1 ⟨rfl, hs1, g1⟩
  have HS1 := Lib.hid hs1
  have B1 := Lib.hid ((Blk.new (W := w') (Z := w') #[.int .i64 0, .bool false, .int .i64 0, .int .i64 0, .int .i64 0, .string ⟨#[]⟩, .int .i64 0, .bool false, .int .i64 0, .int .i64 0, .int .i64 0, .string ⟨#[]⟩] 25 (Nat.le_refl _)).grow g1)
  have G1 := Lib.hid (grown_trans ((Grown.refl w').alloc #[.int .i64 0, .bool false, .int .i64 0, .int .i64 0, .int .i64 0, .string ⟨#[]⟩, .int .i64 0, .bool false, .int .i64 0, .int .i64 0, .int .i64 0, .string ⟨#[]⟩] 25) g1)
  have hkk1 : w1.cell? ⟨b, 1, none⟩ = some (.int .i64 kinds1) := grown_cell G1.out HK1.out
  obtain ⟨g, hg⟩ : ∃ g, g = w'.heap.size := ⟨_, rfl⟩
  rw [← hg] at B1 ⊢
  have bg : b ≠ g := by have := block_lt_of_cell HK0.out; simp at this; omega
  have hgw : w'.heap.size ≤ g := by omega
  clear hg g1 hs1 hmk HP1
  obtain ⟨c0, c1, c2, c3, c4, c5, c6, c7, c8, c9, c10, c11⟩ := B1.out.at12
  have fg := B1.out.2.2.2
  go_wp2_with fail
  generalize hZ1 : World.setCell _ _ _ = Z1
  have HT1 : Hid (Rd6 w' g 6 7 8 9 10 11 b 1 k1 x1 n1 a1 l1 s1 kinds1 [.int .i64 0, .bool false, .int .i64 0, .int .i64 0, .int .i64 0, .string ⟨#[]⟩, .int .i64 k1, .bool x1, .int .i64 n1, .int .i64 a1, .int .i64 l1, .string s1] Z1) := Lib.hid (by
    have hB : Blk w' g [.int .i64 0, .bool false, .int .i64 0, .int .i64 0, .int .i64 0, .string ⟨#[]⟩, .int .i64 k1, .bool x1, .int .i64 n1, .int .i64 a1, .int .i64 l1, .string s1] Z1 := by rw [← hZ1]; exact B1.out.hi6
    refine ⟨hB.at 6 _ rfl, hB.at 7 _ rfl, hB.at 8 _ rfl, hB.at 9 _ rfl, hB.at 10 _ rfl, hB.at 11 _ rfl, ?_, hB, ?_⟩
    · rw [← hZ1]
      exact (cell_hi6 bg).trans hkk1
    · rw [← hZ1]; exact grown_hi6 (o := 0) G1.out (by omega))
  clear hZ1 B1 G1 hkk1 c0 c1 c2 c3 c4 c5 c6 c7 c8 c9 c10 c11 fg
  have LI1 := Lib.hid (fun Z (h : Rd6 w' g 6 7 8 9 10 11 b 1 k1 x1 n1 a1 l1 s1 kinds1 [.int .i64 0, .bool false, .int .i64 0, .int .i64 0, .int .i64 0, .string ⟨#[]⟩, .int .i64 k1, .bool x1, .int .i64 n1, .int .i64 a1, .int .i64 l1, .string s1] Z) => (HI1.out Z).mono fun en w'' hh => (⟨hh.1, h.grown hh.2⟩ : _ ∧ Rd6 w' g 6 7 8 9 10 11 b 1 k1 x1 n1 a1 l1 s1 kinds1 [.int .i64 0, .bool false, .int .i64 0, .int .i64 0, .int .i64 0, .string ⟨#[]⟩, .int .i64 k1, .bool x1, .int .i64 n1, .int .i64 a1, .int .i64 l1, .string s1] w''))
  clear HI1
  go_region_held3 (fun Z => Z.cell? ⟨g, 6, none⟩ = some (.int .i64 k1) ∧ Z.cell? ⟨g, 7, none⟩ = some (.bool x1) ∧ Z.cell? ⟨g, 8, none⟩ = some (.int .i64 n1) ∧ Z.cell? ⟨g, 9, none⟩ = some (.int .i64 a1) ∧ Z.cell? ⟨g, 10, none⟩ = some (.int .i64 l1) ∧ Z.cell? ⟨g, 11, none⟩ = some (.string s1) ∧ Z.cell? ⟨b, 1, none⟩ = some (.int .i64 kinds1) ∧ Blk w' g [.int .i64 0, .bool false, .int .i64 0, .int .i64 0, .int .i64 0, .string ⟨#[]⟩, .int .i64 k1, .bool x1, .int .i64 n1, .int .i64 a1, .int .i64 l1, .string s1] Z ∧ Grown w' Z)
    (first | assumption | exact HT1.out)
    (first
      | (go_at_call 55; first | (with_reducible refine Calls.mono (LI1.out _ ?_) ?_; (assumption); rintro e w2 ⟨rfl, hS2⟩)))
  have HX := Lib.hid hS2
  clear hS2
  go_wp2_with fail
  rw [rounds_succ]
  go_wp2_with fail
  refine (HP0.out _ (HS.out.grown HX.out.2.2.2.2.2.2.2.2)).mono ?_
  rintro e w3 ⟨rfl, hs3, g3⟩
  have B3 := Lib.hid (HX.out.2.2.2.2.2.2.2.1.grow g3)
  have G0 := Lib.hid (grown_trans HX.out.2.2.2.2.2.2.2.2 g3)
  have hkk0 : w3.cell? ⟨b, 0, none⟩ = some (.int .i64 kinds0) := grown_cell G0.out HK0.out
  clear g3 hs3 HP0 HX LI1 HT1 HK0 HK1 HS1
  obtain ⟨c0, c1, c2, c3, c4, c5, c6, c7, c8, c9, c10, c11⟩ := B3.out.at12
  have fg := B3.out.2.2.2
  go_wp2_with fail
  generalize hZ0 : World.setCell _ _ _ = Z0
  have HT0 : Hid (Rd6 w' g 0 1 2 3 4 5 b 0 k0 x0 n0 a0 l0 s0 kinds0 [.int .i64 k0, .bool x0, .int .i64 n0, .int .i64 a0, .int .i64 l0, .string s0, .int .i64 k1, .bool x1, .int .i64 n1, .int .i64 a1, .int .i64 l1, .string s1] Z0) := Lib.hid (by
    have hB : Blk w' g [.int .i64 k0, .bool x0, .int .i64 n0, .int .i64 a0, .int .i64 l0, .string s0, .int .i64 k1, .bool x1, .int .i64 n1, .int .i64 a1, .int .i64 l1, .string s1] Z0 := by rw [← hZ0]; exact B3.out.lo6
    refine ⟨hB.at 0 _ rfl, hB.at 1 _ rfl, hB.at 2 _ rfl, hB.at 3 _ rfl, hB.at 4 _ rfl, hB.at 5 _ rfl, ?_, hB, ?_⟩
    · rw [← hZ0]
      exact (cell_six bg).trans hkk0
    · rw [← hZ0]; exact grown_six (o := 0) G0.out (by omega))
  clear hZ0 B3 G0 hkk0 c0 c1 c2 c3 c4 c5 c6 c7 c8 c9 c10 c11 fg
  have LI0 := Lib.hid (fun Z (h : Rd6 w' g 0 1 2 3 4 5 b 0 k0 x0 n0 a0 l0 s0 kinds0 [.int .i64 k0, .bool x0, .int .i64 n0, .int .i64 a0, .int .i64 l0, .string s0, .int .i64 k1, .bool x1, .int .i64 n1, .int .i64 a1, .int .i64 l1, .string s1] Z) => (HI0.out Z).mono fun en w'' hh => (⟨hh.1, h.grown hh.2⟩ : _ ∧ Rd6 w' g 0 1 2 3 4 5 b 0 k0 x0 n0 a0 l0 s0 kinds0 [.int .i64 k0, .bool x0, .int .i64 n0, .int .i64 a0, .int .i64 l0, .string s0, .int .i64 k1, .bool x1, .int .i64 n1, .int .i64 a1, .int .i64 l1, .string s1] w''))
  clear HI0
  go_region_held3 (fun Z => Z.cell? ⟨g, 0, none⟩ = some (.int .i64 k0) ∧ Z.cell? ⟨g, 1, none⟩ = some (.bool x0) ∧ Z.cell? ⟨g, 2, none⟩ = some (.int .i64 n0) ∧ Z.cell? ⟨g, 3, none⟩ = some (.int .i64 a0) ∧ Z.cell? ⟨g, 4, none⟩ = some (.int .i64 l0) ∧ Z.cell? ⟨g, 5, none⟩ = some (.string s0) ∧ Z.cell? ⟨b, 0, none⟩ = some (.int .i64 kinds0) ∧ Blk w' g [.int .i64 k0, .bool x0, .int .i64 n0, .int .i64 a0, .int .i64 l0, .string s0, .int .i64 k1, .bool x1, .int .i64 n1, .int .i64 a1, .int .i64 l1, .string s1] Z ∧ Grown w' Z)
    (first | assumption | exact HT0.out)
    (first
      | (go_at_call 55; first | (with_reducible refine Calls.mono (LI0.out _ ?_) ?_; (assumption); rintro e w4 ⟨rfl, hS4⟩)))
  all_goals
    have HY := Lib.hid hS4
    clear hS4
    go_wp2_with fail
    go_ret2
    exact ⟨HY.out.2.2.2.2.2.2.2.2, rfl⟩
theorem take2_ok (o0 o1 : Pl.Ob) (ho1 : L.reverse[0]? = some o1) (ho0 : L.reverse[1]? = some o0) (hm0 : 1 ≤ o0.1 ∧ o0.1 ≤ 11) (hm1 : 1 ≤ o1.1 ∧ o1.1 ≤ 11) (b : Nat) (c : Nat) (hc : 2 ≤ c) (kinds0 kinds1 : Int) (hk0 : W.cell? ⟨b, 0, none⟩ = some (.int .i64 kinds0)) (hk1 : W.cell? ⟨b, 1, none⟩ = some (.int .i64 kinds1)) (hf1 : Pl.fits kinds1 o1.1 = true) (hf0 : Pl.fits kinds0 o0.1 = true) :
    Calls Tryz.prog 22 #[.pointer (some ⟨p, 0, none⟩), .slice (some ⟨b, 0, none⟩) 2 c] W fun e w' => Grown W w' ∧ ∃ g, Blk W g (Pl.oc o0 ++ Pl.oc o1) w' ∧ e = .returned (.tuple #[.slice (some ⟨g, 0, none⟩) 2 2, .int .i64 0]) := by
  have HL := Lib.hid (stk_len W0 Pr p L W h)
  have hl1 : 2 ≤ L.length := by
    have := (List.getElem?_eq_some_iff.1 ho0).1
    rw [List.length_reverse] at this
    omega
  have HP1 := Lib.hid (fun W' (hS : Stk W0 Pr p L W') => stk_peek W0 Pr p L W' hS 0 o1 ho1 (by omega))
  have HI1 := Lib.hid (fun W' => is_any o1 kinds1 hm1 W')
  rw [hf1] at HI1
  have HP0 := Lib.hid (fun W' (hS : Stk W0 Pr p L W') => stk_peek W0 Pr p L W' hS 1 o0 ho0 (by omega))
  have HI0 := Lib.hid (fun W' => is_any o0 kinds0 hm0 W')
  rw [hf0] at HI0
  obtain ⟨M, hM⟩ : ∃ M, M = L.length := ⟨_, rfl⟩
  rw [← hM] at HL hlen hl1
  clear hM
  have HS := Lib.hid h
  have HK0 := Lib.hid hk0
  have HK1 := Lib.hid hk1
  clear hf1 h ho0 ho1 hm0 hm1 hk0 hk1 hf0
  have hmk := fun Z => make_two Z
  have hge : (2 : Int) ≤ (M : Int) := by omega
  obtain ⟨k1, x1, n1, a1, l1, s1⟩ := o1
  obtain ⟨k0, x0, n0, a0, l0, s0⟩ := o0
  go_enter Tryz.func22, Tryz.ntmps22
  go_wp2_with fail
  refine HL.out.mono ?_
  rintro e w' ⟨rfl, rfl⟩
  go_wp2_with fail
  refine wp_loop_rounds 3 ?_
  rw [rounds_succ]
  go_wp2_with fail
  refine (HP1.out _ (HS.out.grown ((Grown.refl _).alloc _ _))).mono ?_
  rintro e w1 ⟨rfl, hs1, g1⟩
  have HS1 := Lib.hid hs1
  have B1 := Lib.hid ((Blk.new (W := w') (Z := w') #[.int .i64 0, .bool false, .int .i64 0, .int .i64 0, .int .i64 0, .string ⟨#[]⟩, .int .i64 0, .bool false, .int .i64 0, .int .i64 0, .int .i64 0, .string ⟨#[]⟩] 25 (Nat.le_refl _)).grow g1)
  have G1 := Lib.hid (grown_trans ((Grown.refl w').alloc #[.int .i64 0, .bool false, .int .i64 0, .int .i64 0, .int .i64 0, .string ⟨#[]⟩, .int .i64 0, .bool false, .int .i64 0, .int .i64 0, .int .i64 0, .string ⟨#[]⟩] 25) g1)
  have hkk1 : w1.cell? ⟨b, 1, none⟩ = some (.int .i64 kinds1) := grown_cell G1.out HK1.out
  obtain ⟨g, hg⟩ : ∃ g, g = w'.heap.size := ⟨_, rfl⟩
  rw [← hg] at B1 ⊢
  have bg : b ≠ g := by have := block_lt_of_cell HK0.out; simp at this; omega
  have hgw : w'.heap.size ≤ g := by omega
  clear hg g1 hs1 hmk HP1
  obtain ⟨c0, c1, c2, c3, c4, c5, c6, c7, c8, c9, c10, c11⟩ := B1.out.at12
  have fg := B1.out.2.2.2
  go_wp2_with fail
  generalize hZ1 : World.setCell _ _ _ = Z1
  have HT1 : Hid (Rd6 w' g 6 7 8 9 10 11 b 1 k1 x1 n1 a1 l1 s1 kinds1 [.int .i64 0, .bool false, .int .i64 0, .int .i64 0, .int .i64 0, .string ⟨#[]⟩, .int .i64 k1, .bool x1, .int .i64 n1, .int .i64 a1, .int .i64 l1, .string s1] Z1) := Lib.hid (by
    have hB : Blk w' g [.int .i64 0, .bool false, .int .i64 0, .int .i64 0, .int .i64 0, .string ⟨#[]⟩, .int .i64 k1, .bool x1, .int .i64 n1, .int .i64 a1, .int .i64 l1, .string s1] Z1 := by rw [← hZ1]; exact B1.out.hi6
    refine ⟨hB.at 6 _ rfl, hB.at 7 _ rfl, hB.at 8 _ rfl, hB.at 9 _ rfl, hB.at 10 _ rfl, hB.at 11 _ rfl, ?_, hB, ?_⟩
    · rw [← hZ1]
      exact (cell_hi6 bg).trans hkk1
    · rw [← hZ1]; exact grown_hi6 (o := 0) G1.out (by omega))
  clear hZ1 B1 G1 hkk1 c0 c1 c2 c3 c4 c5 c6 c7 c8 c9 c10 c11 fg
  have LI1 := Lib.hid (fun Z (h : Rd6 w' g 6 7 8 9 10 11 b 1 k1 x1 n1 a1 l1 s1 kinds1 [.int .i64 0, .bool false, .int .i64 0, .int .i64 0, .int .i64 0, .string ⟨#[]⟩, .int .i64 k1, .bool x1, .int .i64 n1, .int .i64 a1, .int .i64 l1, .string s1] Z) => (HI1.out Z).mono fun en w'' hh => (⟨hh.1, h.grown hh.2⟩ : _ ∧ Rd6 w' g 6 7 8 9 10 11 b 1 k1 x1 n1 a1 l1 s1 kinds1 [.int .i64 0, .bool false, .int .i64 0, .int .i64 0, .int .i64 0, .string ⟨#[]⟩, .int .i64 k1, .bool x1, .int .i64 n1, .int .i64 a1, .int .i64 l1, .string s1] w''))
  clear HI1
  go_region_held3 (fun Z => Z.cell? ⟨g, 6, none⟩ = some (.int .i64 k1) ∧ Z.cell? ⟨g, 7, none⟩ = some (.bool x1) ∧ Z.cell? ⟨g, 8, none⟩ = some (.int .i64 n1) ∧ Z.cell? ⟨g, 9, none⟩ = some (.int .i64 a1) ∧ Z.cell? ⟨g, 10, none⟩ = some (.int .i64 l1) ∧ Z.cell? ⟨g, 11, none⟩ = some (.string s1) ∧ Z.cell? ⟨b, 1, none⟩ = some (.int .i64 kinds1) ∧ Blk w' g [.int .i64 0, .bool false, .int .i64 0, .int .i64 0, .int .i64 0, .string ⟨#[]⟩, .int .i64 k1, .bool x1, .int .i64 n1, .int .i64 a1, .int .i64 l1, .string s1] Z ∧ Grown w' Z)
    (first | assumption | exact HT1.out)
    (first
      | (go_at_call 55; first | (with_reducible refine Calls.mono (LI1.out _ ?_) ?_; (assumption); rintro e w2 ⟨rfl, hS2⟩)))
  have HX := Lib.hid hS2
  clear hS2
  go_wp2_with fail
  rw [rounds_succ]
  go_wp2_with fail
  refine (HP0.out _ (HS.out.grown HX.out.2.2.2.2.2.2.2.2)).mono ?_
  rintro e w3 ⟨rfl, hs3, g3⟩
  have B3 := Lib.hid (HX.out.2.2.2.2.2.2.2.1.grow g3)
  have G0 := Lib.hid (grown_trans HX.out.2.2.2.2.2.2.2.2 g3)
  have hkk0 : w3.cell? ⟨b, 0, none⟩ = some (.int .i64 kinds0) := grown_cell G0.out HK0.out
  clear g3 hs3 HP0 HX LI1 HT1 HK0 HK1 HS1
  obtain ⟨c0, c1, c2, c3, c4, c5, c6, c7, c8, c9, c10, c11⟩ := B3.out.at12
  have fg := B3.out.2.2.2
  go_wp2_with fail
  generalize hZ0 : World.setCell _ _ _ = Z0
  have HT0 : Hid (Rd6 w' g 0 1 2 3 4 5 b 0 k0 x0 n0 a0 l0 s0 kinds0 [.int .i64 k0, .bool x0, .int .i64 n0, .int .i64 a0, .int .i64 l0, .string s0, .int .i64 k1, .bool x1, .int .i64 n1, .int .i64 a1, .int .i64 l1, .string s1] Z0) := Lib.hid (by
    have hB : Blk w' g [.int .i64 k0, .bool x0, .int .i64 n0, .int .i64 a0, .int .i64 l0, .string s0, .int .i64 k1, .bool x1, .int .i64 n1, .int .i64 a1, .int .i64 l1, .string s1] Z0 := by rw [← hZ0]; exact B3.out.lo6
    refine ⟨hB.at 0 _ rfl, hB.at 1 _ rfl, hB.at 2 _ rfl, hB.at 3 _ rfl, hB.at 4 _ rfl, hB.at 5 _ rfl, ?_, hB, ?_⟩
    · rw [← hZ0]
      exact (cell_six bg).trans hkk0
    · rw [← hZ0]; exact grown_six (o := 0) G0.out (by omega))
  clear hZ0 B3 G0 hkk0 c0 c1 c2 c3 c4 c5 c6 c7 c8 c9 c10 c11 fg
  have LI0 := Lib.hid (fun Z (h : Rd6 w' g 0 1 2 3 4 5 b 0 k0 x0 n0 a0 l0 s0 kinds0 [.int .i64 k0, .bool x0, .int .i64 n0, .int .i64 a0, .int .i64 l0, .string s0, .int .i64 k1, .bool x1, .int .i64 n1, .int .i64 a1, .int .i64 l1, .string s1] Z) => (HI0.out Z).mono fun en w'' hh => (⟨hh.1, h.grown hh.2⟩ : _ ∧ Rd6 w' g 0 1 2 3 4 5 b 0 k0 x0 n0 a0 l0 s0 kinds0 [.int .i64 k0, .bool x0, .int .i64 n0, .int .i64 a0, .int .i64 l0, .string s0, .int .i64 k1, .bool x1, .int .i64 n1, .int .i64 a1, .int .i64 l1, .string s1] w''))
  clear HI0
  go_region_held3 (fun Z => Z.cell? ⟨g, 0, none⟩ = some (.int .i64 k0) ∧ Z.cell? ⟨g, 1, none⟩ = some (.bool x0) ∧ Z.cell? ⟨g, 2, none⟩ = some (.int .i64 n0) ∧ Z.cell? ⟨g, 3, none⟩ = some (.int .i64 a0) ∧ Z.cell? ⟨g, 4, none⟩ = some (.int .i64 l0) ∧ Z.cell? ⟨g, 5, none⟩ = some (.string s0) ∧ Z.cell? ⟨b, 0, none⟩ = some (.int .i64 kinds0) ∧ Blk w' g [.int .i64 k0, .bool x0, .int .i64 n0, .int .i64 a0, .int .i64 l0, .string s0, .int .i64 k1, .bool x1, .int .i64 n1, .int .i64 a1, .int .i64 l1, .string s1] Z ∧ Grown w' Z)
    (first | assumption | exact HT0.out)
    (first
      | (go_at_call 55; first | (with_reducible refine Calls.mono (LI0.out _ ?_) ?_; (assumption); rintro e w4 ⟨rfl, hS4⟩)))
  all_goals
    have HY := Lib.hid hS4
    clear hS4
    go_wp2_with fail
    rw [rounds_succ]
    go_wp2_with fail
    go_ret2
    exact ⟨HY.out.2.2.2.2.2.2.2.2, g, HY.out.2.2.2.2.2.2.2.1, rfl⟩
end
end Go.Proofs.YtfmmomdmemcbbaaGreat
