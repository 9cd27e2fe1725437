/- The walk of arith.one. -/
import Derived.Test.YtfmmomdmemcbbaaGreatM6
set_option maxHeartbeats 4000000
set_option maxRecDepth 100000
namespace Go.Proofs.YtfmmomdmemcbbaaGreat
set_option linter.unusedVariables false
open Go.RowKit
theorem map_one (W : World) : ∃ r w1 w2 w3 w4 w5, (Instr.makeMap 71 none).run Tryz.prog W = .ok (.map (some r)) w1 ∧
    (Instr.mapUpdate 71 (.map (some r)) (.int .i64 19) (.func (.func 46) #[] #[])).run Tryz.prog w1 = .ok () w2 ∧
    (Instr.mapUpdate 71 (.map (some r)) (.int .i64 20) (.func (.func 47) #[] #[])).run Tryz.prog w2 = .ok () w3 ∧
    (Instr.mapUpdate 71 (.map (some r)) (.int .i64 21) (.func (.func 48) #[] #[])).run Tryz.prog w3 = .ok () w4 ∧
    (Instr.mapUpdate 71 (.map (some r)) (.int .i64 22) (.func (.func 49) #[] #[])).run Tryz.prog w4 = .ok () w5 ∧
    Grown W w5 ∧
    (Instr.lookup 71 (.map (some r)) (.int .i64 19) false).run Tryz.prog w5 = .ok (.func (.func 46) #[] #[]) w5 ∧
    (Instr.lookup 71 (.map (some r)) (.int .i64 20) false).run Tryz.prog w5 = .ok (.func (.func 47) #[] #[]) w5 ∧
    (Instr.lookup 71 (.map (some r)) (.int .i64 21) false).run Tryz.prog w5 = .ok (.func (.func 48) #[] #[]) w5 ∧
    (Instr.lookup 71 (.map (some r)) (.int .i64 22) false).run Tryz.prog w5 = .ok (.func (.func 49) #[] #[]) w5 := by
  have m1 := MapAt.new (Grown.refl W)
  obtain ⟨w2, r2, m2⟩ := m1.put 71 _ 19 (.func (.func 46) #[] #[]) Tryz.underlying71 rfl
  obtain ⟨w3, r3, m3⟩ := m2.put 71 _ 20 (.func (.func 47) #[] #[]) Tryz.underlying71 rfl
  obtain ⟨w4, r4, m4⟩ := m3.put 71 _ 21 (.func (.func 48) #[] #[]) Tryz.underlying71 rfl
  obtain ⟨w5, r5, m5⟩ := m4.put 71 _ 22 (.func (.func 49) #[] #[]) Tryz.underlying71 rfl
  exact ⟨_, _, _, _, _, _, run_makeMap_plain W _, r2, r3, r4, r5, m5.2.2, m5.get _ _ 19 0 _ Tryz.underlying71 rfl, m5.get _ _ 20 1 _ Tryz.underlying71 rfl, m5.get _ _ 21 2 _ Tryz.underlying71 rfl, m5.get _ _ 22 3 _ Tryz.underlying71 rfl⟩
def Pl.f1 (n a : Int) : Int := if n = 19 then Pl.fceil a else if n = 20 then Pl.ffloor a else if n = 21 then Pl.fround a else Pl.ftrunc a
def Pl.f1b (n x : Int) : Int × Bool := if n = 23 then (if 0 ≤ x then (Pl.root (x * 65536), true) else (0, false)) else if n = 24 then (Pl.sin x, true) else (Pl.cos x, true)
def Pl.kinds1 (n : Int) : Int := if n = 30 then 12 else 24
def Pl.oneI (L : List Pl.Ob) (n : Int) (o : Pl.Ob) : Int × List Pl.Ob :=
  if n = 30 then (if o.1 = 2 then Pl.giveR L 1 [Pl.truth (o.2.2.1 == 0)] else Pl.wholeR L 1 (-o.2.2.1 - 1))
  else if n = 17 ∨ n = 18 then (if n = 18 ∧ 0 ≤ o.2.2.1 then (0, L) else Pl.giveR L 1 [(o.1, false, -o.2.2.1, 0, 0, ⟨#[]⟩)])
  else if n = 19 ∨ n = 20 ∨ n = 21 ∨ n = 22 then (if o.1 = 3 then (0, L) else Pl.fixedR L 1 (Pl.f1 n o.2.2.1) true)
  else if (Pl.numv o).2 = false then (2, L)
  else Pl.fixedR L 1 (Pl.f1b n (Pl.numv o).1).1 (Pl.f1b n (Pl.numv o).1).2
def Pl.oneR (L : List Pl.Ob) (n : Int) : Int × List Pl.Ob := match L.reverse with
  | [] => (7, L)
  | o :: _ => if Pl.fits (Pl.kinds1 n) o.1 = true then Pl.oneI L n o else (6, L)
theorem Pl.truth_may (b : Bool) : Pl.mayO (Pl.truth b) := by
  unfold Pl.mayO Pl.may Pl.truth Pl.bare
  cases b <;> simp
theorem Pl.may_bool {x : Bool} {n a l : Int} {s : ByteArray} (h : Pl.mayO (2, x, n, a, l, s)) : (n = 0 ∨ n = 1) ∧ a = 0 ∧ l = 0 ∧ s = ⟨#[]⟩ := by
  unfold Pl.mayO Pl.may Pl.bare at h
  simp only at h
  have h2 : (a = 0 ∧ l = 0 ∧ s = ⟨#[]⟩) := by
    rcases h with h | h | h | h
    · omega
    · omega
    · omega
    · exact h.1
  exact ⟨by omega, h2⟩
section
variable (W0 : World) (Pr : Nat → Prop) (p : Nat) (L : List Pl.Ob) (W : World) (hlen : L.length ≤ 200) (h : Stk W0 Pr p L W)
include h hlen
omit hlen in
theorem one_under_24 (n : Int) (hn : (n == 30) = false) (hL : L.length < 1) :
    Calls Tryz.prog 21 #[.pointer (some ⟨p, 0, none⟩), .int .i64 n] W fun e w' => e = .returned (.int .i64 7) ∧ Stk W0 Pr p L w' ∧ FrS W0 Pr W w' := by
  have HS := Lib.hid (h.grown ((Grown.refl W).alloc #[.int .i64 24] 3))
  have TK := Lib.hid (take1_under W0 Pr p L _ HS.out hL W.heap.size 1)
  clear h hL
  go_enter Tryz.func21, Tryz.ntmps21
  go_wp2_with fail
  refine TK.out.mono ?_
  rintro e w2 ⟨rfl, rfl⟩
  clear TK
  go_wp2_with fail
  go_ret
  exact ⟨rfl, HS.out, Fr.of_grown _ ((Grown.refl W).alloc _ _)⟩
theorem one_bad_24 (n : Int) (hn : (n == 30) = false) (o : Pl.Ob) (ho : L.reverse[0]? = some o) (hm : Pl.mayO o) (hf : Pl.fits 24 o.1 = false) :
    Calls Tryz.prog 21 #[.pointer (some ⟨p, 0, none⟩), .int .i64 n] W fun e w' => e = .returned (.int .i64 6) ∧ Stk W0 Pr p L w' ∧ FrS W0 Pr W w' := by
  have HS := Lib.hid (h.grown ((Grown.refl W).alloc #[.int .i64 24] 3))
  have TK := Lib.hid (take1_bad W0 Pr p L _ hlen HS.out o ho (Pl.mayO_kind hm) W.heap.size 1 (Nat.le_refl _) 24 (by simp [go_sem]) hf)
  clear h hlen ho hm hf
  go_enter Tryz.func21, Tryz.ntmps21
  go_wp2_with fail
  refine TK.out.mono ?_
  rintro e w2 ⟨g2, rfl⟩
  have G2 := Lib.hid (grown_trans ((Grown.refl W).alloc #[.int .i64 24] 3) g2)
  have HS2 := Lib.hid (HS.out.grown g2)
  clear TK g2
  go_wp2_with fail
  go_ret
  exact ⟨rfl, HS2.out, Fr.of_grown _ G2.out⟩
omit hlen in
theorem one_under_12 (hL : L.length < 1) :
    Calls Tryz.prog 21 #[.pointer (some ⟨p, 0, none⟩), .int .i64 30] W fun e w' => e = .returned (.int .i64 7) ∧ Stk W0 Pr p L w' ∧ FrS W0 Pr W w' := by
  have HS := Lib.hid (h.grown ((Grown.refl W).alloc #[.int .i64 12] 3))
  have TK := Lib.hid (take1_under W0 Pr p L _ HS.out hL W.heap.size 1)
  clear h hL
  go_enter Tryz.func21, Tryz.ntmps21
  go_wp2_with fail
  refine TK.out.mono ?_
  rintro e w2 ⟨rfl, rfl⟩
  clear TK
  go_wp2_with fail
  go_ret
  exact ⟨rfl, HS.out, Fr.of_grown _ ((Grown.refl W).alloc _ _)⟩
theorem one_bad_12 (o : Pl.Ob) (ho : L.reverse[0]? = some o) (hm : Pl.mayO o) (hf : Pl.fits 12 o.1 = false) :
    Calls Tryz.prog 21 #[.pointer (some ⟨p, 0, none⟩), .int .i64 30] W fun e w' => e = .returned (.int .i64 6) ∧ Stk W0 Pr p L w' ∧ FrS W0 Pr W w' := by
  have HS := Lib.hid (h.grown ((Grown.refl W).alloc #[.int .i64 12] 3))
  have TK := Lib.hid (take1_bad W0 Pr p L _ hlen HS.out o ho (Pl.mayO_kind hm) W.heap.size 1 (Nat.le_refl _) 12 (by simp [go_sem]) hf)
  clear h hlen ho hm hf
  go_enter Tryz.func21, Tryz.ntmps21
  go_wp2_with fail
  refine TK.out.mono ?_
  rintro e w2 ⟨g2, rfl⟩
  have G2 := Lib.hid (grown_trans ((Grown.refl W).alloc #[.int .i64 12] 3) g2)
  have HS2 := Lib.hid (HS.out.grown g2)
  clear TK g2
  go_wp2_with fail
  go_ret
  exact ⟨rfl, HS2.out, Fr.of_grown _ G2.out⟩
theorem one_30_2_0 (x : Bool) (ho : L.reverse[0]? = some (2, x, 0, 0, 0, ⟨#[]⟩)) (hm : Pl.mayO (2, x, 0, 0, 0, ⟨#[]⟩)) (h1 : 1 ≤ L.length) :
    Calls Tryz.prog 21 #[.pointer (some ⟨p, 0, none⟩), .int .i64 30] W fun e w' => e = .returned (.int .i64 (Pl.giveR L 1 [Pl.truth true]).1) ∧ Stk W0 Pr p (Pl.giveR L 1 [Pl.truth true]).2 w' ∧ FrS W0 Pr W w' := by
  have TR := Lib.hid (fun Z => truth_obj true Z)
  unfold Pl.truth at TR
  have HG := Lib.hid (fun Z (hS : Stk W0 Pr p L Z) b (hb : b = Z.heap.size) => give_row1 W0 Pr p L Z hlen hS (Pl.truth true) #[.int .i64 2, .bool false, .int .i64 1, .int .i64 0, .int .i64 0, .string ⟨#[]⟩] rfl h1 (Pl.truth_may _) b hb)
  clear h1
  have HS := Lib.hid (h.grown ((Grown.refl W).alloc #[.int .i64 12] 3))
  have TK := Lib.hid (take1_ok W0 Pr p L _ hlen HS.out (2, x, 0, 0, 0, ⟨#[]⟩) ho (Pl.mayO_kind hm) W.heap.size 1 (Nat.le_refl _) 12 (by simp [go_sem]) (show Pl.fits 12 2 = true by decide))
  clear h hlen ho hm
  go_enter Tryz.func21, Tryz.ntmps21
  go_wp2_with fail
  refine TK.out.mono ?_
  rintro e w2 ⟨g2, g, B2, rfl⟩
  have G2 := Lib.hid (grown_trans ((Grown.refl W).alloc #[.int .i64 12] 3) g2)
  have HS2 := Lib.hid (HS.out.grown g2)
  obtain ⟨c0, c1, c2, c3, c4, c5⟩ := B2.at6
  clear TK g2 HS B2
  go_wp2_with fail
  refine (TR.out _).mono ?_
  rintro e w3 ⟨rfl, g3⟩
  have G3 := Lib.hid (grown_trans (G2.out.alloc #[.int .i64 2, .bool x, .int .i64 0, .int .i64 0, .int .i64 0, .string ⟨#[]⟩] 25) g3)
  have HS3 := Lib.hid ((HS2.out.grown ((Grown.refl _).alloc #[.int .i64 2, .bool x, .int .i64 0, .int .i64 0, .int .i64 0, .string ⟨#[]⟩] 25)).grown g3)
  clear g3 TR c0 c1 c2 c3 c4 c5
  go_wp2_with fail
  with_reducible refine (HG.out _ HS3.out _ rfl).mono ?_
  rintro e w4 ⟨rfl, hs, hf⟩
  have H4 := Lib.hid (And.intro hs ((Fr.of_grown _ G3.out).trans hf))
  clear hs hf HG
  go_wp2_with fail
  go_ret
  exact ⟨rfl, H4.out⟩
theorem one_30_2_1 (x : Bool) (ho : L.reverse[0]? = some (2, x, 1, 0, 0, ⟨#[]⟩)) (hm : Pl.mayO (2, x, 1, 0, 0, ⟨#[]⟩)) (h1 : 1 ≤ L.length) :
    Calls Tryz.prog 21 #[.pointer (some ⟨p, 0, none⟩), .int .i64 30] W fun e w' => e = .returned (.int .i64 (Pl.giveR L 1 [Pl.truth false]).1) ∧ Stk W0 Pr p (Pl.giveR L 1 [Pl.truth false]).2 w' ∧ FrS W0 Pr W w' := by
  have TR := Lib.hid (fun Z => truth_obj false Z)
  unfold Pl.truth at TR
  have HG := Lib.hid (fun Z (hS : Stk W0 Pr p L Z) b (hb : b = Z.heap.size) => give_row1 W0 Pr p L Z hlen hS (Pl.truth false) #[.int .i64 2, .bool false, .int .i64 0, .int .i64 0, .int .i64 0, .string ⟨#[]⟩] rfl h1 (Pl.truth_may _) b hb)
  clear h1
  have HS := Lib.hid (h.grown ((Grown.refl W).alloc #[.int .i64 12] 3))
  have TK := Lib.hid (take1_ok W0 Pr p L _ hlen HS.out (2, x, 1, 0, 0, ⟨#[]⟩) ho (Pl.mayO_kind hm) W.heap.size 1 (Nat.le_refl _) 12 (by simp [go_sem]) (show Pl.fits 12 2 = true by decide))
  clear h hlen ho hm
  go_enter Tryz.func21, Tryz.ntmps21
  go_wp2_with fail
  refine TK.out.mono ?_
  rintro e w2 ⟨g2, g, B2, rfl⟩
  have G2 := Lib.hid (grown_trans ((Grown.refl W).alloc #[.int .i64 12] 3) g2)
  have HS2 := Lib.hid (HS.out.grown g2)
  obtain ⟨c0, c1, c2, c3, c4, c5⟩ := B2.at6
  clear TK g2 HS B2
  go_wp2_with fail
  refine (TR.out _).mono ?_
  rintro e w3 ⟨rfl, g3⟩
  have G3 := Lib.hid (grown_trans (G2.out.alloc #[.int .i64 2, .bool x, .int .i64 1, .int .i64 0, .int .i64 0, .string ⟨#[]⟩] 25) g3)
  have HS3 := Lib.hid ((HS2.out.grown ((Grown.refl _).alloc #[.int .i64 2, .bool x, .int .i64 1, .int .i64 0, .int .i64 0, .string ⟨#[]⟩] 25)).grown g3)
  clear g3 TR c0 c1 c2 c3 c4 c5
  go_wp2_with fail
  with_reducible refine (HG.out _ HS3.out _ rfl).mono ?_
  rintro e w4 ⟨rfl, hs, hf⟩
  have H4 := Lib.hid (And.intro hs ((Fr.of_grown _ G3.out).trans hf))
  clear hs hf HG
  go_wp2_with fail
  go_ret
  exact ⟨rfl, H4.out⟩
theorem one_30_3 (a : Int) (x : Bool) (ho : L.reverse[0]? = some (3, x, a, 0, 0, ⟨#[]⟩)) (hm : Pl.mayO (3, x, a, 0, 0, ⟨#[]⟩)) (h1 : 1 ≤ L.length) :
    Calls Tryz.prog 21 #[.pointer (some ⟨p, 0, none⟩), .int .i64 30] W fun e w' => e = .returned (.int .i64 (Pl.wholeR L 1 (-a - 1)).1) ∧ Stk W0 Pr p (Pl.wholeR L 1 (-a - 1)).2 w' ∧ FrS W0 Pr W w' := by
  have ia := (Pl.mayO_num hm (.inl rfl)).choose_spec.2.1 rfl
  unfold Pl.inInt at ia
  simp only at ia
  have WX := Lib.hid (fun Z (hS : Stk W0 Pr p L Z) => whole_any W0 Pr p L Z hlen hS 1 h1 (-a - 1))
  have hx := Pl.not_i64 a (by omega)
  obtain ⟨c, hc⟩ : ∃ c, c = -a - 1 := ⟨_, rfl⟩
  rw [← hc] at WX hx ⊢
  clear hc h1
  have HS := Lib.hid (h.grown ((Grown.refl W).alloc #[.int .i64 12] 3))
  have TK := Lib.hid (take1_ok W0 Pr p L _ hlen HS.out (3, x, a, 0, 0, ⟨#[]⟩) ho (Pl.mayO_kind hm) W.heap.size 1 (Nat.le_refl _) 12 (by simp [go_sem]) (show Pl.fits 12 3 = true by decide))
  clear h hlen ho hm
  go_enter Tryz.func21, Tryz.ntmps21
  go_wp2_with fail
  refine TK.out.mono ?_
  rintro e w2 ⟨g2, g, B2, rfl⟩
  have G2 := Lib.hid (grown_trans ((Grown.refl W).alloc #[.int .i64 12] 3) g2)
  have HS2 := Lib.hid (HS.out.grown g2)
  obtain ⟨c0, c1, c2, c3, c4, c5⟩ := B2.at6
  clear TK g2 HS B2
  go_wp2_with fail
  refine (WX.out _ (HS2.out.grown ((Grown.refl _).alloc #[.int .i64 3, .bool x, .int .i64 a, .int .i64 0, .int .i64 0, .string ⟨#[]⟩] 25))).mono ?_
  rintro e w4 ⟨rfl, hs, hf⟩
  have H4 := Lib.hid (And.intro hs ((Fr.of_grown _ (G2.out.alloc #[.int .i64 3, .bool x, .int .i64 a, .int .i64 0, .int .i64 0, .string ⟨#[]⟩] 25)).trans hf))
  clear hs hf WX
  go_wp2_with fail
  go_ret
  exact ⟨rfl, H4.out⟩
theorem one_17_3 (a : Int) (x : Bool) (ho : L.reverse[0]? = some (3, x, a, 0, 0, ⟨#[]⟩)) (hm : Pl.mayO (3, x, a, 0, 0, ⟨#[]⟩)) (h1 : 1 ≤ L.length) :
    Calls Tryz.prog 21 #[.pointer (some ⟨p, 0, none⟩), .int .i64 17] W fun e w' => e = .returned (.int .i64 (Pl.giveR L 1 [(3, false, -a, 0, 0, ⟨#[]⟩)]).1) ∧ Stk W0 Pr p (Pl.giveR L 1 [(3, false, -a, 0, 0, ⟨#[]⟩)]).2 w' ∧ FrS W0 Pr W w' := by
  have ia := (Pl.mayO_num hm (.inl rfl)).choose_spec.2.1 rfl
  unfold Pl.inInt at ia
  simp only at ia
  have HG := Lib.hid (fun Z (hS : Stk W0 Pr p L Z) b (hb : b = Z.heap.size) => give_row1 W0 Pr p L Z hlen hS (3, false, -a, 0, 0, ⟨#[]⟩) #[.int .i64 3, .bool false, .int .i64 (-a), .int .i64 0, .int .i64 0, .string ⟨#[]⟩] rfl h1 (Pl.may_intO (v := -a) (by unfold Pl.inInt; omega)) b hb)
  clear h1
  have HS := Lib.hid (h.grown ((Grown.refl W).alloc #[.int .i64 24] 3))
  have TK := Lib.hid (take1_ok W0 Pr p L _ hlen HS.out (3, x, a, 0, 0, ⟨#[]⟩) ho (Pl.mayO_kind hm) W.heap.size 1 (Nat.le_refl _) 24 (by simp [go_sem]) (show Pl.fits 24 3 = true by decide))
  clear h hlen ho hm
  go_enter Tryz.func21, Tryz.ntmps21
  go_wp2_with fail
  refine TK.out.mono ?_
  rintro e w2 ⟨g2, g, B2, rfl⟩
  have G2 := Lib.hid (grown_trans ((Grown.refl W).alloc #[.int .i64 24] 3) g2)
  have HS2 := Lib.hid (HS.out.grown g2)
  obtain ⟨c0, c1, c2, c3, c4, c5⟩ := B2.at6
  clear TK g2 HS B2
  go_wp2_with fail
  with_reducible refine (HG.out _ (HS2.out.grown ((Grown.refl _).alloc #[.int .i64 3, .bool x, .int .i64 a, .int .i64 0, .int .i64 0, .string ⟨#[]⟩] 25)) _ (by simp)).mono ?_
  rintro e w4 ⟨rfl, hs, hf⟩
  have H4 := Lib.hid (And.intro hs ((Fr.of_grown _ (G2.out.alloc #[.int .i64 3, .bool x, .int .i64 a, .int .i64 0, .int .i64 0, .string ⟨#[]⟩] 25)).trans hf))
  clear hs hf HG
  go_wp2_with fail
  go_ret
  exact ⟨rfl, H4.out⟩
theorem one_17_4 (a : Int) (x : Bool) (ho : L.reverse[0]? = some (4, x, a, 0, 0, ⟨#[]⟩)) (hm : Pl.mayO (4, x, a, 0, 0, ⟨#[]⟩)) (h1 : 1 ≤ L.length) :
    Calls Tryz.prog 21 #[.pointer (some ⟨p, 0, none⟩), .int .i64 17] W fun e w' => e = .returned (.int .i64 (Pl.giveR L 1 [(4, false, -a, 0, 0, ⟨#[]⟩)]).1) ∧ Stk W0 Pr p (Pl.giveR L 1 [(4, false, -a, 0, 0, ⟨#[]⟩)]).2 w' ∧ FrS W0 Pr W w' := by
  have ia := (Pl.mayO_num hm (.inr rfl)).choose_spec.2.2 rfl
  unfold Pl.inFix at ia
  simp only at ia
  have HG := Lib.hid (fun Z (hS : Stk W0 Pr p L Z) b (hb : b = Z.heap.size) => give_row1 W0 Pr p L Z hlen hS (4, false, -a, 0, 0, ⟨#[]⟩) #[.int .i64 4, .bool false, .int .i64 (-a), .int .i64 0, .int .i64 0, .string ⟨#[]⟩] rfl h1 (Pl.may_fix (v := -a) (by unfold Pl.inFix; omega)) b hb)
  clear h1
  have HS := Lib.hid (h.grown ((Grown.refl W).alloc #[.int .i64 24] 3))
  have TK := Lib.hid (take1_ok W0 Pr p L _ hlen HS.out (4, x, a, 0, 0, ⟨#[]⟩) ho (Pl.mayO_kind hm) W.heap.size 1 (Nat.le_refl _) 24 (by simp [go_sem]) (show Pl.fits 24 4 = true by decide))
  clear h hlen ho hm
  go_enter Tryz.func21, Tryz.ntmps21
  go_wp2_with fail
  refine TK.out.mono ?_
  rintro e w2 ⟨g2, g, B2, rfl⟩
  have G2 := Lib.hid (grown_trans ((Grown.refl W).alloc #[.int .i64 24] 3) g2)
  have HS2 := Lib.hid (HS.out.grown g2)
  obtain ⟨c0, c1, c2, c3, c4, c5⟩ := B2.at6
  clear TK g2 HS B2
  go_wp2_with fail
  with_reducible refine (HG.out _ (HS2.out.grown ((Grown.refl _).alloc #[.int .i64 4, .bool x, .int .i64 a, .int .i64 0, .int .i64 0, .string ⟨#[]⟩] 25)) _ (by simp)).mono ?_
  rintro e w4 ⟨rfl, hs, hf⟩
  have H4 := Lib.hid (And.intro hs ((Fr.of_grown _ (G2.out.alloc #[.int .i64 4, .bool x, .int .i64 a, .int .i64 0, .int .i64 0, .string ⟨#[]⟩] 25)).trans hf))
  clear hs hf HG
  go_wp2_with fail
  go_ret
  exact ⟨rfl, H4.out⟩
theorem one_18_3 (a : Int) (x : Bool) (ho : L.reverse[0]? = some (3, x, a, 0, 0, ⟨#[]⟩)) (hm : Pl.mayO (3, x, a, 0, 0, ⟨#[]⟩)) (h1 : 1 ≤ L.length) (ha : a < 0) :
    Calls Tryz.prog 21 #[.pointer (some ⟨p, 0, none⟩), .int .i64 18] W fun e w' => e = .returned (.int .i64 (Pl.giveR L 1 [(3, false, -a, 0, 0, ⟨#[]⟩)]).1) ∧ Stk W0 Pr p (Pl.giveR L 1 [(3, false, -a, 0, 0, ⟨#[]⟩)]).2 w' ∧ FrS W0 Pr W w' := by
  have ia := (Pl.mayO_num hm (.inl rfl)).choose_spec.2.1 rfl
  unfold Pl.inInt at ia
  simp only at ia
  have HG := Lib.hid (fun Z (hS : Stk W0 Pr p L Z) b (hb : b = Z.heap.size) => give_row1 W0 Pr p L Z hlen hS (3, false, -a, 0, 0, ⟨#[]⟩) #[.int .i64 3, .bool false, .int .i64 (-a), .int .i64 0, .int .i64 0, .string ⟨#[]⟩] rfl h1 (Pl.may_intO (v := -a) (by unfold Pl.inInt; omega)) b hb)
  clear h1
  have hge : (0 ≤ a) = False := eq_false (by omega)
  have HS := Lib.hid (h.grown ((Grown.refl W).alloc #[.int .i64 24] 3))
  have TK := Lib.hid (take1_ok W0 Pr p L _ hlen HS.out (3, x, a, 0, 0, ⟨#[]⟩) ho (Pl.mayO_kind hm) W.heap.size 1 (Nat.le_refl _) 24 (by simp [go_sem]) (show Pl.fits 24 3 = true by decide))
  clear h hlen ho hm
  go_enter Tryz.func21, Tryz.ntmps21
  go_wp2_with fail
  refine TK.out.mono ?_
  rintro e w2 ⟨g2, g, B2, rfl⟩
  have G2 := Lib.hid (grown_trans ((Grown.refl W).alloc #[.int .i64 24] 3) g2)
  have HS2 := Lib.hid (HS.out.grown g2)
  obtain ⟨c0, c1, c2, c3, c4, c5⟩ := B2.at6
  clear TK g2 HS B2
  go_wp2_with fail
  with_reducible refine (HG.out _ (HS2.out.grown ((Grown.refl _).alloc #[.int .i64 3, .bool x, .int .i64 a, .int .i64 0, .int .i64 0, .string ⟨#[]⟩] 25)) _ (by simp)).mono ?_
  rintro e w4 ⟨rfl, hs, hf⟩
  have H4 := Lib.hid (And.intro hs ((Fr.of_grown _ (G2.out.alloc #[.int .i64 3, .bool x, .int .i64 a, .int .i64 0, .int .i64 0, .string ⟨#[]⟩] 25)).trans hf))
  clear hs hf HG
  go_wp2_with fail
  go_ret
  exact ⟨rfl, H4.out⟩
theorem one_18_3_up (a : Int) (x : Bool) (ho : L.reverse[0]? = some (3, x, a, 0, 0, ⟨#[]⟩)) (hm : Pl.mayO (3, x, a, 0, 0, ⟨#[]⟩)) (h1 : 1 ≤ L.length) (ha : 0 ≤ a) :
    Calls Tryz.prog 21 #[.pointer (some ⟨p, 0, none⟩), .int .i64 18] W fun e w' => e = .returned (.int .i64 (((0, L) : Int × List Pl.Ob)).1) ∧ Stk W0 Pr p (((0, L) : Int × List Pl.Ob)).2 w' ∧ FrS W0 Pr W w' := by
  clear h1
  have HS := Lib.hid (h.grown ((Grown.refl W).alloc #[.int .i64 24] 3))
  have TK := Lib.hid (take1_ok W0 Pr p L _ hlen HS.out (3, x, a, 0, 0, ⟨#[]⟩) ho (Pl.mayO_kind hm) W.heap.size 1 (Nat.le_refl _) 24 (by simp [go_sem]) (show Pl.fits 24 3 = true by decide))
  clear h hlen ho hm
  go_enter Tryz.func21, Tryz.ntmps21
  go_wp2_with fail
  refine TK.out.mono ?_
  rintro e w2 ⟨g2, g, B2, rfl⟩
  have G2 := Lib.hid (grown_trans ((Grown.refl W).alloc #[.int .i64 24] 3) g2)
  have HS2 := Lib.hid (HS.out.grown g2)
  obtain ⟨c0, c1, c2, c3, c4, c5⟩ := B2.at6
  clear TK g2 HS B2
  go_wp2_with fail
  go_ret
  exact ⟨rfl, (HS2.out.grown ((Grown.refl _).alloc #[.int .i64 3, .bool x, .int .i64 a, .int .i64 0, .int .i64 0, .string ⟨#[]⟩] 25)), Fr.of_grown _ (G2.out.alloc _ _)⟩
theorem one_18_4 (a : Int) (x : Bool) (ho : L.reverse[0]? = some (4, x, a, 0, 0, ⟨#[]⟩)) (hm : Pl.mayO (4, x, a, 0, 0, ⟨#[]⟩)) (h1 : 1 ≤ L.length) (ha : a < 0) :
    Calls Tryz.prog 21 #[.pointer (some ⟨p, 0, none⟩), .int .i64 18] W fun e w' => e = .returned (.int .i64 (Pl.giveR L 1 [(4, false, -a, 0, 0, ⟨#[]⟩)]).1) ∧ Stk W0 Pr p (Pl.giveR L 1 [(4, false, -a, 0, 0, ⟨#[]⟩)]).2 w' ∧ FrS W0 Pr W w' := by
  have ia := (Pl.mayO_num hm (.inr rfl)).choose_spec.2.2 rfl
  unfold Pl.inFix at ia
  simp only at ia
  have HG := Lib.hid (fun Z (hS : Stk W0 Pr p L Z) b (hb : b = Z.heap.size) => give_row1 W0 Pr p L Z hlen hS (4, false, -a, 0, 0, ⟨#[]⟩) #[.int .i64 4, .bool false, .int .i64 (-a), .int .i64 0, .int .i64 0, .string ⟨#[]⟩] rfl h1 (Pl.may_fix (v := -a) (by unfold Pl.inFix; omega)) b hb)
  clear h1
  have hge : (0 ≤ a) = False := eq_false (by omega)
  have HS := Lib.hid (h.grown ((Grown.refl W).alloc #[.int .i64 24] 3))
  have TK := Lib.hid (take1_ok W0 Pr p L _ hlen HS.out (4, x, a, 0, 0, ⟨#[]⟩) ho (Pl.mayO_kind hm) W.heap.size 1 (Nat.le_refl _) 24 (by simp [go_sem]) (show Pl.fits 24 4 = true by decide))
  clear h hlen ho hm
  go_enter Tryz.func21, Tryz.ntmps21
  go_wp2_with fail
  refine TK.out.mono ?_
  rintro e w2 ⟨g2, g, B2, rfl⟩
  have G2 := Lib.hid (grown_trans ((Grown.refl W).alloc #[.int .i64 24] 3) g2)
  have HS2 := Lib.hid (HS.out.grown g2)
  obtain ⟨c0, c1, c2, c3, c4, c5⟩ := B2.at6
  clear TK g2 HS B2
  go_wp2_with fail
  with_reducible refine (HG.out _ (HS2.out.grown ((Grown.refl _).alloc #[.int .i64 4, .bool x, .int .i64 a, .int .i64 0, .int .i64 0, .string ⟨#[]⟩] 25)) _ (by simp)).mono ?_
  rintro e w4 ⟨rfl, hs, hf⟩
  have H4 := Lib.hid (And.intro hs ((Fr.of_grown _ (G2.out.alloc #[.int .i64 4, .bool x, .int .i64 a, .int .i64 0, .int .i64 0, .string ⟨#[]⟩] 25)).trans hf))
  clear hs hf HG
  go_wp2_with fail
  go_ret
  exact ⟨rfl, H4.out⟩
theorem one_18_4_up (a : Int) (x : Bool) (ho : L.reverse[0]? = some (4, x, a, 0, 0, ⟨#[]⟩)) (hm : Pl.mayO (4, x, a, 0, 0, ⟨#[]⟩)) (h1 : 1 ≤ L.length) (ha : 0 ≤ a) :
    Calls Tryz.prog 21 #[.pointer (some ⟨p, 0, none⟩), .int .i64 18] W fun e w' => e = .returned (.int .i64 (((0, L) : Int × List Pl.Ob)).1) ∧ Stk W0 Pr p (((0, L) : Int × List Pl.Ob)).2 w' ∧ FrS W0 Pr W w' := by
  clear h1
  have HS := Lib.hid (h.grown ((Grown.refl W).alloc #[.int .i64 24] 3))
  have TK := Lib.hid (take1_ok W0 Pr p L _ hlen HS.out (4, x, a, 0, 0, ⟨#[]⟩) ho (Pl.mayO_kind hm) W.heap.size 1 (Nat.le_refl _) 24 (by simp [go_sem]) (show Pl.fits 24 4 = true by decide))
  clear h hlen ho hm
  go_enter Tryz.func21, Tryz.ntmps21
  go_wp2_with fail
  refine TK.out.mono ?_
  rintro e w2 ⟨g2, g, B2, rfl⟩
  have G2 := Lib.hid (grown_trans ((Grown.refl W).alloc #[.int .i64 24] 3) g2)
  have HS2 := Lib.hid (HS.out.grown g2)
  obtain ⟨c0, c1, c2, c3, c4, c5⟩ := B2.at6
  clear TK g2 HS B2
  go_wp2_with fail
  go_ret
  exact ⟨rfl, (HS2.out.grown ((Grown.refl _).alloc #[.int .i64 4, .bool x, .int .i64 a, .int .i64 0, .int .i64 0, .string ⟨#[]⟩] 25)), Fr.of_grown _ (G2.out.alloc _ _)⟩
theorem one_19_3 (a : Int) (x : Bool) (ho : L.reverse[0]? = some (3, x, a, 0, 0, ⟨#[]⟩)) (hm : Pl.mayO (3, x, a, 0, 0, ⟨#[]⟩)) (h1 : 1 ≤ L.length) :
    Calls Tryz.prog 21 #[.pointer (some ⟨p, 0, none⟩), .int .i64 19] W fun e w' => e = .returned (.int .i64 (((0, L) : Int × List Pl.Ob)).1) ∧ Stk W0 Pr p (((0, L) : Int × List Pl.Ob)).2 w' ∧ FrS W0 Pr W w' := by
  clear h1
  have HS := Lib.hid (h.grown ((Grown.refl W).alloc #[.int .i64 24] 3))
  have TK := Lib.hid (take1_ok W0 Pr p L _ hlen HS.out (3, x, a, 0, 0, ⟨#[]⟩) ho (Pl.mayO_kind hm) W.heap.size 1 (Nat.le_refl _) 24 (by simp [go_sem]) (show Pl.fits 24 3 = true by decide))
  clear h hlen ho hm
  go_enter Tryz.func21, Tryz.ntmps21
  go_wp2_with fail
  refine TK.out.mono ?_
  rintro e w2 ⟨g2, g, B2, rfl⟩
  have G2 := Lib.hid (grown_trans ((Grown.refl W).alloc #[.int .i64 24] 3) g2)
  have HS2 := Lib.hid (HS.out.grown g2)
  obtain ⟨c0, c1, c2, c3, c4, c5⟩ := B2.at6
  clear TK g2 HS B2
  go_wp2_with fail
  go_ret
  exact ⟨rfl, (HS2.out.grown ((Grown.refl _).alloc #[.int .i64 3, .bool x, .int .i64 a, .int .i64 0, .int .i64 0, .string ⟨#[]⟩] 25)), Fr.of_grown _ (G2.out.alloc _ _)⟩
theorem one_19_4 (a : Int) (x : Bool) (ho : L.reverse[0]? = some (4, x, a, 0, 0, ⟨#[]⟩)) (hm : Pl.mayO (4, x, a, 0, 0, ⟨#[]⟩)) (h1 : 1 ≤ L.length) :
    Calls Tryz.prog 21 #[.pointer (some ⟨p, 0, none⟩), .int .i64 19] W fun e w' => e = .returned (.int .i64 (Pl.fixedR L 1 (Pl.fceil a) true).1) ∧ Stk W0 Pr p (Pl.fixedR L 1 (Pl.fceil a) true).2 w' ∧ FrS W0 Pr W w' := by
  have FF := Lib.hid (fun Z => fceil_any a Z)
  have FX := Lib.hid (fun Z (hS : Stk W0 Pr p L Z) => fixed_any W0 Pr p L Z hlen hS 1 h1 (Pl.fceil a) true)
  clear h1
  have HS := Lib.hid (h.grown ((Grown.refl W).alloc #[.int .i64 24] 3))
  have TK := Lib.hid (take1_ok W0 Pr p L _ hlen HS.out (4, x, a, 0, 0, ⟨#[]⟩) ho (Pl.mayO_kind hm) W.heap.size 1 (Nat.le_refl _) 24 (by simp [go_sem]) (show Pl.fits 24 4 = true by decide))
  clear h hlen ho hm
  go_enter Tryz.func21, Tryz.ntmps21
  go_wp2_with fail
  refine TK.out.mono ?_
  rintro e w2 ⟨g2, g, B2, rfl⟩
  have G2 := Lib.hid (grown_trans ((Grown.refl W).alloc #[.int .i64 24] 3) g2)
  have HS2 := Lib.hid (HS.out.grown g2)
  obtain ⟨c0, c1, c2, c3, c4, c5⟩ := B2.at6
  clear TK g2 HS B2
  obtain ⟨r, u1, u2, u3, u4, u5, m1, m2, m3, m4, m5, gm, l19, l20, l21, l22⟩ := map_one (w2.alloc (.cells #[.int .i64 4, .bool x, .int .i64 a, .int .i64 0, .int .i64 0, .string ⟨#[]⟩] 25))
  have GM := Lib.hid (grown_trans (G2.out.alloc #[.int .i64 4, .bool x, .int .i64 a, .int .i64 0, .int .i64 0, .string ⟨#[]⟩] 25) gm)
  have HSM := Lib.hid ((HS2.out.grown ((Grown.refl _).alloc #[.int .i64 4, .bool x, .int .i64 a, .int .i64 0, .int .i64 0, .string ⟨#[]⟩] 25)).grown gm)
  have d2 : u5.cell? ⟨w2.heap.size, 2, none⟩ = some (.int .i64 a) := grown_cell gm (by simp [go_sem])
  clear gm G2 HS2
  go_wp2_with fail
  refine (FF.out _).mono ?_
  rintro e w7 ⟨rfl, rfl⟩
  clear m1 m2 m3 m4 m5 l19 l20 l21 l22 FF
  go_wp2_with fail
  refine (FX.out _ HSM.out).mono ?_
  rintro e w8 ⟨rfl, hs, hf⟩
  have H8 := Lib.hid (And.intro hs ((Fr.of_grown _ GM.out).trans hf))
  clear hs hf FX GM
  go_wp2_with fail
  go_ret
  exact ⟨rfl, H8.out⟩
theorem one_20_3 (a : Int) (x : Bool) (ho : L.reverse[0]? = some (3, x, a, 0, 0, ⟨#[]⟩)) (hm : Pl.mayO (3, x, a, 0, 0, ⟨#[]⟩)) (h1 : 1 ≤ L.length) :
    Calls Tryz.prog 21 #[.pointer (some ⟨p, 0, none⟩), .int .i64 20] W fun e w' => e = .returned (.int .i64 (((0, L) : Int × List Pl.Ob)).1) ∧ Stk W0 Pr p (((0, L) : Int × List Pl.Ob)).2 w' ∧ FrS W0 Pr W w' := by
  clear h1
  have HS := Lib.hid (h.grown ((Grown.refl W).alloc #[.int .i64 24] 3))
  have TK := Lib.hid (take1_ok W0 Pr p L _ hlen HS.out (3, x, a, 0, 0, ⟨#[]⟩) ho (Pl.mayO_kind hm) W.heap.size 1 (Nat.le_refl _) 24 (by simp [go_sem]) (show Pl.fits 24 3 = true by decide))
  clear h hlen ho hm
  go_enter Tryz.func21, Tryz.ntmps21
  go_wp2_with fail
  refine TK.out.mono ?_
  rintro e w2 ⟨g2, g, B2, rfl⟩
  have G2 := Lib.hid (grown_trans ((Grown.refl W).alloc #[.int .i64 24] 3) g2)
  have HS2 := Lib.hid (HS.out.grown g2)
  obtain ⟨c0, c1, c2, c3, c4, c5⟩ := B2.at6
  clear TK g2 HS B2
  go_wp2_with fail
  go_ret
  exact ⟨rfl, (HS2.out.grown ((Grown.refl _).alloc #[.int .i64 3, .bool x, .int .i64 a, .int .i64 0, .int .i64 0, .string ⟨#[]⟩] 25)), Fr.of_grown _ (G2.out.alloc _ _)⟩
theorem one_20_4 (a : Int) (x : Bool) (ho : L.reverse[0]? = some (4, x, a, 0, 0, ⟨#[]⟩)) (hm : Pl.mayO (4, x, a, 0, 0, ⟨#[]⟩)) (h1 : 1 ≤ L.length) :
    Calls Tryz.prog 21 #[.pointer (some ⟨p, 0, none⟩), .int .i64 20] W fun e w' => e = .returned (.int .i64 (Pl.fixedR L 1 (Pl.ffloor a) true).1) ∧ Stk W0 Pr p (Pl.fixedR L 1 (Pl.ffloor a) true).2 w' ∧ FrS W0 Pr W w' := by
  have FF := Lib.hid (fun Z => ffloor_any a Z)
  have FX := Lib.hid (fun Z (hS : Stk W0 Pr p L Z) => fixed_any W0 Pr p L Z hlen hS 1 h1 (Pl.ffloor a) true)
  clear h1
  have HS := Lib.hid (h.grown ((Grown.refl W).alloc #[.int .i64 24] 3))
  have TK := Lib.hid (take1_ok W0 Pr p L _ hlen HS.out (4, x, a, 0, 0, ⟨#[]⟩) ho (Pl.mayO_kind hm) W.heap.size 1 (Nat.le_refl _) 24 (by simp [go_sem]) (show Pl.fits 24 4 = true by decide))
  clear h hlen ho hm
  go_enter Tryz.func21, Tryz.ntmps21
  go_wp2_with fail
  refine TK.out.mono ?_
  rintro e w2 ⟨g2, g, B2, rfl⟩
  have G2 := Lib.hid (grown_trans ((Grown.refl W).alloc #[.int .i64 24] 3) g2)
  have HS2 := Lib.hid (HS.out.grown g2)
  obtain ⟨c0, c1, c2, c3, c4, c5⟩ := B2.at6
  clear TK g2 HS B2
  obtain ⟨r, u1, u2, u3, u4, u5, m1, m2, m3, m4, m5, gm, l19, l20, l21, l22⟩ := map_one (w2.alloc (.cells #[.int .i64 4, .bool x, .int .i64 a, .int .i64 0, .int .i64 0, .string ⟨#[]⟩] 25))
  have GM := Lib.hid (grown_trans (G2.out.alloc #[.int .i64 4, .bool x, .int .i64 a, .int .i64 0, .int .i64 0, .string ⟨#[]⟩] 25) gm)
  have HSM := Lib.hid ((HS2.out.grown ((Grown.refl _).alloc #[.int .i64 4, .bool x, .int .i64 a, .int .i64 0, .int .i64 0, .string ⟨#[]⟩] 25)).grown gm)
  have d2 : u5.cell? ⟨w2.heap.size, 2, none⟩ = some (.int .i64 a) := grown_cell gm (by simp [go_sem])
  clear gm G2 HS2
  go_wp2_with fail
  refine (FF.out _).mono ?_
  rintro e w7 ⟨rfl, rfl⟩
  clear m1 m2 m3 m4 m5 l19 l20 l21 l22 FF
  go_wp2_with fail
  refine (FX.out _ HSM.out).mono ?_
  rintro e w8 ⟨rfl, hs, hf⟩
  have H8 := Lib.hid (And.intro hs ((Fr.of_grown _ GM.out).trans hf))
  clear hs hf FX GM
  go_wp2_with fail
  go_ret
  exact ⟨rfl, H8.out⟩
theorem one_21_3 (a : Int) (x : Bool) (ho : L.reverse[0]? = some (3, x, a, 0, 0, ⟨#[]⟩)) (hm : Pl.mayO (3, x, a, 0, 0, ⟨#[]⟩)) (h1 : 1 ≤ L.length) :
    Calls Tryz.prog 21 #[.pointer (some ⟨p, 0, none⟩), .int .i64 21] W fun e w' => e = .returned (.int .i64 (((0, L) : Int × List Pl.Ob)).1) ∧ Stk W0 Pr p (((0, L) : Int × List Pl.Ob)).2 w' ∧ FrS W0 Pr W w' := by
  clear h1
  have HS := Lib.hid (h.grown ((Grown.refl W).alloc #[.int .i64 24] 3))
  have TK := Lib.hid (take1_ok W0 Pr p L _ hlen HS.out (3, x, a, 0, 0, ⟨#[]⟩) ho (Pl.mayO_kind hm) W.heap.size 1 (Nat.le_refl _) 24 (by simp [go_sem]) (show Pl.fits 24 3 = true by decide))
  clear h hlen ho hm
  go_enter Tryz.func21, Tryz.ntmps21
  go_wp2_with fail
  refine TK.out.mono ?_
  rintro e w2 ⟨g2, g, B2, rfl⟩
  have G2 := Lib.hid (grown_trans ((Grown.refl W).alloc #[.int .i64 24] 3) g2)
  have HS2 := Lib.hid (HS.out.grown g2)
  obtain ⟨c0, c1, c2, c3, c4, c5⟩ := B2.at6
  clear TK g2 HS B2
  go_wp2_with fail
  go_ret
  exact ⟨rfl, (HS2.out.grown ((Grown.refl _).alloc #[.int .i64 3, .bool x, .int .i64 a, .int .i64 0, .int .i64 0, .string ⟨#[]⟩] 25)), Fr.of_grown _ (G2.out.alloc _ _)⟩
theorem one_21_4 (a : Int) (x : Bool) (ho : L.reverse[0]? = some (4, x, a, 0, 0, ⟨#[]⟩)) (hm : Pl.mayO (4, x, a, 0, 0, ⟨#[]⟩)) (h1 : 1 ≤ L.length) :
    Calls Tryz.prog 21 #[.pointer (some ⟨p, 0, none⟩), .int .i64 21] W fun e w' => e = .returned (.int .i64 (Pl.fixedR L 1 (Pl.fround a) true).1) ∧ Stk W0 Pr p (Pl.fixedR L 1 (Pl.fround a) true).2 w' ∧ FrS W0 Pr W w' := by
  have FF := Lib.hid (fun Z => fround_any a Z)
  have FX := Lib.hid (fun Z (hS : Stk W0 Pr p L Z) => fixed_any W0 Pr p L Z hlen hS 1 h1 (Pl.fround a) true)
  clear h1
  have HS := Lib.hid (h.grown ((Grown.refl W).alloc #[.int .i64 24] 3))
  have TK := Lib.hid (take1_ok W0 Pr p L _ hlen HS.out (4, x, a, 0, 0, ⟨#[]⟩) ho (Pl.mayO_kind hm) W.heap.size 1 (Nat.le_refl _) 24 (by simp [go_sem]) (show Pl.fits 24 4 = true by decide))
  clear h hlen ho hm
  go_enter Tryz.func21, Tryz.ntmps21
  go_wp2_with fail
  refine TK.out.mono ?_
  rintro e w2 ⟨g2, g, B2, rfl⟩
  have G2 := Lib.hid (grown_trans ((Grown.refl W).alloc #[.int .i64 24] 3) g2)
  have HS2 := Lib.hid (HS.out.grown g2)
  obtain ⟨c0, c1, c2, c3, c4, c5⟩ := B2.at6
  clear TK g2 HS B2
  obtain ⟨r, u1, u2, u3, u4, u5, m1, m2, m3, m4, m5, gm, l19, l20, l21, l22⟩ := map_one (w2.alloc (.cells #[.int .i64 4, .bool x, .int .i64 a, .int .i64 0, .int .i64 0, .string ⟨#[]⟩] 25))
  have GM := Lib.hid (grown_trans (G2.out.alloc #[.int .i64 4, .bool x, .int .i64 a, .int .i64 0, .int .i64 0, .string ⟨#[]⟩] 25) gm)
  have HSM := Lib.hid ((HS2.out.grown ((Grown.refl _).alloc #[.int .i64 4, .bool x, .int .i64 a, .int .i64 0, .int .i64 0, .string ⟨#[]⟩] 25)).grown gm)
  have d2 : u5.cell? ⟨w2.heap.size, 2, none⟩ = some (.int .i64 a) := grown_cell gm (by simp [go_sem])
  clear gm G2 HS2
  go_wp2_with fail
  refine (FF.out _).mono ?_
  rintro e w7 ⟨rfl, rfl⟩
  clear m1 m2 m3 m4 m5 l19 l20 l21 l22 FF
  go_wp2_with fail
  refine (FX.out _ HSM.out).mono ?_
  rintro e w8 ⟨rfl, hs, hf⟩
  have H8 := Lib.hid (And.intro hs ((Fr.of_grown _ GM.out).trans hf))
  clear hs hf FX GM
  go_wp2_with fail
  go_ret
  exact ⟨rfl, H8.out⟩
theorem one_22_3 (a : Int) (x : Bool) (ho : L.reverse[0]? = some (3, x, a, 0, 0, ⟨#[]⟩)) (hm : Pl.mayO (3, x, a, 0, 0, ⟨#[]⟩)) (h1 : 1 ≤ L.length) :
    Calls Tryz.prog 21 #[.pointer (some ⟨p, 0, none⟩), .int .i64 22] W fun e w' => e = .returned (.int .i64 (((0, L) : Int × List Pl.Ob)).1) ∧ Stk W0 Pr p (((0, L) : Int × List Pl.Ob)).2 w' ∧ FrS W0 Pr W w' := by
  clear h1
  have HS := Lib.hid (h.grown ((Grown.refl W).alloc #[.int .i64 24] 3))
  have TK := Lib.hid (take1_ok W0 Pr p L _ hlen HS.out (3, x, a, 0, 0, ⟨#[]⟩) ho (Pl.mayO_kind hm) W.heap.size 1 (Nat.le_refl _) 24 (by simp [go_sem]) (show Pl.fits 24 3 = true by decide))
  clear h hlen ho hm
  go_enter Tryz.func21, Tryz.ntmps21
  go_wp2_with fail
  refine TK.out.mono ?_
  rintro e w2 ⟨g2, g, B2, rfl⟩
  have G2 := Lib.hid (grown_trans ((Grown.refl W).alloc #[.int .i64 24] 3) g2)
  have HS2 := Lib.hid (HS.out.grown g2)
  obtain ⟨c0, c1, c2, c3, c4, c5⟩ := B2.at6
  clear TK g2 HS B2
  go_wp2_with fail
  go_ret
  exact ⟨rfl, (HS2.out.grown ((Grown.refl _).alloc #[.int .i64 3, .bool x, .int .i64 a, .int .i64 0, .int .i64 0, .string ⟨#[]⟩] 25)), Fr.of_grown _ (G2.out.alloc _ _)⟩
theorem one_22_4 (a : Int) (x : Bool) (ho : L.reverse[0]? = some (4, x, a, 0, 0, ⟨#[]⟩)) (hm : Pl.mayO (4, x, a, 0, 0, ⟨#[]⟩)) (h1 : 1 ≤ L.length) :
    Calls Tryz.prog 21 #[.pointer (some ⟨p, 0, none⟩), .int .i64 22] W fun e w' => e = .returned (.int .i64 (Pl.fixedR L 1 (Pl.ftrunc a) true).1) ∧ Stk W0 Pr p (Pl.fixedR L 1 (Pl.ftrunc a) true).2 w' ∧ FrS W0 Pr W w' := by
  have FF := Lib.hid (fun Z => ftrunc_any a Z)
  have FX := Lib.hid (fun Z (hS : Stk W0 Pr p L Z) => fixed_any W0 Pr p L Z hlen hS 1 h1 (Pl.ftrunc a) true)
  clear h1
  have HS := Lib.hid (h.grown ((Grown.refl W).alloc #[.int .i64 24] 3))
  have TK := Lib.hid (take1_ok W0 Pr p L _ hlen HS.out (4, x, a, 0, 0, ⟨#[]⟩) ho (Pl.mayO_kind hm) W.heap.size 1 (Nat.le_refl _) 24 (by simp [go_sem]) (show Pl.fits 24 4 = true by decide))
  clear h hlen ho hm
  go_enter Tryz.func21, Tryz.ntmps21
  go_wp2_with fail
  refine TK.out.mono ?_
  rintro e w2 ⟨g2, g, B2, rfl⟩
  have G2 := Lib.hid (grown_trans ((Grown.refl W).alloc #[.int .i64 24] 3) g2)
  have HS2 := Lib.hid (HS.out.grown g2)
  obtain ⟨c0, c1, c2, c3, c4, c5⟩ := B2.at6
  clear TK g2 HS B2
  obtain ⟨r, u1, u2, u3, u4, u5, m1, m2, m3, m4, m5, gm, l19, l20, l21, l22⟩ := map_one (w2.alloc (.cells #[.int .i64 4, .bool x, .int .i64 a, .int .i64 0, .int .i64 0, .string ⟨#[]⟩] 25))
  have GM := Lib.hid (grown_trans (G2.out.alloc #[.int .i64 4, .bool x, .int .i64 a, .int .i64 0, .int .i64 0, .string ⟨#[]⟩] 25) gm)
  have HSM := Lib.hid ((HS2.out.grown ((Grown.refl _).alloc #[.int .i64 4, .bool x, .int .i64 a, .int .i64 0, .int .i64 0, .string ⟨#[]⟩] 25)).grown gm)
  have d2 : u5.cell? ⟨w2.heap.size, 2, none⟩ = some (.int .i64 a) := grown_cell gm (by simp [go_sem])
  clear gm G2 HS2
  go_wp2_with fail
  refine (FF.out _).mono ?_
  rintro e w7 ⟨rfl, rfl⟩
  clear m1 m2 m3 m4 m5 l19 l20 l21 l22 FF
  go_wp2_with fail
  refine (FX.out _ HSM.out).mono ?_
  rintro e w8 ⟨rfl, hs, hf⟩
  have H8 := Lib.hid (And.intro hs ((Fr.of_grown _ GM.out).trans hf))
  clear hs hf FX GM
  go_wp2_with fail
  go_ret
  exact ⟨rfl, H8.out⟩
theorem one_23_3_no (a : Int) (x : Bool) (ho : L.reverse[0]? = some (3, x, a, 0, 0, ⟨#[]⟩)) (hm : Pl.mayO (3, x, a, 0, 0, ⟨#[]⟩)) (h1 : 1 ≤ L.length) (hv : (Pl.numv (3, x, a, 0, 0, ⟨#[]⟩)).2 = false) :
    Calls Tryz.prog 21 #[.pointer (some ⟨p, 0, none⟩), .int .i64 23] W fun e w' => e = .returned (.int .i64 (((2, L) : Int × List Pl.Ob)).1) ∧ Stk W0 Pr p (((2, L) : Int × List Pl.Ob)).2 w' ∧ FrS W0 Pr W w' := by
  have fa := Pl.numv_fix hm (.inl rfl)
  have NA := Lib.hid (fun Z => num_obj (3, x, a, 0, 0, ⟨#[]⟩) hm (.inl rfl) Z)
  rw [hv] at NA
  generalize Pl.numv (3, x, a, 0, 0, ⟨#[]⟩) = NV at NA fa
  clear h1 hv
  have HS := Lib.hid (h.grown ((Grown.refl W).alloc #[.int .i64 24] 3))
  have TK := Lib.hid (take1_ok W0 Pr p L _ hlen HS.out (3, x, a, 0, 0, ⟨#[]⟩) ho (Pl.mayO_kind hm) W.heap.size 1 (Nat.le_refl _) 24 (by simp [go_sem]) (show Pl.fits 24 3 = true by decide))
  clear h hlen ho hm
  go_enter Tryz.func21, Tryz.ntmps21
  go_wp2_with fail
  refine TK.out.mono ?_
  rintro e w2 ⟨g2, g, B2, rfl⟩
  have G2 := Lib.hid (grown_trans ((Grown.refl W).alloc #[.int .i64 24] 3) g2)
  have HS2 := Lib.hid (HS.out.grown g2)
  obtain ⟨c0, c1, c2, c3, c4, c5⟩ := B2.at6
  clear TK g2 HS B2
  go_wp2_with fail
  refine (NA.out _).mono ?_
  rintro e w3 ⟨rfl, g3⟩
  have G3 := Lib.hid (grown_trans (G2.out.alloc #[.int .i64 3, .bool x, .int .i64 a, .int .i64 0, .int .i64 0, .string ⟨#[]⟩] 25) g3)
  have HS3 := Lib.hid ((HS2.out.grown ((Grown.refl _).alloc #[.int .i64 3, .bool x, .int .i64 a, .int .i64 0, .int .i64 0, .string ⟨#[]⟩] 25)).grown g3)
  clear g3 NA c0 c1 c2 c3 c4 c5 HS2 G2
  go_wp2_with fail
  go_ret
  exact ⟨rfl, HS3.out, Fr.of_grown _ G3.out⟩
theorem one_23_3 (a : Int) (x : Bool) (ho : L.reverse[0]? = some (3, x, a, 0, 0, ⟨#[]⟩)) (hm : Pl.mayO (3, x, a, 0, 0, ⟨#[]⟩)) (h1 : 1 ≤ L.length) (v : Int) (hv : Pl.numv (3, x, a, 0, 0, ⟨#[]⟩) = (v, true)) (h0 : 0 ≤ v) :
    Calls Tryz.prog 21 #[.pointer (some ⟨p, 0, none⟩), .int .i64 23] W fun e w' => e = .returned (.int .i64 (Pl.fixedR L 1 (Pl.root (v * 65536)) true).1) ∧ Stk W0 Pr p (Pl.fixedR L 1 (Pl.root (v * 65536)) true).2 w' ∧ FrS W0 Pr W w' := by
  have fa := Pl.numv_fix hm (.inl rfl)
  have NA := Lib.hid (fun Z => num_obj (3, x, a, 0, 0, ⟨#[]⟩) hm (.inl rfl) Z)
  rw [hv] at NA fa
  have FF := Lib.hid (fun Z => fsqrt_ok v ⟨h0, by unfold Pl.fx at fa; simp only at fa; omega⟩ Z)
  have FX := Lib.hid (fun Z (hS : Stk W0 Pr p L Z) => fixed_any W0 Pr p L Z hlen hS 1 h1 (Pl.root (v * 65536)) true)
  clear h1 hv fa h0
  have HS := Lib.hid (h.grown ((Grown.refl W).alloc #[.int .i64 24] 3))
  have TK := Lib.hid (take1_ok W0 Pr p L _ hlen HS.out (3, x, a, 0, 0, ⟨#[]⟩) ho (Pl.mayO_kind hm) W.heap.size 1 (Nat.le_refl _) 24 (by simp [go_sem]) (show Pl.fits 24 3 = true by decide))
  clear h hlen ho hm
  go_enter Tryz.func21, Tryz.ntmps21
  go_wp2_with fail
  refine TK.out.mono ?_
  rintro e w2 ⟨g2, g, B2, rfl⟩
  have G2 := Lib.hid (grown_trans ((Grown.refl W).alloc #[.int .i64 24] 3) g2)
  have HS2 := Lib.hid (HS.out.grown g2)
  obtain ⟨c0, c1, c2, c3, c4, c5⟩ := B2.at6
  clear TK g2 HS B2
  go_wp2_with fail
  refine (NA.out _).mono ?_
  rintro e w3 ⟨rfl, g3⟩
  have G3 := Lib.hid (grown_trans (G2.out.alloc #[.int .i64 3, .bool x, .int .i64 a, .int .i64 0, .int .i64 0, .string ⟨#[]⟩] 25) g3)
  have HS3 := Lib.hid ((HS2.out.grown ((Grown.refl _).alloc #[.int .i64 3, .bool x, .int .i64 a, .int .i64 0, .int .i64 0, .string ⟨#[]⟩] 25)).grown g3)
  clear g3 NA c0 c1 c2 c3 c4 c5 HS2 G2
  go_wp2_with fail
  refine (FF.out _).mono ?_
  rintro e w7 ⟨rfl, rfl⟩
  clear FF
  go_wp2_with fail
  refine (FX.out _ HS3.out).mono ?_
  rintro e w8 ⟨rfl, hs, hf⟩
  have H8 := Lib.hid (And.intro hs ((Fr.of_grown _ G3.out).trans hf))
  clear hs hf FX G3
  go_wp2_with fail
  go_ret
  exact ⟨rfl, H8.out⟩
theorem one_23_3_neg (a : Int) (x : Bool) (ho : L.reverse[0]? = some (3, x, a, 0, 0, ⟨#[]⟩)) (hm : Pl.mayO (3, x, a, 0, 0, ⟨#[]⟩)) (h1 : 1 ≤ L.length) (v : Int) (hv : Pl.numv (3, x, a, 0, 0, ⟨#[]⟩) = (v, true)) (h0 : ¬ 0 ≤ v) :
    Calls Tryz.prog 21 #[.pointer (some ⟨p, 0, none⟩), .int .i64 23] W fun e w' => e = .returned (.int .i64 (Pl.fixedR L 1 (0) false).1) ∧ Stk W0 Pr p (Pl.fixedR L 1 (0) false).2 w' ∧ FrS W0 Pr W w' := by
  have fa := Pl.numv_fix hm (.inl rfl)
  have NA := Lib.hid (fun Z => num_obj (3, x, a, 0, 0, ⟨#[]⟩) hm (.inl rfl) Z)
  rw [hv] at NA fa
  have FF := Lib.hid (fun Z => fsqrt_no v (fun q => h0 q.1) Z)
  have FX := Lib.hid (fun Z (hS : Stk W0 Pr p L Z) => fixed_any W0 Pr p L Z hlen hS 1 h1 (0) false)
  clear h1 hv fa h0
  have HS := Lib.hid (h.grown ((Grown.refl W).alloc #[.int .i64 24] 3))
  have TK := Lib.hid (take1_ok W0 Pr p L _ hlen HS.out (3, x, a, 0, 0, ⟨#[]⟩) ho (Pl.mayO_kind hm) W.heap.size 1 (Nat.le_refl _) 24 (by simp [go_sem]) (show Pl.fits 24 3 = true by decide))
  clear h hlen ho hm
  go_enter Tryz.func21, Tryz.ntmps21
  go_wp2_with fail
  refine TK.out.mono ?_
  rintro e w2 ⟨g2, g, B2, rfl⟩
  have G2 := Lib.hid (grown_trans ((Grown.refl W).alloc #[.int .i64 24] 3) g2)
  have HS2 := Lib.hid (HS.out.grown g2)
  obtain ⟨c0, c1, c2, c3, c4, c5⟩ := B2.at6
  clear TK g2 HS B2
  go_wp2_with fail
  refine (NA.out _).mono ?_
  rintro e w3 ⟨rfl, g3⟩
  have G3 := Lib.hid (grown_trans (G2.out.alloc #[.int .i64 3, .bool x, .int .i64 a, .int .i64 0, .int .i64 0, .string ⟨#[]⟩] 25) g3)
  have HS3 := Lib.hid ((HS2.out.grown ((Grown.refl _).alloc #[.int .i64 3, .bool x, .int .i64 a, .int .i64 0, .int .i64 0, .string ⟨#[]⟩] 25)).grown g3)
  clear g3 NA c0 c1 c2 c3 c4 c5 HS2 G2
  go_wp2_with fail
  refine (FF.out _).mono ?_
  rintro e w7 ⟨rfl, rfl⟩
  clear FF
  go_wp2_with fail
  refine (FX.out _ HS3.out).mono ?_
  rintro e w8 ⟨rfl, hs, hf⟩
  have H8 := Lib.hid (And.intro hs ((Fr.of_grown _ G3.out).trans hf))
  clear hs hf FX G3
  go_wp2_with fail
  go_ret
  exact ⟨rfl, H8.out⟩
theorem one_23_4_no (a : Int) (x : Bool) (ho : L.reverse[0]? = some (4, x, a, 0, 0, ⟨#[]⟩)) (hm : Pl.mayO (4, x, a, 0, 0, ⟨#[]⟩)) (h1 : 1 ≤ L.length) (hv : (Pl.numv (4, x, a, 0, 0, ⟨#[]⟩)).2 = false) :
    Calls Tryz.prog 21 #[.pointer (some ⟨p, 0, none⟩), .int .i64 23] W fun e w' => e = .returned (.int .i64 (((2, L) : Int × List Pl.Ob)).1) ∧ Stk W0 Pr p (((2, L) : Int × List Pl.Ob)).2 w' ∧ FrS W0 Pr W w' := by
  have fa := Pl.numv_fix hm (.inr rfl)
  have NA := Lib.hid (fun Z => num_obj (4, x, a, 0, 0, ⟨#[]⟩) hm (.inr rfl) Z)
  rw [hv] at NA
  generalize Pl.numv (4, x, a, 0, 0, ⟨#[]⟩) = NV at NA fa
  clear h1 hv
  have HS := Lib.hid (h.grown ((Grown.refl W).alloc #[.int .i64 24] 3))
  have TK := Lib.hid (take1_ok W0 Pr p L _ hlen HS.out (4, x, a, 0, 0, ⟨#[]⟩) ho (Pl.mayO_kind hm) W.heap.size 1 (Nat.le_refl _) 24 (by simp [go_sem]) (show Pl.fits 24 4 = true by decide))
  clear h hlen ho hm
  go_enter Tryz.func21, Tryz.ntmps21
  go_wp2_with fail
  refine TK.out.mono ?_
  rintro e w2 ⟨g2, g, B2, rfl⟩
  have G2 := Lib.hid (grown_trans ((Grown.refl W).alloc #[.int .i64 24] 3) g2)
  have HS2 := Lib.hid (HS.out.grown g2)
  obtain ⟨c0, c1, c2, c3, c4, c5⟩ := B2.at6
  clear TK g2 HS B2
  go_wp2_with fail
  refine (NA.out _).mono ?_
  rintro e w3 ⟨rfl, g3⟩
  have G3 := Lib.hid (grown_trans (G2.out.alloc #[.int .i64 4, .bool x, .int .i64 a, .int .i64 0, .int .i64 0, .string ⟨#[]⟩] 25) g3)
  have HS3 := Lib.hid ((HS2.out.grown ((Grown.refl _).alloc #[.int .i64 4, .bool x, .int .i64 a, .int .i64 0, .int .i64 0, .string ⟨#[]⟩] 25)).grown g3)
  clear g3 NA c0 c1 c2 c3 c4 c5 HS2 G2
  go_wp2_with fail
  go_ret
  exact ⟨rfl, HS3.out, Fr.of_grown _ G3.out⟩
theorem one_23_4 (a : Int) (x : Bool) (ho : L.reverse[0]? = some (4, x, a, 0, 0, ⟨#[]⟩)) (hm : Pl.mayO (4, x, a, 0, 0, ⟨#[]⟩)) (h1 : 1 ≤ L.length) (v : Int) (hv : Pl.numv (4, x, a, 0, 0, ⟨#[]⟩) = (v, true)) (h0 : 0 ≤ v) :
    Calls Tryz.prog 21 #[.pointer (some ⟨p, 0, none⟩), .int .i64 23] W fun e w' => e = .returned (.int .i64 (Pl.fixedR L 1 (Pl.root (v * 65536)) true).1) ∧ Stk W0 Pr p (Pl.fixedR L 1 (Pl.root (v * 65536)) true).2 w' ∧ FrS W0 Pr W w' := by
  have fa := Pl.numv_fix hm (.inr rfl)
  have NA := Lib.hid (fun Z => num_obj (4, x, a, 0, 0, ⟨#[]⟩) hm (.inr rfl) Z)
  rw [hv] at NA fa
  have FF := Lib.hid (fun Z => fsqrt_ok v ⟨h0, by unfold Pl.fx at fa; simp only at fa; omega⟩ Z)
  have FX := Lib.hid (fun Z (hS : Stk W0 Pr p L Z) => fixed_any W0 Pr p L Z hlen hS 1 h1 (Pl.root (v * 65536)) true)
  clear h1 hv fa h0
  have HS := Lib.hid (h.grown ((Grown.refl W).alloc #[.int .i64 24] 3))
  have TK := Lib.hid (take1_ok W0 Pr p L _ hlen HS.out (4, x, a, 0, 0, ⟨#[]⟩) ho (Pl.mayO_kind hm) W.heap.size 1 (Nat.le_refl _) 24 (by simp [go_sem]) (show Pl.fits 24 4 = true by decide))
  clear h hlen ho hm
  go_enter Tryz.func21, Tryz.ntmps21
  go_wp2_with fail
  refine TK.out.mono ?_
  rintro e w2 ⟨g2, g, B2, rfl⟩
  have G2 := Lib.hid (grown_trans ((Grown.refl W).alloc #[.int .i64 24] 3) g2)
  have HS2 := Lib.hid (HS.out.grown g2)
  obtain ⟨c0, c1, c2, c3, c4, c5⟩ := B2.at6
  clear TK g2 HS B2
  go_wp2_with fail
  refine (NA.out _).mono ?_
  rintro e w3 ⟨rfl, g3⟩
  have G3 := Lib.hid (grown_trans (G2.out.alloc #[.int .i64 4, .bool x, .int .i64 a, .int .i64 0, .int .i64 0, .string ⟨#[]⟩] 25) g3)
  have HS3 := Lib.hid ((HS2.out.grown ((Grown.refl _).alloc #[.int .i64 4, .bool x, .int .i64 a, .int .i64 0, .int .i64 0, .string ⟨#[]⟩] 25)).grown g3)
  clear g3 NA c0 c1 c2 c3 c4 c5 HS2 G2
  go_wp2_with fail
  refine (FF.out _).mono ?_
  rintro e w7 ⟨rfl, rfl⟩
  clear FF
  go_wp2_with fail
  refine (FX.out _ HS3.out).mono ?_
  rintro e w8 ⟨rfl, hs, hf⟩
  have H8 := Lib.hid (And.intro hs ((Fr.of_grown _ G3.out).trans hf))
  clear hs hf FX G3
  go_wp2_with fail
  go_ret
  exact ⟨rfl, H8.out⟩
theorem one_23_4_neg (a : Int) (x : Bool) (ho : L.reverse[0]? = some (4, x, a, 0, 0, ⟨#[]⟩)) (hm : Pl.mayO (4, x, a, 0, 0, ⟨#[]⟩)) (h1 : 1 ≤ L.length) (v : Int) (hv : Pl.numv (4, x, a, 0, 0, ⟨#[]⟩) = (v, true)) (h0 : ¬ 0 ≤ v) :
    Calls Tryz.prog 21 #[.pointer (some ⟨p, 0, none⟩), .int .i64 23] W fun e w' => e = .returned (.int .i64 (Pl.fixedR L 1 (0) false).1) ∧ Stk W0 Pr p (Pl.fixedR L 1 (0) false).2 w' ∧ FrS W0 Pr W w' := by
  have fa := Pl.numv_fix hm (.inr rfl)
  have NA := Lib.hid (fun Z => num_obj (4, x, a, 0, 0, ⟨#[]⟩) hm (.inr rfl) Z)
  rw [hv] at NA fa
  have FF := Lib.hid (fun Z => fsqrt_no v (fun q => h0 q.1) Z)
  have FX := Lib.hid (fun Z (hS : Stk W0 Pr p L Z) => fixed_any W0 Pr p L Z hlen hS 1 h1 (0) false)
  clear h1 hv fa h0
  have HS := Lib.hid (h.grown ((Grown.refl W).alloc #[.int .i64 24] 3))
  have TK := Lib.hid (take1_ok W0 Pr p L _ hlen HS.out (4, x, a, 0, 0, ⟨#[]⟩) ho (Pl.mayO_kind hm) W.heap.size 1 (Nat.le_refl _) 24 (by simp [go_sem]) (show Pl.fits 24 4 = true by decide))
  clear h hlen ho hm
  go_enter Tryz.func21, Tryz.ntmps21
  go_wp2_with fail
  refine TK.out.mono ?_
  rintro e w2 ⟨g2, g, B2, rfl⟩
  have G2 := Lib.hid (grown_trans ((Grown.refl W).alloc #[.int .i64 24] 3) g2)
  have HS2 := Lib.hid (HS.out.grown g2)
  obtain ⟨c0, c1, c2, c3, c4, c5⟩ := B2.at6
  clear TK g2 HS B2
  go_wp2_with fail
  refine (NA.out _).mono ?_
  rintro e w3 ⟨rfl, g3⟩
  have G3 := Lib.hid (grown_trans (G2.out.alloc #[.int .i64 4, .bool x, .int .i64 a, .int .i64 0, .int .i64 0, .string ⟨#[]⟩] 25) g3)
  have HS3 := Lib.hid ((HS2.out.grown ((Grown.refl _).alloc #[.int .i64 4, .bool x, .int .i64 a, .int .i64 0, .int .i64 0, .string ⟨#[]⟩] 25)).grown g3)
  clear g3 NA c0 c1 c2 c3 c4 c5 HS2 G2
  go_wp2_with fail
  refine (FF.out _).mono ?_
  rintro e w7 ⟨rfl, rfl⟩
  clear FF
  go_wp2_with fail
  refine (FX.out _ HS3.out).mono ?_
  rintro e w8 ⟨rfl, hs, hf⟩
  have H8 := Lib.hid (And.intro hs ((Fr.of_grown _ G3.out).trans hf))
  clear hs hf FX G3
  go_wp2_with fail
  go_ret
  exact ⟨rfl, H8.out⟩
theorem one_24_3_no (a : Int) (x : Bool) (ho : L.reverse[0]? = some (3, x, a, 0, 0, ⟨#[]⟩)) (hm : Pl.mayO (3, x, a, 0, 0, ⟨#[]⟩)) (h1 : 1 ≤ L.length) (hv : (Pl.numv (3, x, a, 0, 0, ⟨#[]⟩)).2 = false) :
    Calls Tryz.prog 21 #[.pointer (some ⟨p, 0, none⟩), .int .i64 24] W fun e w' => e = .returned (.int .i64 (((2, L) : Int × List Pl.Ob)).1) ∧ Stk W0 Pr p (((2, L) : Int × List Pl.Ob)).2 w' ∧ FrS W0 Pr W w' := by
  have fa := Pl.numv_fix hm (.inl rfl)
  have NA := Lib.hid (fun Z => num_obj (3, x, a, 0, 0, ⟨#[]⟩) hm (.inl rfl) Z)
  rw [hv] at NA
  generalize Pl.numv (3, x, a, 0, 0, ⟨#[]⟩) = NV at NA fa
  clear h1 hv
  have HS := Lib.hid (h.grown ((Grown.refl W).alloc #[.int .i64 24] 3))
  have TK := Lib.hid (take1_ok W0 Pr p L _ hlen HS.out (3, x, a, 0, 0, ⟨#[]⟩) ho (Pl.mayO_kind hm) W.heap.size 1 (Nat.le_refl _) 24 (by simp [go_sem]) (show Pl.fits 24 3 = true by decide))
  clear h hlen ho hm
  go_enter Tryz.func21, Tryz.ntmps21
  go_wp2_with fail
  refine TK.out.mono ?_
  rintro e w2 ⟨g2, g, B2, rfl⟩
  have G2 := Lib.hid (grown_trans ((Grown.refl W).alloc #[.int .i64 24] 3) g2)
  have HS2 := Lib.hid (HS.out.grown g2)
  obtain ⟨c0, c1, c2, c3, c4, c5⟩ := B2.at6
  clear TK g2 HS B2
  go_wp2_with fail
  refine (NA.out _).mono ?_
  rintro e w3 ⟨rfl, g3⟩
  have G3 := Lib.hid (grown_trans (G2.out.alloc #[.int .i64 3, .bool x, .int .i64 a, .int .i64 0, .int .i64 0, .string ⟨#[]⟩] 25) g3)
  have HS3 := Lib.hid ((HS2.out.grown ((Grown.refl _).alloc #[.int .i64 3, .bool x, .int .i64 a, .int .i64 0, .int .i64 0, .string ⟨#[]⟩] 25)).grown g3)
  clear g3 NA c0 c1 c2 c3 c4 c5 HS2 G2
  go_wp2_with fail
  go_ret
  exact ⟨rfl, HS3.out, Fr.of_grown _ G3.out⟩
theorem one_24_3 (a : Int) (x : Bool) (ho : L.reverse[0]? = some (3, x, a, 0, 0, ⟨#[]⟩)) (hm : Pl.mayO (3, x, a, 0, 0, ⟨#[]⟩)) (h1 : 1 ≤ L.length) (v : Int) (hv : Pl.numv (3, x, a, 0, 0, ⟨#[]⟩) = (v, true)) :
    Calls Tryz.prog 21 #[.pointer (some ⟨p, 0, none⟩), .int .i64 24] W fun e w' => e = .returned (.int .i64 (Pl.fixedR L 1 (Pl.sin v) true).1) ∧ Stk W0 Pr p (Pl.fixedR L 1 (Pl.sin v) true).2 w' ∧ FrS W0 Pr W w' := by
  have fa := Pl.numv_fix hm (.inl rfl)
  have NA := Lib.hid (fun Z => num_obj (3, x, a, 0, 0, ⟨#[]⟩) hm (.inl rfl) Z)
  rw [hv] at NA fa
  have FF := Lib.hid (fun Z => sin_any v Z)
  have FX := Lib.hid (fun Z (hS : Stk W0 Pr p L Z) => fixed_any W0 Pr p L Z hlen hS 1 h1 (Pl.sin v) true)
  clear h1 hv fa
  have HS := Lib.hid (h.grown ((Grown.refl W).alloc #[.int .i64 24] 3))
  have TK := Lib.hid (take1_ok W0 Pr p L _ hlen HS.out (3, x, a, 0, 0, ⟨#[]⟩) ho (Pl.mayO_kind hm) W.heap.size 1 (Nat.le_refl _) 24 (by simp [go_sem]) (show Pl.fits 24 3 = true by decide))
  clear h hlen ho hm
  go_enter Tryz.func21, Tryz.ntmps21
  go_wp2_with fail
  refine TK.out.mono ?_
  rintro e w2 ⟨g2, g, B2, rfl⟩
  have G2 := Lib.hid (grown_trans ((Grown.refl W).alloc #[.int .i64 24] 3) g2)
  have HS2 := Lib.hid (HS.out.grown g2)
  obtain ⟨c0, c1, c2, c3, c4, c5⟩ := B2.at6
  clear TK g2 HS B2
  go_wp2_with fail
  refine (NA.out _).mono ?_
  rintro e w3 ⟨rfl, g3⟩
  have G3 := Lib.hid (grown_trans (G2.out.alloc #[.int .i64 3, .bool x, .int .i64 a, .int .i64 0, .int .i64 0, .string ⟨#[]⟩] 25) g3)
  have HS3 := Lib.hid ((HS2.out.grown ((Grown.refl _).alloc #[.int .i64 3, .bool x, .int .i64 a, .int .i64 0, .int .i64 0, .string ⟨#[]⟩] 25)).grown g3)
  clear g3 NA c0 c1 c2 c3 c4 c5 HS2 G2
  go_wp2_with fail
  refine (FF.out _).mono ?_
  rintro e w7 ⟨rfl, g7⟩
  replace HS3 := Lib.hid (HS3.out.grown g7)
  replace G3 := Lib.hid (grown_trans G3.out g7)
  clear g7 FF
  go_wp2_with fail
  refine (FX.out _ HS3.out).mono ?_
  rintro e w8 ⟨rfl, hs, hf⟩
  have H8 := Lib.hid (And.intro hs ((Fr.of_grown _ G3.out).trans hf))
  clear hs hf FX G3
  go_wp2_with fail
  go_ret
  exact ⟨rfl, H8.out⟩
theorem one_24_4_no (a : Int) (x : Bool) (ho : L.reverse[0]? = some (4, x, a, 0, 0, ⟨#[]⟩)) (hm : Pl.mayO (4, x, a, 0, 0, ⟨#[]⟩)) (h1 : 1 ≤ L.length) (hv : (Pl.numv (4, x, a, 0, 0, ⟨#[]⟩)).2 = false) :
    Calls Tryz.prog 21 #[.pointer (some ⟨p, 0, none⟩), .int .i64 24] W fun e w' => e = .returned (.int .i64 (((2, L) : Int × List Pl.Ob)).1) ∧ Stk W0 Pr p (((2, L) : Int × List Pl.Ob)).2 w' ∧ FrS W0 Pr W w' := by
  have fa := Pl.numv_fix hm (.inr rfl)
  have NA := Lib.hid (fun Z => num_obj (4, x, a, 0, 0, ⟨#[]⟩) hm (.inr rfl) Z)
  rw [hv] at NA
  generalize Pl.numv (4, x, a, 0, 0, ⟨#[]⟩) = NV at NA fa
  clear h1 hv
  have HS := Lib.hid (h.grown ((Grown.refl W).alloc #[.int .i64 24] 3))
  have TK := Lib.hid (take1_ok W0 Pr p L _ hlen HS.out (4, x, a, 0, 0, ⟨#[]⟩) ho (Pl.mayO_kind hm) W.heap.size 1 (Nat.le_refl _) 24 (by simp [go_sem]) (show Pl.fits 24 4 = true by decide))
  clear h hlen ho hm
  go_enter Tryz.func21, Tryz.ntmps21
  go_wp2_with fail
  refine TK.out.mono ?_
  rintro e w2 ⟨g2, g, B2, rfl⟩
  have G2 := Lib.hid (grown_trans ((Grown.refl W).alloc #[.int .i64 24] 3) g2)
  have HS2 := Lib.hid (HS.out.grown g2)
  obtain ⟨c0, c1, c2, c3, c4, c5⟩ := B2.at6
  clear TK g2 HS B2
  go_wp2_with fail
  refine (NA.out _).mono ?_
  rintro e w3 ⟨rfl, g3⟩
  have G3 := Lib.hid (grown_trans (G2.out.alloc #[.int .i64 4, .bool x, .int .i64 a, .int .i64 0, .int .i64 0, .string ⟨#[]⟩] 25) g3)
  have HS3 := Lib.hid ((HS2.out.grown ((Grown.refl _).alloc #[.int .i64 4, .bool x, .int .i64 a, .int .i64 0, .int .i64 0, .string ⟨#[]⟩] 25)).grown g3)
  clear g3 NA c0 c1 c2 c3 c4 c5 HS2 G2
  go_wp2_with fail
  go_ret
  exact ⟨rfl, HS3.out, Fr.of_grown _ G3.out⟩
theorem one_24_4 (a : Int) (x : Bool) (ho : L.reverse[0]? = some (4, x, a, 0, 0, ⟨#[]⟩)) (hm : Pl.mayO (4, x, a, 0, 0, ⟨#[]⟩)) (h1 : 1 ≤ L.length) (v : Int) (hv : Pl.numv (4, x, a, 0, 0, ⟨#[]⟩) = (v, true)) :
    Calls Tryz.prog 21 #[.pointer (some ⟨p, 0, none⟩), .int .i64 24] W fun e w' => e = .returned (.int .i64 (Pl.fixedR L 1 (Pl.sin v) true).1) ∧ Stk W0 Pr p (Pl.fixedR L 1 (Pl.sin v) true).2 w' ∧ FrS W0 Pr W w' := by
  have fa := Pl.numv_fix hm (.inr rfl)
  have NA := Lib.hid (fun Z => num_obj (4, x, a, 0, 0, ⟨#[]⟩) hm (.inr rfl) Z)
  rw [hv] at NA fa
  have FF := Lib.hid (fun Z => sin_any v Z)
  have FX := Lib.hid (fun Z (hS : Stk W0 Pr p L Z) => fixed_any W0 Pr p L Z hlen hS 1 h1 (Pl.sin v) true)
  clear h1 hv fa
  have HS := Lib.hid (h.grown ((Grown.refl W).alloc #[.int .i64 24] 3))
  have TK := Lib.hid (take1_ok W0 Pr p L _ hlen HS.out (4, x, a, 0, 0, ⟨#[]⟩) ho (Pl.mayO_kind hm) W.heap.size 1 (Nat.le_refl _) 24 (by simp [go_sem]) (show Pl.fits 24 4 = true by decide))
  clear h hlen ho hm
  go_enter Tryz.func21, Tryz.ntmps21
  go_wp2_with fail
  refine TK.out.mono ?_
  rintro e w2 ⟨g2, g, B2, rfl⟩
  have G2 := Lib.hid (grown_trans ((Grown.refl W).alloc #[.int .i64 24] 3) g2)
  have HS2 := Lib.hid (HS.out.grown g2)
  obtain ⟨c0, c1, c2, c3, c4, c5⟩ := B2.at6
  clear TK g2 HS B2
  go_wp2_with fail
  refine (NA.out _).mono ?_
  rintro e w3 ⟨rfl, g3⟩
  have G3 := Lib.hid (grown_trans (G2.out.alloc #[.int .i64 4, .bool x, .int .i64 a, .int .i64 0, .int .i64 0, .string ⟨#[]⟩] 25) g3)
  have HS3 := Lib.hid ((HS2.out.grown ((Grown.refl _).alloc #[.int .i64 4, .bool x, .int .i64 a, .int .i64 0, .int .i64 0, .string ⟨#[]⟩] 25)).grown g3)
  clear g3 NA c0 c1 c2 c3 c4 c5 HS2 G2
  go_wp2_with fail
  refine (FF.out _).mono ?_
  rintro e w7 ⟨rfl, g7⟩
  replace HS3 := Lib.hid (HS3.out.grown g7)
  replace G3 := Lib.hid (grown_trans G3.out g7)
  clear g7 FF
  go_wp2_with fail
  refine (FX.out _ HS3.out).mono ?_
  rintro e w8 ⟨rfl, hs, hf⟩
  have H8 := Lib.hid (And.intro hs ((Fr.of_grown _ G3.out).trans hf))
  clear hs hf FX G3
  go_wp2_with fail
  go_ret
  exact ⟨rfl, H8.out⟩
theorem one_25_3_no (a : Int) (x : Bool) (ho : L.reverse[0]? = some (3, x, a, 0, 0, ⟨#[]⟩)) (hm : Pl.mayO (3, x, a, 0, 0, ⟨#[]⟩)) (h1 : 1 ≤ L.length) (hv : (Pl.numv (3, x, a, 0, 0, ⟨#[]⟩)).2 = false) :
    Calls Tryz.prog 21 #[.pointer (some ⟨p, 0, none⟩), .int .i64 25] W fun e w' => e = .returned (.int .i64 (((2, L) : Int × List Pl.Ob)).1) ∧ Stk W0 Pr p (((2, L) : Int × List Pl.Ob)).2 w' ∧ FrS W0 Pr W w' := by
  have fa := Pl.numv_fix hm (.inl rfl)
  have NA := Lib.hid (fun Z => num_obj (3, x, a, 0, 0, ⟨#[]⟩) hm (.inl rfl) Z)
  rw [hv] at NA
  generalize Pl.numv (3, x, a, 0, 0, ⟨#[]⟩) = NV at NA fa
  clear h1 hv
  have HS := Lib.hid (h.grown ((Grown.refl W).alloc #[.int .i64 24] 3))
  have TK := Lib.hid (take1_ok W0 Pr p L _ hlen HS.out (3, x, a, 0, 0, ⟨#[]⟩) ho (Pl.mayO_kind hm) W.heap.size 1 (Nat.le_refl _) 24 (by simp [go_sem]) (show Pl.fits 24 3 = true by decide))
  clear h hlen ho hm
  go_enter Tryz.func21, Tryz.ntmps21
  go_wp2_with fail
  refine TK.out.mono ?_
  rintro e w2 ⟨g2, g, B2, rfl⟩
  have G2 := Lib.hid (grown_trans ((Grown.refl W).alloc #[.int .i64 24] 3) g2)
  have HS2 := Lib.hid (HS.out.grown g2)
  obtain ⟨c0, c1, c2, c3, c4, c5⟩ := B2.at6
  clear TK g2 HS B2
  go_wp2_with fail
  refine (NA.out _).mono ?_
  rintro e w3 ⟨rfl, g3⟩
  have G3 := Lib.hid (grown_trans (G2.out.alloc #[.int .i64 3, .bool x, .int .i64 a, .int .i64 0, .int .i64 0, .string ⟨#[]⟩] 25) g3)
  have HS3 := Lib.hid ((HS2.out.grown ((Grown.refl _).alloc #[.int .i64 3, .bool x, .int .i64 a, .int .i64 0, .int .i64 0, .string ⟨#[]⟩] 25)).grown g3)
  clear g3 NA c0 c1 c2 c3 c4 c5 HS2 G2
  go_wp2_with fail
  go_ret
  exact ⟨rfl, HS3.out, Fr.of_grown _ G3.out⟩
theorem one_25_3 (a : Int) (x : Bool) (ho : L.reverse[0]? = some (3, x, a, 0, 0, ⟨#[]⟩)) (hm : Pl.mayO (3, x, a, 0, 0, ⟨#[]⟩)) (h1 : 1 ≤ L.length) (v : Int) (hv : Pl.numv (3, x, a, 0, 0, ⟨#[]⟩) = (v, true)) :
    Calls Tryz.prog 21 #[.pointer (some ⟨p, 0, none⟩), .int .i64 25] W fun e w' => e = .returned (.int .i64 (Pl.fixedR L 1 (Pl.cos v) true).1) ∧ Stk W0 Pr p (Pl.fixedR L 1 (Pl.cos v) true).2 w' ∧ FrS W0 Pr W w' := by
  have fa := Pl.numv_fix hm (.inl rfl)
  have NA := Lib.hid (fun Z => num_obj (3, x, a, 0, 0, ⟨#[]⟩) hm (.inl rfl) Z)
  rw [hv] at NA fa
  have FF := Lib.hid (fun Z => cos_any v Z)
  have FX := Lib.hid (fun Z (hS : Stk W0 Pr p L Z) => fixed_any W0 Pr p L Z hlen hS 1 h1 (Pl.cos v) true)
  clear h1 hv fa
  have HS := Lib.hid (h.grown ((Grown.refl W).alloc #[.int .i64 24] 3))
  have TK := Lib.hid (take1_ok W0 Pr p L _ hlen HS.out (3, x, a, 0, 0, ⟨#[]⟩) ho (Pl.mayO_kind hm) W.heap.size 1 (Nat.le_refl _) 24 (by simp [go_sem]) (show Pl.fits 24 3 = true by decide))
  clear h hlen ho hm
  go_enter Tryz.func21, Tryz.ntmps21
  go_wp2_with fail
  refine TK.out.mono ?_
  rintro e w2 ⟨g2, g, B2, rfl⟩
  have G2 := Lib.hid (grown_trans ((Grown.refl W).alloc #[.int .i64 24] 3) g2)
  have HS2 := Lib.hid (HS.out.grown g2)
  obtain ⟨c0, c1, c2, c3, c4, c5⟩ := B2.at6
  clear TK g2 HS B2
  go_wp2_with fail
  refine (NA.out _).mono ?_
  rintro e w3 ⟨rfl, g3⟩
  have G3 := Lib.hid (grown_trans (G2.out.alloc #[.int .i64 3, .bool x, .int .i64 a, .int .i64 0, .int .i64 0, .string ⟨#[]⟩] 25) g3)
  have HS3 := Lib.hid ((HS2.out.grown ((Grown.refl _).alloc #[.int .i64 3, .bool x, .int .i64 a, .int .i64 0, .int .i64 0, .string ⟨#[]⟩] 25)).grown g3)
  clear g3 NA c0 c1 c2 c3 c4 c5 HS2 G2
  go_wp2_with fail
  refine (FF.out _).mono ?_
  rintro e w7 ⟨rfl, g7⟩
  replace HS3 := Lib.hid (HS3.out.grown g7)
  replace G3 := Lib.hid (grown_trans G3.out g7)
  clear g7 FF
  go_wp2_with fail
  refine (FX.out _ HS3.out).mono ?_
  rintro e w8 ⟨rfl, hs, hf⟩
  have H8 := Lib.hid (And.intro hs ((Fr.of_grown _ G3.out).trans hf))
  clear hs hf FX G3
  go_wp2_with fail
  go_ret
  exact ⟨rfl, H8.out⟩
theorem one_25_4_no (a : Int) (x : Bool) (ho : L.reverse[0]? = some (4, x, a, 0, 0, ⟨#[]⟩)) (hm : Pl.mayO (4, x, a, 0, 0, ⟨#[]⟩)) (h1 : 1 ≤ L.length) (hv : (Pl.numv (4, x, a, 0, 0, ⟨#[]⟩)).2 = false) :
    Calls Tryz.prog 21 #[.pointer (some ⟨p, 0, none⟩), .int .i64 25] W fun e w' => e = .returned (.int .i64 (((2, L) : Int × List Pl.Ob)).1) ∧ Stk W0 Pr p (((2, L) : Int × List Pl.Ob)).2 w' ∧ FrS W0 Pr W w' := by
  have fa := Pl.numv_fix hm (.inr rfl)
  have NA := Lib.hid (fun Z => num_obj (4, x, a, 0, 0, ⟨#[]⟩) hm (.inr rfl) Z)
  rw [hv] at NA
  generalize Pl.numv (4, x, a, 0, 0, ⟨#[]⟩) = NV at NA fa
  clear h1 hv
  have HS := Lib.hid (h.grown ((Grown.refl W).alloc #[.int .i64 24] 3))
  have TK := Lib.hid (take1_ok W0 Pr p L _ hlen HS.out (4, x, a, 0, 0, ⟨#[]⟩) ho (Pl.mayO_kind hm) W.heap.size 1 (Nat.le_refl _) 24 (by simp [go_sem]) (show Pl.fits 24 4 = true by decide))
  clear h hlen ho hm
  go_enter Tryz.func21, Tryz.ntmps21
  go_wp2_with fail
  refine TK.out.mono ?_
  rintro e w2 ⟨g2, g, B2, rfl⟩
  have G2 := Lib.hid (grown_trans ((Grown.refl W).alloc #[.int .i64 24] 3) g2)
  have HS2 := Lib.hid (HS.out.grown g2)
  obtain ⟨c0, c1, c2, c3, c4, c5⟩ := B2.at6
  clear TK g2 HS B2
  go_wp2_with fail
  refine (NA.out _).mono ?_
  rintro e w3 ⟨rfl, g3⟩
  have G3 := Lib.hid (grown_trans (G2.out.alloc #[.int .i64 4, .bool x, .int .i64 a, .int .i64 0, .int .i64 0, .string ⟨#[]⟩] 25) g3)
  have HS3 := Lib.hid ((HS2.out.grown ((Grown.refl _).alloc #[.int .i64 4, .bool x, .int .i64 a, .int .i64 0, .int .i64 0, .string ⟨#[]⟩] 25)).grown g3)
  clear g3 NA c0 c1 c2 c3 c4 c5 HS2 G2
  go_wp2_with fail
  go_ret
  exact ⟨rfl, HS3.out, Fr.of_grown _ G3.out⟩
theorem one_25_4 (a : Int) (x : Bool) (ho : L.reverse[0]? = some (4, x, a, 0, 0, ⟨#[]⟩)) (hm : Pl.mayO (4, x, a, 0, 0, ⟨#[]⟩)) (h1 : 1 ≤ L.length) (v : Int) (hv : Pl.numv (4, x, a, 0, 0, ⟨#[]⟩) = (v, true)) :
    Calls Tryz.prog 21 #[.pointer (some ⟨p, 0, none⟩), .int .i64 25] W fun e w' => e = .returned (.int .i64 (Pl.fixedR L 1 (Pl.cos v) true).1) ∧ Stk W0 Pr p (Pl.fixedR L 1 (Pl.cos v) true).2 w' ∧ FrS W0 Pr W w' := by
  have fa := Pl.numv_fix hm (.inr rfl)
  have NA := Lib.hid (fun Z => num_obj (4, x, a, 0, 0, ⟨#[]⟩) hm (.inr rfl) Z)
  rw [hv] at NA fa
  have FF := Lib.hid (fun Z => cos_any v Z)
  have FX := Lib.hid (fun Z (hS : Stk W0 Pr p L Z) => fixed_any W0 Pr p L Z hlen hS 1 h1 (Pl.cos v) true)
  clear h1 hv fa
  have HS := Lib.hid (h.grown ((Grown.refl W).alloc #[.int .i64 24] 3))
  have TK := Lib.hid (take1_ok W0 Pr p L _ hlen HS.out (4, x, a, 0, 0, ⟨#[]⟩) ho (Pl.mayO_kind hm) W.heap.size 1 (Nat.le_refl _) 24 (by simp [go_sem]) (show Pl.fits 24 4 = true by decide))
  clear h hlen ho hm
  go_enter Tryz.func21, Tryz.ntmps21
  go_wp2_with fail
  refine TK.out.mono ?_
  rintro e w2 ⟨g2, g, B2, rfl⟩
  have G2 := Lib.hid (grown_trans ((Grown.refl W).alloc #[.int .i64 24] 3) g2)
  have HS2 := Lib.hid (HS.out.grown g2)
  obtain ⟨c0, c1, c2, c3, c4, c5⟩ := B2.at6
  clear TK g2 HS B2
  go_wp2_with fail
  refine (NA.out _).mono ?_
  rintro e w3 ⟨rfl, g3⟩
  have G3 := Lib.hid (grown_trans (G2.out.alloc #[.int .i64 4, .bool x, .int .i64 a, .int .i64 0, .int .i64 0, .string ⟨#[]⟩] 25) g3)
  have HS3 := Lib.hid ((HS2.out.grown ((Grown.refl _).alloc #[.int .i64 4, .bool x, .int .i64 a, .int .i64 0, .int .i64 0, .string ⟨#[]⟩] 25)).grown g3)
  clear g3 NA c0 c1 c2 c3 c4 c5 HS2 G2
  go_wp2_with fail
  refine (FF.out _).mono ?_
  rintro e w7 ⟨rfl, g7⟩
  replace HS3 := Lib.hid (HS3.out.grown g7)
  replace G3 := Lib.hid (grown_trans G3.out g7)
  clear g7 FF
  go_wp2_with fail
  refine (FX.out _ HS3.out).mono ?_
  rintro e w8 ⟨rfl, hs, hf⟩
  have H8 := Lib.hid (And.intro hs ((Fr.of_grown _ G3.out).trans hf))
  clear hs hf FX G3
  go_wp2_with fail
  go_ret
  exact ⟨rfl, H8.out⟩
end
end Go.Proofs.YtfmmomdmemcbbaaGreat
