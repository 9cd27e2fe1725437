/- The walk of arith.round. -/
import Derived.Deep.RegionHeld3
import Derived.Test.YtfmmomdmemcbbaaGreatM6
set_option maxHeartbeats 4000000
set_option maxRecDepth 100000
namespace Go.Proofs.YtfmmomdmemcbbaaGreat
set_option linter.unusedVariables false
open Go.RowKit
theorem Pl.fits_any {k : Int} (h : 1 ≤ k ∧ k ≤ 11) : Pl.fits (-1) k = true := by
  rcases (show k = 1 ∨ k = 2 ∨ k = 3 ∨ k = 4 ∨ k = 5 ∨ k = 6 ∨ k = 7 ∨ k = 8 ∨ k = 9 ∨ k = 10 ∨ k = 11 by omega) with rfl | rfl | rfl | rfl | rfl | rfl | rfl | rfl | rfl | rfl | rfl <;> decide
def Pl.markO : Pl.Ob := (6, false, 0, 0, 0, ⟨#[]⟩)
theorem Pl.may_mark : Pl.mayO Pl.markO := by unfold Pl.mayO Pl.may Pl.markO Pl.bare; simp
theorem Pl.toMark_lt (L : List Pl.Ob) (i : Nat) (h : L.reverse.findIdx? (fun q => q.1 == 6) = some i) : i < L.length := by
  have := (List.findIdx?_eq_some_iff_getElem.1 h).1
  rw [List.length_reverse] at this
  exact this
theorem Stk.unprotect {W0 : World} {Pr : Nat → Prop} {g p : Nat} {L : List Pl.Ob} {W : World} (h : Stk W0 (fun c => Pr c ∨ c = g) p L W) : Stk W0 Pr p L W := by
  obtain ⟨_, _, _, _, _, _, h5⟩ := id h
  exact h.protect (Fr.refl _ _) (fun c q _ => .inl q) (fun c q => h5 c (.inl q))
theorem frS_unprotect {W0 : World} {Pr : Nat → Prop} {g : Nat} {W W' : World} (h : FrS W0 (fun c => Pr c ∨ c = g) W W') : FrS W0 Pr W W' := h.weaken (fun c q => ⟨fun r => q.1 (.inl r), q.2⟩)
theorem keep12 {W0 : World} {Pr : Nat → Prop} {g : Nat} {Z Z' : World} {j : Nat} {v : Value} (hf : FrS W0 (fun c => Pr c ∨ c = g) Z Z') (h : Z.cell? ⟨g, j, none⟩ = some v) : Z'.cell? ⟨g, j, none⟩ = some v := (hf.cell (a := ⟨g, j, none⟩) (block_lt_of_cell h) (fun q => q.1 (.inr rfl))).trans h
def Pl.roundR (L : List Pl.Ob) (n : Int) : Int × List Pl.Ob :=
  if n = 1 then (if L = [] then (7, L) else (0, L.take (L.length - 1)))
  else if n = 2 then (match L.reverse with | o1 :: o0 :: _ => Pl.giveR L 2 [o1, o0] | _ => (7, L))
  else if n = 3 then (match L.reverse with | o :: _ => Pl.giveR L 1 [o, o] | [] => (7, L))
  else if n = 4 then (match L.reverse with
    | o :: _ => if o.1 = 3 then (if o.2.2.1 < 0 then (2, L) else match L.reverse[(o.2.2.1 + 1).toNat]? with | some q => Pl.giveR L 1 [q] | none => (7, L)) else (6, L)
    | [] => (7, L))
  else if n = 5 then (match L.reverse with
    | o1 :: o0 :: _ => if o1.1 = 3 ∧ o0.1 = 3 then (if o0.2.2.1 < 0 then (2, L) else if (L.length : Int) - 2 < o0.2.2.1 then (7, L) else (0, Pl.rot (L.take (L.length - 2)) o0.2.2.1.toNat o1.2.2.1)) else (6, L)
    | _ => (7, L))
  else if n = 6 then (0, [])
  else if n = 7 then Pl.giveR L 0 [Pl.intO L.length]
  else if n = 8 then Pl.giveR L 0 [Pl.markO]
  else match L.reverse.findIdx? (fun q => q.1 == 6) with
    | none => (10, L)
    | some i => if n = 10 then (0, L.take (L.length - (i + 1))) else Pl.giveR L 0 [Pl.intO i]
section
variable (W0 : World) (Pr : Nat → Prop) (p : Nat) (L : List Pl.Ob) (W : World) (hlen : L.length ≤ 200) (h : Stk W0 Pr p L W)
include h hlen
omit hlen in
theorem round_1_under (hL : L.length < 1) :
    Calls Tryz.prog 19 #[.pointer (some ⟨p, 0, none⟩), .int .i64 1] W fun e w' => e = .returned (.int .i64 (((7, L) : Int × List Pl.Ob)).1) ∧ Stk W0 Pr p (((7, L) : Int × List Pl.Ob)).2 w' ∧ FrS W0 Pr W w' := by
  have HS := Lib.hid (h.grown ((Grown.refl W).alloc #[.int .i64 (-1)] 3))
  have TK := Lib.hid (take1_under W0 Pr p L _ HS.out hL W.heap.size 1)
  clear h hL
  go_enter Tryz.func19, Tryz.ntmps19
  go_wp2_with fail
  refine TK.out.mono ?_
  rintro e w2 ⟨rfl, rfl⟩
  clear TK
  go_wp2_with fail
  go_ret
  exact ⟨rfl, HS.out, Fr.of_grown _ ((Grown.refl W).alloc _ _)⟩
theorem round_1 (k n a l : Int) (x : Bool) (s : ByteArray) (ho : L.reverse[0]? = some (k, x, n, a, l, s)) (hm : Pl.mayO (k, x, n, a, l, s)) (h1 : 1 ≤ L.length) :
    Calls Tryz.prog 19 #[.pointer (some ⟨p, 0, none⟩), .int .i64 1] W fun e w' => e = .returned (.int .i64 (((0, L.take (L.length - 1)) : Int × List Pl.Ob)).1) ∧ Stk W0 Pr p (((0, L.take (L.length - 1)) : Int × List Pl.Ob)).2 w' ∧ FrS W0 Pr W w' := by
  have HG := Lib.hid (fun Z (hS : Stk W0 Pr p L Z) => give_none W0 Pr p L Z hlen hS 1 h1)
  clear h1
  have HS := Lib.hid (h.grown ((Grown.refl W).alloc #[.int .i64 (-1)] 3))
  have TK := Lib.hid (take1_ok W0 Pr p L _ hlen HS.out (k, x, n, a, l, s) ho (Pl.mayO_kind hm) W.heap.size 1 (Nat.le_refl _) (-1) (by simp [go_sem]) (Pl.fits_any (Pl.mayO_kind hm)))
  clear h hlen ho hm
  go_enter Tryz.func19, Tryz.ntmps19
  go_wp2_with fail
  refine TK.out.mono ?_
  rintro e w2 ⟨g2, g, B2, rfl⟩
  have G2 := Lib.hid (grown_trans ((Grown.refl W).alloc #[.int .i64 (-1)] 3) g2)
  have HS2 := Lib.hid (HS.out.grown g2)
  obtain ⟨c0, c1, c2, c3, c4, c5⟩ := B2.at6
  clear TK g2 HS B2
  go_wp2_with fail
  refine (HG.out _ HS2.out).mono ?_
  rintro e w9 ⟨rfl, hs, hf⟩
  have H9 := Lib.hid (And.intro hs ((Fr.of_grown _ G2.out).trans hf))
  clear hs hf HG
  go_wp2_with fail
  go_ret
  exact ⟨rfl, H9.out⟩
omit hlen in
theorem round_2_under (hL : L.length < 2) :
    Calls Tryz.prog 19 #[.pointer (some ⟨p, 0, none⟩), .int .i64 2] W fun e w' => e = .returned (.int .i64 (((7, L) : Int × List Pl.Ob)).1) ∧ Stk W0 Pr p (((7, L) : Int × List Pl.Ob)).2 w' ∧ FrS W0 Pr W w' := by
  have HS := Lib.hid (h.grown ((Grown.refl W).alloc #[.int .i64 (-1), .int .i64 (-1)] 3))
  have TK := Lib.hid (take2_under W0 Pr p L _ HS.out hL W.heap.size 2)
  clear h hL
  go_enter Tryz.func19, Tryz.ntmps19
  go_wp2_with fail
  refine TK.out.mono ?_
  rintro e w2 ⟨rfl, rfl⟩
  clear TK
  go_wp2_with fail
  go_ret
  exact ⟨rfl, HS.out, Fr.of_grown _ ((Grown.refl W).alloc _ _)⟩
theorem round_2 (k0 n0 a0 l0 : Int) (x0 : Bool) (s0 : ByteArray) (k1 n1 a1 l1 : Int) (x1 : Bool) (s1 : ByteArray) (ho1 : L.reverse[0]? = some (k1, x1, n1, a1, l1, s1)) (ho0 : L.reverse[1]? = some (k0, x0, n0, a0, l0, s0)) (hm0 : Pl.mayO (k0, x0, n0, a0, l0, s0)) (hm1 : Pl.mayO (k1, x1, n1, a1, l1, s1)) (h2 : 2 ≤ L.length) :
    Calls Tryz.prog 19 #[.pointer (some ⟨p, 0, none⟩), .int .i64 2] W fun e w' => e = .returned (.int .i64 (Pl.giveR L 2 [(k1, x1, n1, a1, l1, s1), (k0, x0, n0, a0, l0, s0)]).1) ∧ Stk W0 Pr p (Pl.giveR L 2 [(k1, x1, n1, a1, l1, s1), (k0, x0, n0, a0, l0, s0)]).2 w' ∧ FrS W0 Pr W w' := by
  have HG := Lib.hid (fun (g : Nat) Z (hS : Stk W0 (fun c => Pr c ∨ c = g) p L Z) b (hb : b = Z.heap.size) => give_row12 W0 (fun c => Pr c ∨ c = g) p L Z hlen hS (k1, x1, n1, a1, l1, s1) (k0, x0, n0, a0, l0, s0) #[.int .i64 k1, .bool x1, .int .i64 n1, .int .i64 a1, .int .i64 l1, .string s1, .int .i64 k0, .bool x0, .int .i64 n0, .int .i64 a0, .int .i64 l0, .string s0] rfl 2 h2 hm1 hm0 2 rfl b hb)
  clear h2
  have HS := Lib.hid (h.grown ((Grown.refl W).alloc #[.int .i64 (-1), .int .i64 (-1)] 3))
  have TK := Lib.hid (take2_ok W0 Pr p L _ hlen HS.out (k0, x0, n0, a0, l0, s0) (k1, x1, n1, a1, l1, s1) ho1 ho0 (Pl.mayO_kind hm0) (Pl.mayO_kind hm1) W.heap.size 2 (Nat.le_refl _) (-1) (-1) (by simp [go_sem]) (by simp [go_sem]) (Pl.fits_any (Pl.mayO_kind hm1)) (Pl.fits_any (Pl.mayO_kind hm0)))
  clear h hlen ho1 ho0 hm0 hm1
  go_enter Tryz.func19, Tryz.ntmps19
  go_wp2_with fail
  refine TK.out.mono ?_
  rintro e w2 ⟨g2, g, B2, rfl⟩
  have G2 := Lib.hid (grown_trans ((Grown.refl W).alloc #[.int .i64 (-1), .int .i64 (-1)] 3) g2)
  have HS2 := Lib.hid (HS.out.grown g2)
  obtain ⟨c0, c1, c2, c3, c4, c5, d0, d1, d2, d3, d4, d5⟩ := B2.at12
  have HSP : Hid (Stk W0 (fun c => Pr c ∨ c = g) p L w2) := Lib.hid (HS.out.protect (Fr.of_grown _ g2) (fun c q hc => q.elim id (fun e => by have := B2.1; omega)) (fun c q => q.elim (fun q => by obtain ⟨_, _, _, _, _, _, h5⟩ := HS2.out; exact h5 c q) (fun e => e ▸ B2.2.1)))
  clear TK g2 HS B2
  have hne := World.new_ne w2 _ c0
  have LG := Lib.hid (fun b (hb : b = w2.drew.heap.size) => (HG.out g w2.drew (HSP.out.grown (Grown.drew (Grown.refl w2))) b hb).mono fun e w' hh => (⟨hh.1, ⟨keep12 hh.2.2 c0, keep12 hh.2.2 c1, keep12 hh.2.2 c2, keep12 hh.2.2 c3, keep12 hh.2.2 c4, keep12 hh.2.2 c5, keep12 hh.2.2 d0, keep12 hh.2.2 d1, keep12 hh.2.2 d2, keep12 hh.2.2 d3, keep12 hh.2.2 d4, keep12 hh.2.2 d5⟩, hh.2.1.unprotect, frS_unprotect hh.2.2⟩ : _ ∧ (w'.cell? ⟨g, 0, none⟩ = some (.int .i64 k0) ∧ w'.cell? ⟨g, 1, none⟩ = some (.bool x0) ∧ w'.cell? ⟨g, 2, none⟩ = some (.int .i64 n0) ∧ w'.cell? ⟨g, 3, none⟩ = some (.int .i64 a0) ∧ w'.cell? ⟨g, 4, none⟩ = some (.int .i64 l0) ∧ w'.cell? ⟨g, 5, none⟩ = some (.string s0) ∧ w'.cell? ⟨g, 6, none⟩ = some (.int .i64 k1) ∧ w'.cell? ⟨g, 7, none⟩ = some (.bool x1) ∧ w'.cell? ⟨g, 8, none⟩ = some (.int .i64 n1) ∧ w'.cell? ⟨g, 9, none⟩ = some (.int .i64 a1) ∧ w'.cell? ⟨g, 10, none⟩ = some (.int .i64 l1) ∧ w'.cell? ⟨g, 11, none⟩ = some (.string s1)) ∧ Stk W0 Pr p _ w' ∧ FrS W0 Pr w2.drew w'))
  clear HG HSP HS2
  go_wp2_with fail
  go_region_held3 (fun Z => Z.cell? ⟨g, 0, none⟩ = some (.int .i64 k0) ∧ Z.cell? ⟨g, 1, none⟩ = some (.bool x0) ∧ Z.cell? ⟨g, 2, none⟩ = some (.int .i64 n0) ∧ Z.cell? ⟨g, 3, none⟩ = some (.int .i64 a0) ∧ Z.cell? ⟨g, 4, none⟩ = some (.int .i64 l0) ∧ Z.cell? ⟨g, 5, none⟩ = some (.string s0) ∧ Z.cell? ⟨g, 6, none⟩ = some (.int .i64 k1) ∧ Z.cell? ⟨g, 7, none⟩ = some (.bool x1) ∧ Z.cell? ⟨g, 8, none⟩ = some (.int .i64 n1) ∧ Z.cell? ⟨g, 9, none⟩ = some (.int .i64 a1) ∧ Z.cell? ⟨g, 10, none⟩ = some (.int .i64 l1) ∧ Z.cell? ⟨g, 11, none⟩ = some (.string s1)) (first | assumption | go_keep)
    (first
      | (go_at_call 24; first | (with_reducible refine Calls.mono (LG.out _ (by simp)) ?_; rintro e w9 ⟨rfl, hc9, hs9, hf9⟩)))
  all_goals
    have H9 := Lib.hid (And.intro hs9 ((Fr.of_grown _ (Grown.drew G2.out)).trans hf9))
    clear hs9 hf9 hc9
    go_wp2_with fail
    go_ret
    exact ⟨rfl, H9.out⟩
omit hlen in
theorem round_3_under (hL : L.length < 1) :
    Calls Tryz.prog 19 #[.pointer (some ⟨p, 0, none⟩), .int .i64 3] W fun e w' => e = .returned (.int .i64 (((7, L) : Int × List Pl.Ob)).1) ∧ Stk W0 Pr p (((7, L) : Int × List Pl.Ob)).2 w' ∧ FrS W0 Pr W w' := by
  have HS := Lib.hid (h.grown ((Grown.refl W).alloc #[.int .i64 (-1)] 3))
  have TK := Lib.hid (take1_under W0 Pr p L _ HS.out hL W.heap.size 1)
  clear h hL
  go_enter Tryz.func19, Tryz.ntmps19
  go_wp2_with fail
  refine TK.out.mono ?_
  rintro e w2 ⟨rfl, rfl⟩
  clear TK
  go_wp2_with fail
  go_ret
  exact ⟨rfl, HS.out, Fr.of_grown _ ((Grown.refl W).alloc _ _)⟩
theorem round_3 (k n a l : Int) (x : Bool) (s : ByteArray) (ho : L.reverse[0]? = some (k, x, n, a, l, s)) (hm : Pl.mayO (k, x, n, a, l, s)) (h1 : 1 ≤ L.length) :
    Calls Tryz.prog 19 #[.pointer (some ⟨p, 0, none⟩), .int .i64 3] W fun e w' => e = .returned (.int .i64 (Pl.giveR L 1 [(k, x, n, a, l, s), (k, x, n, a, l, s)]).1) ∧ Stk W0 Pr p (Pl.giveR L 1 [(k, x, n, a, l, s), (k, x, n, a, l, s)]).2 w' ∧ FrS W0 Pr W w' := by
  have HG := Lib.hid (fun (g : Nat) Z (hS : Stk W0 (fun c => Pr c ∨ c = g) p L Z) b (hb : b = Z.heap.size) => give_row12 W0 (fun c => Pr c ∨ c = g) p L Z hlen hS (k, x, n, a, l, s) (k, x, n, a, l, s) #[.int .i64 k, .bool x, .int .i64 n, .int .i64 a, .int .i64 l, .string s, .int .i64 k, .bool x, .int .i64 n, .int .i64 a, .int .i64 l, .string s] rfl 1 h1 hm hm 1 rfl b hb)
  clear h1
  have HS := Lib.hid (h.grown ((Grown.refl W).alloc #[.int .i64 (-1)] 3))
  have TK := Lib.hid (take1_ok W0 Pr p L _ hlen HS.out (k, x, n, a, l, s) ho (Pl.mayO_kind hm) W.heap.size 1 (Nat.le_refl _) (-1) (by simp [go_sem]) (Pl.fits_any (Pl.mayO_kind hm)))
  clear h hlen ho hm
  go_enter Tryz.func19, Tryz.ntmps19
  go_wp2_with fail
  refine TK.out.mono ?_
  rintro e w2 ⟨g2, g, B2, rfl⟩
  have G2 := Lib.hid (grown_trans ((Grown.refl W).alloc #[.int .i64 (-1)] 3) g2)
  have HS2 := Lib.hid (HS.out.grown g2)
  obtain ⟨c0, c1, c2, c3, c4, c5⟩ := B2.at6
  have HSP : Hid (Stk W0 (fun c => Pr c ∨ c = g) p L w2) := Lib.hid (HS.out.protect (Fr.of_grown _ g2) (fun c q hc => q.elim id (fun e => by have := B2.1; omega)) (fun c q => q.elim (fun q => by obtain ⟨_, _, _, _, _, _, h5⟩ := HS2.out; exact h5 c q) (fun e => e ▸ B2.2.1)))
  clear TK g2 HS B2
  have hne := World.new_ne w2 _ c0
  have LG := Lib.hid (fun b (hb : b = w2.drew.heap.size) => (HG.out g w2.drew (HSP.out.grown (Grown.drew (Grown.refl w2))) b hb).mono fun e w' hh => (⟨hh.1, ⟨keep12 hh.2.2 c0, keep12 hh.2.2 c1, keep12 hh.2.2 c2, keep12 hh.2.2 c3, keep12 hh.2.2 c4, keep12 hh.2.2 c5⟩, hh.2.1.unprotect, frS_unprotect hh.2.2⟩ : _ ∧ (w'.cell? ⟨g, 0, none⟩ = some (.int .i64 k) ∧ w'.cell? ⟨g, 1, none⟩ = some (.bool x) ∧ w'.cell? ⟨g, 2, none⟩ = some (.int .i64 n) ∧ w'.cell? ⟨g, 3, none⟩ = some (.int .i64 a) ∧ w'.cell? ⟨g, 4, none⟩ = some (.int .i64 l) ∧ w'.cell? ⟨g, 5, none⟩ = some (.string s)) ∧ Stk W0 Pr p _ w' ∧ FrS W0 Pr w2.drew w'))
  clear HG HSP HS2
  go_wp2_with fail
  go_region_held3 (fun Z => Z.cell? ⟨g, 0, none⟩ = some (.int .i64 k) ∧ Z.cell? ⟨g, 1, none⟩ = some (.bool x) ∧ Z.cell? ⟨g, 2, none⟩ = some (.int .i64 n) ∧ Z.cell? ⟨g, 3, none⟩ = some (.int .i64 a) ∧ Z.cell? ⟨g, 4, none⟩ = some (.int .i64 l) ∧ Z.cell? ⟨g, 5, none⟩ = some (.string s)) (first | assumption | go_keep)
    (first
      | (go_at_call 24; first | (with_reducible refine Calls.mono (LG.out _ (by simp)) ?_; rintro e w9 ⟨rfl, hc9, hs9, hf9⟩)))
  all_goals
    have H9 := Lib.hid (And.intro hs9 ((Fr.of_grown _ (Grown.drew G2.out)).trans hf9))
    clear hs9 hf9 hc9
    go_wp2_with fail
    go_ret
    exact ⟨rfl, H9.out⟩
omit hlen in
theorem round_4_under (hL : L.length < 1) :
    Calls Tryz.prog 19 #[.pointer (some ⟨p, 0, none⟩), .int .i64 4] W fun e w' => e = .returned (.int .i64 (((7, L) : Int × List Pl.Ob)).1) ∧ Stk W0 Pr p (((7, L) : Int × List Pl.Ob)).2 w' ∧ FrS W0 Pr W w' := by
  have HS := Lib.hid (h.grown ((Grown.refl W).alloc #[.int .i64 8] 3))
  have TK := Lib.hid (take1_under W0 Pr p L _ HS.out hL W.heap.size 1)
  clear h hL
  go_enter Tryz.func19, Tryz.ntmps19
  go_wp2_with fail
  refine TK.out.mono ?_
  rintro e w2 ⟨rfl, rfl⟩
  clear TK
  go_wp2_with fail
  go_ret
  exact ⟨rfl, HS.out, Fr.of_grown _ ((Grown.refl W).alloc _ _)⟩
theorem round_4_bad (o : Pl.Ob) (ho : L.reverse[0]? = some o) (hm : Pl.mayO o) (hf : Pl.fits 8 o.1 = false) :
    Calls Tryz.prog 19 #[.pointer (some ⟨p, 0, none⟩), .int .i64 4] W fun e w' => e = .returned (.int .i64 (((6, L) : Int × List Pl.Ob)).1) ∧ Stk W0 Pr p (((6, L) : Int × List Pl.Ob)).2 w' ∧ FrS W0 Pr W w' := by
  have HS := Lib.hid (h.grown ((Grown.refl W).alloc #[.int .i64 8] 3))
  have TK := Lib.hid (take1_bad W0 Pr p L _ hlen HS.out o ho (Pl.mayO_kind hm) W.heap.size 1 (Nat.le_refl _) 8 (by simp [go_sem]) hf)
  clear h hlen ho hm hf
  go_enter Tryz.func19, Tryz.ntmps19
  go_wp2_with fail
  refine TK.out.mono ?_
  rintro e w2 ⟨g2, rfl⟩
  have G2 := Lib.hid (grown_trans ((Grown.refl W).alloc #[.int .i64 8] 3) g2)
  have HS2 := Lib.hid (HS.out.grown g2)
  clear TK g2
  go_wp2_with fail
  go_ret
  exact ⟨rfl, HS2.out, Fr.of_grown _ G2.out⟩
theorem round_4_low (n : Int) (x : Bool) (ho : L.reverse[0]? = some (3, x, n, 0, 0, ⟨#[]⟩)) (hm : Pl.mayO (3, x, n, 0, 0, ⟨#[]⟩)) (hn : n < 0) :
    Calls Tryz.prog 19 #[.pointer (some ⟨p, 0, none⟩), .int .i64 4] W fun e w' => e = .returned (.int .i64 (((2, L) : Int × List Pl.Ob)).1) ∧ Stk W0 Pr p (((2, L) : Int × List Pl.Ob)).2 w' ∧ FrS W0 Pr W w' := by
  have HS := Lib.hid (h.grown ((Grown.refl W).alloc #[.int .i64 8] 3))
  have TK := Lib.hid (take1_ok W0 Pr p L _ hlen HS.out (3, x, n, 0, 0, ⟨#[]⟩) ho (Pl.mayO_kind hm) W.heap.size 1 (Nat.le_refl _) 8 (by simp [go_sem]) (show Pl.fits 8 3 = true by decide))
  clear h hlen ho hm
  go_enter Tryz.func19, Tryz.ntmps19
  go_wp2_with fail
  refine TK.out.mono ?_
  rintro e w2 ⟨g2, g, B2, rfl⟩
  have G2 := Lib.hid (grown_trans ((Grown.refl W).alloc #[.int .i64 8] 3) g2)
  have HS2 := Lib.hid (HS.out.grown g2)
  obtain ⟨c0, c1, c2, c3, c4, c5⟩ := B2.at6
  clear TK g2 HS B2
  go_wp2_with fail
  go_ret
  exact ⟨rfl, HS2.out, Fr.of_grown _ G2.out⟩
theorem round_4_none (n : Int) (x : Bool) (ho : L.reverse[0]? = some (3, x, n, 0, 0, ⟨#[]⟩)) (hm : Pl.mayO (3, x, n, 0, 0, ⟨#[]⟩)) (hn : 0 ≤ n) (hq : L.reverse[(n + 1).toNat]? = none) :
    Calls Tryz.prog 19 #[.pointer (some ⟨p, 0, none⟩), .int .i64 4] W fun e w' => e = .returned (.int .i64 (((7, L) : Int × List Pl.Ob)).1) ∧ Stk W0 Pr p (((7, L) : Int × List Pl.Ob)).2 w' ∧ FrS W0 Pr W w' := by
  have ia := (Pl.mayO_num hm (.inl rfl)).choose_spec.2.1 rfl
  unfold Pl.inInt at ia
  simp only at ia
  have hnn : (n < 0) = False := eq_false (by omega)
  have PK := Lib.hid (fun Z (hS : Stk W0 Pr p L Z) => peek_all W0 Pr p L Z hlen hS (n + 1))
  rw [show Pl.peekR L (n + 1) = (Pl.zer, 7) by unfold Pl.peekR; rw [if_neg (by omega), hq]] at PK
  clear hq
  have HS := Lib.hid (h.grown ((Grown.refl W).alloc #[.int .i64 8] 3))
  have TK := Lib.hid (take1_ok W0 Pr p L _ hlen HS.out (3, x, n, 0, 0, ⟨#[]⟩) ho (Pl.mayO_kind hm) W.heap.size 1 (Nat.le_refl _) 8 (by simp [go_sem]) (show Pl.fits 8 3 = true by decide))
  clear h hlen ho hm
  go_enter Tryz.func19, Tryz.ntmps19
  go_wp2_with fail
  refine TK.out.mono ?_
  rintro e w2 ⟨g2, g, B2, rfl⟩
  have G2 := Lib.hid (grown_trans ((Grown.refl W).alloc #[.int .i64 8] 3) g2)
  have HS2 := Lib.hid (HS.out.grown g2)
  obtain ⟨c0, c1, c2, c3, c4, c5⟩ := B2.at6
  clear TK g2 HS B2
  unfold Pl.zer at PK
  go_wp2_with fail
  refine (PK.out _ HS2.out).mono ?_
  rintro e w3 ⟨rfl, hs3, g3⟩
  have H3 := Lib.hid (And.intro hs3 (grown_trans G2.out g3))
  clear hs3 g3 PK c0 c1 c2 c3 c4 c5
  go_wp2_with fail
  go_ret
  exact ⟨rfl, H3.out.1.grown ((Grown.refl _).alloc _ _), Fr.of_grown _ (H3.out.2.alloc _ _)⟩
theorem round_4 (n : Int) (x : Bool) (ho : L.reverse[0]? = some (3, x, n, 0, 0, ⟨#[]⟩)) (hm : Pl.mayO (3, x, n, 0, 0, ⟨#[]⟩)) (h1 : 1 ≤ L.length) (hn : 0 ≤ n) (k0 n0 a0 l0 : Int) (x0 : Bool) (s0 : ByteArray) (hq : L.reverse[(n + 1).toNat]? = some (k0, x0, n0, a0, l0, s0)) (hmq : Pl.mayO (k0, x0, n0, a0, l0, s0)) :
    Calls Tryz.prog 19 #[.pointer (some ⟨p, 0, none⟩), .int .i64 4] W fun e w' => e = .returned (.int .i64 (Pl.giveR L 1 [(k0, x0, n0, a0, l0, s0)]).1) ∧ Stk W0 Pr p (Pl.giveR L 1 [(k0, x0, n0, a0, l0, s0)]).2 w' ∧ FrS W0 Pr W w' := by
  have ia := (Pl.mayO_num hm (.inl rfl)).choose_spec.2.1 rfl
  unfold Pl.inInt at ia
  simp only at ia
  have hnn : (n < 0) = False := eq_false (by omega)
  have PK := Lib.hid (fun Z (hS : Stk W0 Pr p L Z) => peek_all W0 Pr p L Z hlen hS (n + 1))
  rw [show Pl.peekR L (n + 1) = ((k0, x0, n0, a0, l0, s0), 0) by unfold Pl.peekR; rw [if_neg (by omega), hq]] at PK
  have HG := Lib.hid (fun Z (hS : Stk W0 Pr p L Z) b (hb : b = Z.heap.size) => give_row1 W0 Pr p L Z hlen hS (k0, x0, n0, a0, l0, s0) #[.int .i64 k0, .bool x0, .int .i64 n0, .int .i64 a0, .int .i64 l0, .string s0] rfl h1 hmq b hb)
  clear hq hmq h1
  have HS := Lib.hid (h.grown ((Grown.refl W).alloc #[.int .i64 8] 3))
  have TK := Lib.hid (take1_ok W0 Pr p L _ hlen HS.out (3, x, n, 0, 0, ⟨#[]⟩) ho (Pl.mayO_kind hm) W.heap.size 1 (Nat.le_refl _) 8 (by simp [go_sem]) (show Pl.fits 8 3 = true by decide))
  clear h hlen ho hm
  go_enter Tryz.func19, Tryz.ntmps19
  go_wp2_with fail
  refine TK.out.mono ?_
  rintro e w2 ⟨g2, g, B2, rfl⟩
  have G2 := Lib.hid (grown_trans ((Grown.refl W).alloc #[.int .i64 8] 3) g2)
  have HS2 := Lib.hid (HS.out.grown g2)
  obtain ⟨c0, c1, c2, c3, c4, c5⟩ := B2.at6
  clear TK g2 HS B2
  go_wp2_with fail
  refine (PK.out _ HS2.out).mono ?_
  rintro e w3 ⟨rfl, hs3, g3⟩
  have H3 := Lib.hid (And.intro (hs3.grown ((Grown.refl _).alloc #[.int .i64 k0, .bool x0, .int .i64 n0, .int .i64 a0, .int .i64 l0, .string s0] 25)) ((grown_trans G2.out g3).alloc #[.int .i64 k0, .bool x0, .int .i64 n0, .int .i64 a0, .int .i64 l0, .string s0] 25))
  clear hs3 g3 PK c0 c1 c2 c3 c4 c5 HS2 G2
  go_wp2_with fail
  with_reducible refine (HG.out _ H3.out.1 _ (by simp)).mono ?_
  rintro e w9 ⟨rfl, hs, hf⟩
  have H9 := Lib.hid (And.intro hs ((Fr.of_grown _ H3.out.2).trans hf))
  clear hs hf HG
  go_wp2_with fail
  go_ret
  exact ⟨rfl, H9.out⟩
omit hlen in
theorem round_5_under (hL : L.length < 2) :
    Calls Tryz.prog 19 #[.pointer (some ⟨p, 0, none⟩), .int .i64 5] W fun e w' => e = .returned (.int .i64 (((7, L) : Int × List Pl.Ob)).1) ∧ Stk W0 Pr p (((7, L) : Int × List Pl.Ob)).2 w' ∧ FrS W0 Pr W w' := by
  have HS := Lib.hid (h.grown ((Grown.refl W).alloc #[.int .i64 8, .int .i64 8] 3))
  have TK := Lib.hid (take2_under W0 Pr p L _ HS.out hL W.heap.size 2)
  clear h hL
  go_enter Tryz.func19, Tryz.ntmps19
  go_wp2_with fail
  refine TK.out.mono ?_
  rintro e w2 ⟨rfl, rfl⟩
  clear TK
  go_wp2_with fail
  go_ret
  exact ⟨rfl, HS.out, Fr.of_grown _ ((Grown.refl W).alloc _ _)⟩
theorem round_5_bad1 (o0 o1 : Pl.Ob) (ho1 : L.reverse[0]? = some o1) (ho0 : L.reverse[1]? = some o0) (hm0 : Pl.mayO o0) (hm1 : Pl.mayO o1) (hf : Pl.fits 8 o1.1 = false) :
    Calls Tryz.prog 19 #[.pointer (some ⟨p, 0, none⟩), .int .i64 5] W fun e w' => e = .returned (.int .i64 (((6, L) : Int × List Pl.Ob)).1) ∧ Stk W0 Pr p (((6, L) : Int × List Pl.Ob)).2 w' ∧ FrS W0 Pr W w' := by
  have HS := Lib.hid (h.grown ((Grown.refl W).alloc #[.int .i64 8, .int .i64 8] 3))
  have TK := Lib.hid (take2_bad1 W0 Pr p L _ hlen HS.out o0 o1 ho1 ho0 (Pl.mayO_kind hm0) (Pl.mayO_kind hm1) W.heap.size 2 (Nat.le_refl _) 8 8 (by simp [go_sem]) (by simp [go_sem]) hf)
  clear h hlen ho0 ho1 hm0 hm1 hf
  go_enter Tryz.func19, Tryz.ntmps19
  go_wp2_with fail
  refine TK.out.mono ?_
  rintro e w2 ⟨g2, rfl⟩
  have G2 := Lib.hid (grown_trans ((Grown.refl W).alloc #[.int .i64 8, .int .i64 8] 3) g2)
  have HS2 := Lib.hid (HS.out.grown g2)
  clear TK g2
  go_wp2_with fail
  go_ret
  exact ⟨rfl, HS2.out, Fr.of_grown _ G2.out⟩
theorem round_5_bad0 (o0 o1 : Pl.Ob) (ho1 : L.reverse[0]? = some o1) (ho0 : L.reverse[1]? = some o0) (hm0 : Pl.mayO o0) (hm1 : Pl.mayO o1) (hf : Pl.fits 8 o1.1 = true) (hf0 : Pl.fits 8 o0.1 = false) :
    Calls Tryz.prog 19 #[.pointer (some ⟨p, 0, none⟩), .int .i64 5] W fun e w' => e = .returned (.int .i64 (((6, L) : Int × List Pl.Ob)).1) ∧ Stk W0 Pr p (((6, L) : Int × List Pl.Ob)).2 w' ∧ FrS W0 Pr W w' := by
  have HS := Lib.hid (h.grown ((Grown.refl W).alloc #[.int .i64 8, .int .i64 8] 3))
  have TK := Lib.hid (take2_bad0 W0 Pr p L _ hlen HS.out o0 o1 ho1 ho0 (Pl.mayO_kind hm0) (Pl.mayO_kind hm1) W.heap.size 2 (Nat.le_refl _) 8 8 (by simp [go_sem]) (by simp [go_sem]) hf hf0)
  clear h hlen ho0 ho1 hm0 hm1 hf hf0
  go_enter Tryz.func19, Tryz.ntmps19
  go_wp2_with fail
  refine TK.out.mono ?_
  rintro e w2 ⟨g2, rfl⟩
  have G2 := Lib.hid (grown_trans ((Grown.refl W).alloc #[.int .i64 8, .int .i64 8] 3) g2)
  have HS2 := Lib.hid (HS.out.grown g2)
  clear TK g2
  go_wp2_with fail
  go_ret
  exact ⟨rfl, HS2.out, Fr.of_grown _ G2.out⟩
theorem round_5_low (a b : Int) (x y : Bool) (ho1 : L.reverse[0]? = some (3, y, b, 0, 0, ⟨#[]⟩)) (ho0 : L.reverse[1]? = some (3, x, a, 0, 0, ⟨#[]⟩)) (hm0 : Pl.mayO (3, x, a, 0, 0, ⟨#[]⟩)) (hm1 : Pl.mayO (3, y, b, 0, 0, ⟨#[]⟩)) (ha : a < 0) :
    Calls Tryz.prog 19 #[.pointer (some ⟨p, 0, none⟩), .int .i64 5] W fun e w' => e = .returned (.int .i64 (((2, L) : Int × List Pl.Ob)).1) ∧ Stk W0 Pr p (((2, L) : Int × List Pl.Ob)).2 w' ∧ FrS W0 Pr W w' := by
  have HS := Lib.hid (h.grown ((Grown.refl W).alloc #[.int .i64 8, .int .i64 8] 3))
  have TK := Lib.hid (take2_ok W0 Pr p L _ hlen HS.out (3, x, a, 0, 0, ⟨#[]⟩) (3, y, b, 0, 0, ⟨#[]⟩) ho1 ho0 (Pl.mayO_kind hm0) (Pl.mayO_kind hm1) W.heap.size 2 (Nat.le_refl _) 8 8 (by simp [go_sem]) (by simp [go_sem]) (show Pl.fits 8 3 = true by decide) (show Pl.fits 8 3 = true by decide))
  clear h hlen ho1 ho0 hm0 hm1
  go_enter Tryz.func19, Tryz.ntmps19
  go_wp2_with fail
  refine TK.out.mono ?_
  rintro e w2 ⟨g2, g, B2, rfl⟩
  have G2 := Lib.hid (grown_trans ((Grown.refl W).alloc #[.int .i64 8, .int .i64 8] 3) g2)
  have HS2 := Lib.hid (HS.out.grown g2)
  obtain ⟨c0, c1, c2, c3, c4, c5, d0, d1, d2, d3, d4, d5⟩ := B2.at12
  clear TK g2 HS B2
  go_wp2_with fail
  go_ret
  exact ⟨rfl, HS2.out, Fr.of_grown _ G2.out⟩
theorem round_5_under2 (a b : Int) (x y : Bool) (ho1 : L.reverse[0]? = some (3, y, b, 0, 0, ⟨#[]⟩)) (ho0 : L.reverse[1]? = some (3, x, a, 0, 0, ⟨#[]⟩)) (hm0 : Pl.mayO (3, x, a, 0, 0, ⟨#[]⟩)) (hm1 : Pl.mayO (3, y, b, 0, 0, ⟨#[]⟩)) (ha : 0 ≤ a) (hL2 : (L.length : Int) - 2 < a) :
    Calls Tryz.prog 19 #[.pointer (some ⟨p, 0, none⟩), .int .i64 5] W fun e w' => e = .returned (.int .i64 (((7, L) : Int × List Pl.Ob)).1) ∧ Stk W0 Pr p (((7, L) : Int × List Pl.Ob)).2 w' ∧ FrS W0 Pr W w' := by
  have ia := (Pl.mayO_num hm0 (.inl rfl)).choose_spec.2.1 rfl
  unfold Pl.inInt at ia
  simp only at ia
  have hna : (a < 0) = False := eq_false (by omega)
  have SL := Lib.hid (fun Z (hS : Stk W0 Pr p L Z) => stk_len W0 Pr p L Z hS)
  have hlt : decide ((L.length : Int) - 2 < a) = true := decide_eq_true hL2
  have hl3 : (0 : Int) ≤ (L.length : Int) ∧ (L.length : Int) ≤ 200 := by omega
  obtain ⟨M, hM⟩ : ∃ M : Int, M = (L.length : Int) := ⟨_, rfl⟩
  rw [← hM] at SL hL2 hlt hl3
  clear hM
  have hw2 : IntKind.i64.wrap (M - 2) = M - 2 := by unfold IntKind.wrap IntKind.bits IntKind.signed; simp; omega
  have HS := Lib.hid (h.grown ((Grown.refl W).alloc #[.int .i64 8, .int .i64 8] 3))
  have TK := Lib.hid (take2_ok W0 Pr p L _ hlen HS.out (3, x, a, 0, 0, ⟨#[]⟩) (3, y, b, 0, 0, ⟨#[]⟩) ho1 ho0 (Pl.mayO_kind hm0) (Pl.mayO_kind hm1) W.heap.size 2 (Nat.le_refl _) 8 8 (by simp [go_sem]) (by simp [go_sem]) (show Pl.fits 8 3 = true by decide) (show Pl.fits 8 3 = true by decide))
  clear h hlen ho1 ho0 hm0 hm1
  go_enter Tryz.func19, Tryz.ntmps19
  go_wp2_with fail
  refine TK.out.mono ?_
  rintro e w2 ⟨g2, g, B2, rfl⟩
  have G2 := Lib.hid (grown_trans ((Grown.refl W).alloc #[.int .i64 8, .int .i64 8] 3) g2)
  have HS2 := Lib.hid (HS.out.grown g2)
  obtain ⟨c0, c1, c2, c3, c4, c5, d0, d1, d2, d3, d4, d5⟩ := B2.at12
  clear TK g2 HS B2
  go_wp2_with fail
  have T2 : Hid (w2.drew.cell? ⟨g, 2, none⟩ = some (.int .i64 a) ∧ w2.drew.cell? ⟨g, 8, none⟩ = some (.int .i64 b) ∧ Stk W0 Pr p L w2.drew ∧ Grown W w2.drew) := Lib.hid ⟨c2, d2, HS2.out.grown (Grown.drew (Grown.refl w2)), Grown.drew G2.out⟩
  have LL := Lib.hid (fun Z (hZ : Z.cell? ⟨g, 2, none⟩ = some (.int .i64 a) ∧ Z.cell? ⟨g, 8, none⟩ = some (.int .i64 b) ∧ Stk W0 Pr p L Z ∧ Grown W Z) => (SL.out Z hZ.2.2.1).mono fun e w' hh => (⟨hh.1, hh.2 ▸ hZ⟩ : _ ∧ (w'.cell? ⟨g, 2, none⟩ = some (.int .i64 a) ∧ w'.cell? ⟨g, 8, none⟩ = some (.int .i64 b) ∧ Stk W0 Pr p L w' ∧ Grown W w')))
  clear SL HS2 G2 c0 c1 c3 c4 c5 d0 d1 d3 d4 d5
  go_region_held3 (fun Z => Z.cell? ⟨g, 2, none⟩ = some (.int .i64 a) ∧ Z.cell? ⟨g, 8, none⟩ = some (.int .i64 b) ∧ Stk W0 Pr p L Z ∧ Grown W Z) (first | assumption | exact T2.out)
    (first
      | (go_at_call 36; first | (with_reducible refine Calls.mono (LL.out _ ?_) ?_; (assumption); rintro e w5 ⟨rfl, hS5⟩)))
  all_goals
    have H5 := Lib.hid hS5
    clear hS5
    go_wp2_with fail
    go_ret
    exact ⟨rfl, H5.out.2.2.1, Fr.of_grown _ H5.out.2.2.2⟩
theorem round_5 (a b : Int) (x y : Bool) (ho1 : L.reverse[0]? = some (3, y, b, 0, 0, ⟨#[]⟩)) (ho0 : L.reverse[1]? = some (3, x, a, 0, 0, ⟨#[]⟩)) (hm0 : Pl.mayO (3, x, a, 0, 0, ⟨#[]⟩)) (hm1 : Pl.mayO (3, y, b, 0, 0, ⟨#[]⟩)) (h2 : 2 ≤ L.length) (ha : 0 ≤ a) (hL2 : a ≤ (L.length : Int) - 2) :
    Calls Tryz.prog 19 #[.pointer (some ⟨p, 0, none⟩), .int .i64 5] W fun e w' => e = .returned (.int .i64 (((0, Pl.rot (L.take (L.length - 2)) a.toNat b) : Int × List Pl.Ob)).1) ∧ Stk W0 Pr p (((0, Pl.rot (L.take (L.length - 2)) a.toNat b) : Int × List Pl.Ob)).2 w' ∧ FrS W0 Pr W w' := by
  have ia := (Pl.mayO_num hm0 (.inl rfl)).choose_spec.2.1 rfl
  unfold Pl.inInt at ia
  simp only at ia
  have hna : (a < 0) = False := eq_false (by omega)
  have SL := Lib.hid (fun (g : Nat) Z (hS : Stk W0 (fun c => Pr c ∨ c = g) p L Z) => stk_len W0 _ p L Z hS)
  have GN := Lib.hid (fun (g : Nat) Z (hS : Stk W0 (fun c => Pr c ∨ c = g) p L Z) => give_none W0 _ p L Z hlen hS 2 h2)
  have RR := Lib.hid (fun (g : Nat) Z (hS : Stk W0 (fun c => Pr c ∨ c = g) p (L.take (L.length - 2)) Z) => stk_roll W0 _ p (L.take (L.length - 2)) Z hS a.toNat b (by rw [List.length_take]; omega) (by rw [List.length_take]; omega))
  rw [show ((a.toNat : Nat) : Int) = a by omega] at RR
  have hlt : decide ((L.length : Int) - 2 < a) = false := decide_eq_false (by omega)
  have hl3 : (0 : Int) ≤ (L.length : Int) ∧ (L.length : Int) ≤ 200 := by omega
  obtain ⟨L2, hLL⟩ : ∃ L2, L2 = Pl.rot (L.take (L.length - 2)) a.toNat b := ⟨_, rfl⟩
  obtain ⟨L1, hL1⟩ : ∃ L1, L1 = L.take (L.length - 2) := ⟨_, rfl⟩
  rw [← hLL] at RR ⊢
  rw [← hL1] at RR GN
  clear hLL hL1
  obtain ⟨M, hM⟩ : ∃ M : Int, M = (L.length : Int) := ⟨_, rfl⟩
  rw [← hM] at SL hL2 hlt hl3
  clear hM h2
  have hw2 : IntKind.i64.wrap (M - 2) = M - 2 := by unfold IntKind.wrap IntKind.bits IntKind.signed; simp; omega
  have HS := Lib.hid (h.grown ((Grown.refl W).alloc #[.int .i64 8, .int .i64 8] 3))
  have TK := Lib.hid (take2_ok W0 Pr p L _ hlen HS.out (3, x, a, 0, 0, ⟨#[]⟩) (3, y, b, 0, 0, ⟨#[]⟩) ho1 ho0 (Pl.mayO_kind hm0) (Pl.mayO_kind hm1) W.heap.size 2 (Nat.le_refl _) 8 8 (by simp [go_sem]) (by simp [go_sem]) (show Pl.fits 8 3 = true by decide) (show Pl.fits 8 3 = true by decide))
  clear h hlen ho1 ho0 hm0 hm1
  go_enter Tryz.func19, Tryz.ntmps19
  go_wp2_with fail
  refine TK.out.mono ?_
  rintro e w2 ⟨g2, g, B2, rfl⟩
  have G2 := Lib.hid (grown_trans ((Grown.refl W).alloc #[.int .i64 8, .int .i64 8] 3) g2)
  have HS2 := Lib.hid (HS.out.grown g2)
  obtain ⟨c0, c1, c2, c3, c4, c5, d0, d1, d2, d3, d4, d5⟩ := B2.at12
  have HSP : Hid (Stk W0 (fun c => Pr c ∨ c = g) p L w2) := Lib.hid (HS.out.protect (Fr.of_grown _ g2) (fun c q hc => q.elim id (fun e => by have := B2.1; omega)) (fun c q => q.elim (fun q => by obtain ⟨_, _, _, _, _, _, h5⟩ := HS2.out; exact h5 c q) (fun e => e ▸ B2.2.1)))
  clear TK g2 HS B2
  clear HS2
  go_wp2_with fail
  have T2 : Hid (w2.drew.cell? ⟨g, 2, none⟩ = some (.int .i64 a) ∧ w2.drew.cell? ⟨g, 8, none⟩ = some (.int .i64 b) ∧ Stk W0 (fun c => Pr c ∨ c = g) p L w2.drew ∧ Grown W w2.drew) := Lib.hid ⟨c2, d2, HSP.out.grown (Grown.drew (Grown.refl w2)), Grown.drew G2.out⟩
  have LL := Lib.hid (fun Z (hZ : Z.cell? ⟨g, 2, none⟩ = some (.int .i64 a) ∧ Z.cell? ⟨g, 8, none⟩ = some (.int .i64 b) ∧ Stk W0 (fun c => Pr c ∨ c = g) p L Z ∧ Grown W Z) => (SL.out g Z hZ.2.2.1).mono fun e w' hh => (⟨hh.1, hh.2 ▸ hZ⟩ : _ ∧ (w'.cell? ⟨g, 2, none⟩ = some (.int .i64 a) ∧ w'.cell? ⟨g, 8, none⟩ = some (.int .i64 b) ∧ Stk W0 (fun c => Pr c ∨ c = g) p L w' ∧ Grown W w')))
  clear SL HSP G2 c0 c1 c3 c4 c5 d0 d1 d3 d4 d5
  go_region_held3 (fun Z => Z.cell? ⟨g, 2, none⟩ = some (.int .i64 a) ∧ Z.cell? ⟨g, 8, none⟩ = some (.int .i64 b) ∧ Stk W0 (fun c => Pr c ∨ c = g) p L Z ∧ Grown W Z) (first | assumption | exact T2.out)
    (first
      | (go_at_call 36; first | (with_reducible refine Calls.mono (LL.out _ ?_) ?_; (assumption); rintro e w5 ⟨rfl, hS5⟩)))
  have H5 := Lib.hid hS5
  clear hS5 T2 LL c2 d2
  go_wp2_with fail
  refine (GN.out g _ H5.out.2.2.1).mono ?_
  rintro e w6 ⟨rfl, hs6, hf6⟩
  have c2 : w6.cell? ⟨g, 2, none⟩ = some (.int .i64 a) := keep12 hf6 H5.out.1
  have d2 : w6.cell? ⟨g, 8, none⟩ = some (.int .i64 b) := keep12 hf6 H5.out.2.1
  have H6 := Lib.hid (And.intro hs6 ((Fr.of_grown _ H5.out.2.2.2).trans hf6))
  have HR : Hid (Stk W0 (fun c => Pr c ∨ c = g) p L1 w6.drew) := Lib.hid (hs6.grown (Grown.drew (Grown.refl _)))
  have LR := Lib.hid ((RR.out g _ HR.out).mono fun e w' hh => (⟨hh.1, ⟨keep12 hh.2.2 c2, keep12 hh.2.2 d2⟩, hh.2.1, hh.2.2⟩ : _ ∧ (w'.cell? ⟨g, 2, none⟩ = some (.int .i64 a) ∧ w'.cell? ⟨g, 8, none⟩ = some (.int .i64 b)) ∧ Stk W0 (fun c => Pr c ∨ c = g) p L2 w' ∧ FrS W0 (fun c => Pr c ∨ c = g) w6.drew w'))
  clear hs6 hf6 H5 GN RR HR
  go_wp2_with fail
  go_region_held3 (fun Z => Z.cell? ⟨g, 2, none⟩ = some (.int .i64 a) ∧ Z.cell? ⟨g, 8, none⟩ = some (.int .i64 b)) (first | assumption | go_keep)
    (first
      | (go_at_call 37; first | (with_reducible refine Calls.mono LR.out ?_; rintro e w9 ⟨rfl, hc9, hs9, hf9⟩)))
  all_goals
    have H9 := Lib.hid (And.intro hs9.unprotect (frS_unprotect (H6.out.2.trans ((Fr.of_grown _ (Grown.drew (Grown.refl _))).trans hf9))))
    clear hs9 hf9 hc9
    go_wp2_with fail
    go_ret
    exact ⟨rfl, H9.out⟩
omit hlen in
theorem round_6 :
    Calls Tryz.prog 19 #[.pointer (some ⟨p, 0, none⟩), .int .i64 6] W fun e w' => e = .returned (.int .i64 (((0, []) : Int × List Pl.Ob)).1) ∧ Stk W0 Pr p (((0, []) : Int × List Pl.Ob)).2 w' ∧ FrS W0 Pr W w' := by
  have CC := Lib.hid (stk_clear W0 Pr p L W h)
  clear h
  go_enter Tryz.func19, Tryz.ntmps19
  go_wp2_with fail
  refine CC.out.mono ?_
  rintro e w2 ⟨rfl, hs, hf⟩
  have H2 := Lib.hid (And.intro hs hf)
  clear hs hf CC
  go_wp2_with fail
  go_ret
  exact ⟨rfl, H2.out⟩
theorem round_7 :
    Calls Tryz.prog 19 #[.pointer (some ⟨p, 0, none⟩), .int .i64 7] W fun e w' => e = .returned (.int .i64 (Pl.giveR L 0 [Pl.intO L.length]).1) ∧ Stk W0 Pr p (Pl.giveR L 0 [Pl.intO L.length]).2 w' ∧ FrS W0 Pr W w' := by
  have SL := Lib.hid (stk_len W0 Pr p L W h)
  have WO := Lib.hid (fun Z => whole_obj (L.length : Int) Z)
  have HG := Lib.hid (fun Z (hS : Stk W0 Pr p L Z) b (hb : b = Z.heap.size) => give_row0 W0 Pr p L Z hlen hS (Pl.intO L.length) #[.int .i64 3, .bool false, .int .i64 (L.length : Int), .int .i64 0, .int .i64 0, .string ⟨#[]⟩] rfl (Pl.may_intO (by unfold Pl.inInt; omega)) b hb)
  have HS := Lib.hid h
  obtain ⟨M, hM⟩ : ∃ M : Int, M = (L.length : Int) := ⟨_, rfl⟩
  rw [← hM] at SL WO HG ⊢
  clear h hlen hM
  go_enter Tryz.func19, Tryz.ntmps19
  go_wp2_with fail
  refine SL.out.mono ?_
  rintro e w2 ⟨rfl, rfl⟩
  go_wp2_with fail
  refine (WO.out _).mono ?_
  rintro e w3 ⟨rfl, g3⟩
  have H3 := Lib.hid (And.intro (HS.out.grown (g3.alloc #[.int .i64 3, .bool false, .int .i64 M, .int .i64 0, .int .i64 0, .string ⟨#[]⟩] 25)) (g3.alloc #[.int .i64 3, .bool false, .int .i64 M, .int .i64 0, .int .i64 0, .string ⟨#[]⟩] 25))
  clear g3 WO SL
  go_wp2_with fail
  with_reducible refine (HG.out _ H3.out.1 _ (by simp)).mono ?_
  rintro e w9 ⟨rfl, hs, hf⟩
  have H9 := Lib.hid (And.intro hs ((Fr.of_grown _ H3.out.2).trans hf))
  clear hs hf HG
  go_wp2_with fail
  go_ret
  exact ⟨rfl, H9.out⟩
theorem round_8 :
    Calls Tryz.prog 19 #[.pointer (some ⟨p, 0, none⟩), .int .i64 8] W fun e w' => e = .returned (.int .i64 (Pl.giveR L 0 [Pl.markO]).1) ∧ Stk W0 Pr p (Pl.giveR L 0 [Pl.markO]).2 w' ∧ FrS W0 Pr W w' := by
  have HG := Lib.hid (give_row0 W0 Pr p L W hlen h Pl.markO #[.int .i64 6, .bool false, .int .i64 0, .int .i64 0, .int .i64 0, .string ⟨#[]⟩] rfl Pl.may_mark W.heap.size rfl)
  clear h hlen
  go_enter Tryz.func19, Tryz.ntmps19
  go_wp2_with fail
  refine HG.out.mono ?_
  rintro e w9 ⟨rfl, hs, hf⟩
  have H9 := Lib.hid (And.intro hs hf)
  clear hs hf HG
  go_wp2_with fail
  go_ret
  exact ⟨rfl, H9.out⟩
theorem round_9_none (hq : L.reverse.findIdx? (fun q => q.1 == 6) = none) :
    Calls Tryz.prog 19 #[.pointer (some ⟨p, 0, none⟩), .int .i64 9] W fun e w' => e = .returned (.int .i64 (((10, L) : Int × List Pl.Ob)).1) ∧ Stk W0 Pr p (((10, L) : Int × List Pl.Ob)).2 w' ∧ FrS W0 Pr W w' := by
  have TM := Lib.hid (stk_tomark W0 Pr p L W h (by omega))
  rw [show Pl.toMark L = (0, 10) by unfold Pl.toMark; rw [hq]] at TM
  clear h hlen hq
  go_enter Tryz.func19, Tryz.ntmps19
  go_wp2_with fail
  refine TM.out.mono ?_
  rintro e w2 ⟨rfl, hs, g2⟩
  have H2 := Lib.hid (And.intro hs g2)
  clear hs g2 TM
  go_wp2_with fail
  go_ret
  exact ⟨rfl, H2.out.1, Fr.of_grown _ H2.out.2⟩
theorem round_9 (i : Nat) (hq : L.reverse.findIdx? (fun q => q.1 == 6) = some i) :
    Calls Tryz.prog 19 #[.pointer (some ⟨p, 0, none⟩), .int .i64 9] W fun e w' => e = .returned (.int .i64 (Pl.giveR L 0 [Pl.intO i]).1) ∧ Stk W0 Pr p (Pl.giveR L 0 [Pl.intO i]).2 w' ∧ FrS W0 Pr W w' := by
  have TM := Lib.hid (stk_tomark W0 Pr p L W h (by omega))
  rw [show Pl.toMark L = ((i : Int), 0) by unfold Pl.toMark; rw [hq]] at TM
  have hi := Pl.toMark_lt L i hq
  have WO := Lib.hid (fun Z => whole_obj (i : Int) Z)
  have HG := Lib.hid (fun Z (hS : Stk W0 Pr p L Z) b (hb : b = Z.heap.size) => give_row0 W0 Pr p L Z hlen hS (Pl.intO i) #[.int .i64 3, .bool false, .int .i64 (i : Int), .int .i64 0, .int .i64 0, .string ⟨#[]⟩] rfl (Pl.may_intO (by unfold Pl.inInt; omega)) b hb)
  obtain ⟨M, hM⟩ : ∃ M : Int, M = (i : Int) := ⟨_, rfl⟩
  rw [← hM] at TM WO HG ⊢
  clear h hlen hq hi hM
  go_enter Tryz.func19, Tryz.ntmps19
  go_wp2_with fail
  refine TM.out.mono ?_
  rintro e w2 ⟨rfl, hs2, g2⟩
  have HS2 := Lib.hid hs2
  have G2 := Lib.hid g2
  clear hs2 g2 TM
  go_wp2_with fail
  refine (WO.out _).mono ?_
  rintro e w3 ⟨rfl, g3⟩
  have H3 := Lib.hid (And.intro (HS2.out.grown (g3.alloc #[.int .i64 3, .bool false, .int .i64 M, .int .i64 0, .int .i64 0, .string ⟨#[]⟩] 25)) (grown_trans G2.out (g3.alloc #[.int .i64 3, .bool false, .int .i64 M, .int .i64 0, .int .i64 0, .string ⟨#[]⟩] 25)))
  clear g3 WO
  go_wp2_with fail
  with_reducible refine (HG.out _ H3.out.1 _ (by simp)).mono ?_
  rintro e w9 ⟨rfl, hs, hf⟩
  have H9 := Lib.hid (And.intro hs ((Fr.of_grown _ H3.out.2).trans hf))
  clear hs hf HG
  go_wp2_with fail
  go_ret
  exact ⟨rfl, H9.out⟩
theorem round_10_none (hq : L.reverse.findIdx? (fun q => q.1 == 6) = none) :
    Calls Tryz.prog 19 #[.pointer (some ⟨p, 0, none⟩), .int .i64 10] W fun e w' => e = .returned (.int .i64 (((10, L) : Int × List Pl.Ob)).1) ∧ Stk W0 Pr p (((10, L) : Int × List Pl.Ob)).2 w' ∧ FrS W0 Pr W w' := by
  have TM := Lib.hid (stk_tomark W0 Pr p L W h (by omega))
  rw [show Pl.toMark L = (0, 10) by unfold Pl.toMark; rw [hq]] at TM
  clear h hlen hq
  go_enter Tryz.func19, Tryz.ntmps19
  go_wp2_with fail
  refine TM.out.mono ?_
  rintro e w2 ⟨rfl, hs, g2⟩
  have H2 := Lib.hid (And.intro hs g2)
  clear hs g2 TM
  go_wp2_with fail
  go_ret
  exact ⟨rfl, H2.out.1, Fr.of_grown _ H2.out.2⟩
theorem round_10 (i : Nat) (hq : L.reverse.findIdx? (fun q => q.1 == 6) = some i) :
    Calls Tryz.prog 19 #[.pointer (some ⟨p, 0, none⟩), .int .i64 10] W fun e w' => e = .returned (.int .i64 (((0, L.take (L.length - (i + 1))) : Int × List Pl.Ob)).1) ∧ Stk W0 Pr p (((0, L.take (L.length - (i + 1))) : Int × List Pl.Ob)).2 w' ∧ FrS W0 Pr W w' := by
  have TM := Lib.hid (stk_tomark W0 Pr p L W h (by omega))
  rw [show Pl.toMark L = ((i : Int), 0) by unfold Pl.toMark; rw [hq]] at TM
  have hi := Pl.toMark_lt L i hq
  have GN := Lib.hid (fun Z (hS : Stk W0 Pr p L Z) => give_none W0 Pr p L Z hlen hS (i + 1) (by omega))
  rw [show (((i + 1 : Nat)) : Int) = (i : Int) + 1 by omega] at GN
  have hiI : (0 : Int) ≤ (i : Int) ∧ (i : Int) ≤ 200 := by omega
  obtain ⟨M, hM⟩ : ∃ M : Int, M = (i : Int) := ⟨_, rfl⟩
  rw [← hM] at TM GN hiI
  clear h hlen hq hi hM
  go_enter Tryz.func19, Tryz.ntmps19
  go_wp2_with fail
  refine TM.out.mono ?_
  rintro e w2 ⟨rfl, hs2, g2⟩
  have HS2 := Lib.hid hs2
  have G2 := Lib.hid g2
  clear hs2 g2 TM
  go_wp2_with fail
  refine (GN.out _ HS2.out).mono ?_
  rintro e w9 ⟨rfl, hs, hf⟩
  have H9 := Lib.hid (And.intro hs ((Fr.of_grown _ G2.out).trans hf))
  clear hs hf GN
  go_wp2_with fail
  go_ret
  exact ⟨rfl, H9.out⟩
end
end Go.Proofs.YtfmmomdmemcbbaaGreat
