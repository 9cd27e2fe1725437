/- The walk of tympanlaw26.Edge. -/
import Derived.Test.YtnienpalbfgflaaBW11
namespace Go.Proofs.Ytnienpalbfgflaa
set_option linter.unusedVariables false
open Go.RowKit

theorem Fr.setNew {P : Nat → Prop} {W Z : World} {q k : Nat} (h : Fr P W Z) (hq : W.heap.size ≤ q) (v : Value) : Fr P W (Z.setCell ⟨q, k, none⟩ v) :=
  h.trans' (Fr.setCell (fun c => c = q) _ _ _ rfl) (fun i e => .inr (by omega))
theorem Blk.seven {W Z : World} {q : Nat} {a b c d e i j a' b' c' d' e' i' j' : Value} (h : Blk W q [a, b, c, d, e, i, j] Z) : Blk W q [a', b', c', d', e', i', j'] (((((((Z.setCell ⟨q, 0, none⟩ a').setCell ⟨q, 1, none⟩ b').setCell ⟨q, 2, none⟩ c').setCell ⟨q, 3, none⟩ d').setCell ⟨q, 4, none⟩ e').setCell ⟨q, 5, none⟩ i').setCell ⟨q, 6, none⟩ j') := (((((((h.set 0 (by simp) a').set 1 (by simp) b').set 2 (by simp) c').set 3 (by simp) d').set 4 (by simp) e').set 5 (by simp) i').set 6 (by simp) j')
theorem Fr.seven {P : Nat → Prop} {W Z : World} {q : Nat} {a' b' c' d' e' i' j' : Value} (h : Fr P W Z) (hq : W.heap.size ≤ q) : Fr P W (((((((Z.setCell ⟨q, 0, none⟩ a').setCell ⟨q, 1, none⟩ b').setCell ⟨q, 2, none⟩ c').setCell ⟨q, 3, none⟩ d').setCell ⟨q, 4, none⟩ e').setCell ⟨q, 5, none⟩ i').setCell ⟨q, 6, none⟩ j') := (Fr.setNew (Fr.setNew (Fr.setNew (Fr.setNew (Fr.setNew (Fr.setNew (Fr.setNew h hq a') hq b') hq c') hq d') hq e') hq i') hq j')
theorem LN.seven {W Z : World} {p q : Nat} {N : List Int} {a' b' c' d' e' i' j' : Value} (h : LN W p N Z) (hq : W.heap.size ≤ q) (hp : p ≠ q) : LN W p N (((((((Z.setCell ⟨q, 0, none⟩ a').setCell ⟨q, 1, none⟩ b').setCell ⟨q, 2, none⟩ c').setCell ⟨q, 3, none⟩ d').setCell ⟨q, 4, none⟩ e').setCell ⟨q, 5, none⟩ i').setCell ⟨q, 6, none⟩ j') := (LN.other (LN.other (LN.other (LN.other (LN.other (LN.other (LN.other h a' _ hq hp) b' _ hq hp) c' _ hq hp) d' _ hq hp) e' _ hq hp) i' _ hq hp) j' _ hq hp)
theorem Blk.other_seven {W Z : World} {r q : Nat} {E : List Value} {a' b' c' d' e' i' j' : Value} (h : Blk W r E Z) (hp : r ≠ q) : Blk W r E (((((((Z.setCell ⟨q, 0, none⟩ a').setCell ⟨q, 1, none⟩ b').setCell ⟨q, 2, none⟩ c').setCell ⟨q, 3, none⟩ d').setCell ⟨q, 4, none⟩ e').setCell ⟨q, 5, none⟩ i').setCell ⟨q, 6, none⟩ j') := (Blk.other (Blk.other (Blk.other (Blk.other (Blk.other (Blk.other (Blk.other h hp a') hp b') hp c') hp d') hp e') hp i') hp j')
/-- an edge read out of its block -/
theorem post_seven {fn : Func} {k : Nat} (hr : fn.results = #[ResultVar.cell k 25]) {R : Ending → World → Prop} {a : Act} {W Z : World} {p : Nat} {x0 y0 cx cy x1 y1 : Int} {b : Bool} (hp : a.tmps.getD k undef = .pointer (some ⟨p, 0, none⟩))
    (hB : Blk W p [.int .i64 x0, .int .i64 y0, .bool b, .int .i64 cx, .int .i64 cy, .int .i64 x1, .int .i64 y1] Z) (hd : a.defers = [])
    (hR : R (.returned (.agg #[.int .i64 x0, .int .i64 y0, .bool b, .int .i64 cx, .int .i64 cy, .int .i64 x1, .int .i64 y1])) Z) : bodyPost Try.prog fn R .ret a Z := by
  obtain ⟨c0, c1, c2, c3, c4, c5, c6⟩ := hB.at0
  have hp2 : a.tmps[k]?.getD undef = .pointer (some ⟨p, 0, none⟩) := by rw [← hp]; simp
  exact bodyPost_ret (by simp [results, hr, go_sem, hp2, c0, c1, c2, c3, c4, c5, c6]) hd hR
set_option maxHeartbeats 4000000 in
set_option maxRecDepth 100000 in
theorem edge_any (W Z : World) (p : Nat) (L : List Int) (h : LN W p L Z) :
    Calls Try.prog 14 #[.pointer (some ⟨p, 0, none⟩)] Z fun e Z' => e = .returned (edv (Pl.edge L)) ∧ LN W p (Pl.rest L) Z' ∧ Fr (fun q => q = p) Z Z' := by
  have HLN := Lib.hid h
  have hpz : p < Z.heap.size := by obtain ⟨v, hb, _⟩ := h; exact hb.2.1
  have hWZ : W.heap.size ≤ Z.heap.size := h.fr.2.2.1
  have CC := Lib.hid (fun Z' (i : Nat) (h : LN W p (L.drop i) Z') => coord_any W Z' p (L.drop i) h)
  have CN := Lib.hid (fun Z' (h : LN W p (L.drop 4) Z') => next_any W Z' p (L.drop 4) 4 (by omega) (by omega) h)
  have TL : Hid (∀ i Z', LN W p (L.drop i).tail Z' → LN W p (L.drop (i + 1)) Z') := Lib.hid (fun i Z' h => by rw [List.tail_drop] at h; exact h)
  have HPZ := Lib.hid hpz
  have HWZ := Lib.hid hWZ
  have H0 : Hid (LN W p (L.drop 0) Z) := HLN
  have hbr := Pl.nxt_bd (L.drop 4) 4 (by omega)
  obtain ⟨r, hr⟩ : ∃ r, r = Pl.nxt (L.drop 4) 4 := ⟨_, rfl⟩
  rw [← hr] at CN hbr
  have HE : Hid (Pl.edge L = ⟨Pl.co L 0, Pl.co L 1, decide (0 < r), if 0 < r then Pl.co L 5 else 0, if 0 < r then Pl.co L 6 else 0, Pl.co L 2, Pl.co L 3⟩ ∧ Pl.rest L = if 0 < r then L.drop 7 else L.drop 5) := Lib.hid (by
    unfold Pl.edge Pl.rest Pl.bends
    rw [← hr]
    constructor
    · simp only [decide_eq_true_eq]
    · simp only [decide_eq_true_eq])
  have CO : Hid (∀ i, Pl.nxt (L.drop i) 320 - 32 = Pl.co L i) := Lib.hid (fun i => rfl)
  clear h hpz hWZ HLN hr
  obtain ⟨hb1, hb2⟩ := hbr
  go_enter Try.func14, Try.ntmps14
  go_wp2_with fail
  have RP := Lib.hid (show ¬ Z.heap.size = p by have := HPZ.out; omega)
  have B0 := Lib.hid (Blk.new (W := W) (Z := Z) #[.int .i64 0, .int .i64 0, .bool false, .int .i64 0, .int .i64 0, .int .i64 0, .int .i64 0] 25 HWZ.out)
  have F0 := Lib.hid (Fr.alloc (fun q => q = p) Z (.cells #[.int .i64 0, .int .i64 0, .bool false, .int .i64 0, .int .i64 0, .int .i64 0, .int .i64 0] 25))
  have N0 := Lib.hid (H0.out.alloc #[.int .i64 0, .int .i64 0, .bool false, .int .i64 0, .int .i64 0, .int .i64 0, .int .i64 0] 25)
  have C0 := Lib.hid (CC.out _ 0 N0.out)
  rw [CO.out 0] at C0
  refine (C0.out).mono ?_
  rintro e w1 ⟨rfl, n1, f1⟩
  have N1 := Lib.hid (TL.out 0 _ n1)
  have F1 := Lib.hid (F0.out.trans f1)
  have B1 := Lib.hid (B0.out.fr f1 RP.out)
  clear n1 f1 C0 N0 B0 F0
  go_wp2_with fail
  have C1 := Lib.hid (CC.out _ 1 N1.out)
  rw [CO.out 1] at C1
  refine (C1.out).mono ?_
  rintro e w2 ⟨rfl, n2, f2⟩
  have N2 := Lib.hid (TL.out 1 _ n2)
  have F2 := Lib.hid (F1.out.trans f2)
  have B2 := Lib.hid (B1.out.fr f2 RP.out)
  clear n2 f2 C1 N1 B1 F1
  go_wp2_with fail
  have C2 := Lib.hid (CC.out _ 2 N2.out)
  rw [CO.out 2] at C2
  refine (C2.out).mono ?_
  rintro e w3 ⟨rfl, n3, f3⟩
  have N3 := Lib.hid (TL.out 2 _ n3)
  have F3 := Lib.hid (F2.out.trans f3)
  have B3 := Lib.hid (B2.out.fr f3 RP.out)
  clear n3 f3 C2 N2 B2 F2
  go_wp2_with fail
  have C3 := Lib.hid (CC.out _ 3 N3.out)
  rw [CO.out 3] at C3
  refine (C3.out).mono ?_
  rintro e w4 ⟨rfl, n4, f4⟩
  have N4 := Lib.hid (TL.out 3 _ n4)
  have F4 := Lib.hid (F3.out.trans f4)
  have B4 := Lib.hid (B3.out.fr f4 RP.out)
  clear n4 f4 C3 N3 B3 F3
  go_wp2_with fail
  have HER := Lib.hid (show w4.heap.size ≠ Z.heap.size ∧ ¬ w4.heap.size = p ∧ Z.heap.size ≤ w4.heap.size ∧ W.heap.size ≤ w4.heap.size by
    have h1 := F4.out.2.2.1
    have h2 := HPZ.out
    have h3 := HWZ.out
    have h4 := B4.out.2.1
    omega)
  have D4 := Lib.hid (Blk.new (W := W) (Z := w4) #[.int .i64 (Pl.co L 0), .int .i64 (Pl.co L 1), .bool false, .int .i64 0, .int .i64 0, .int .i64 (Pl.co L 2), .int .i64 (Pl.co L 3)] 25 HER.out.2.2.2)
  have C4 := Lib.hid (CN.out _ (N4.out.alloc #[.int .i64 (Pl.co L 0), .int .i64 (Pl.co L 1), .bool false, .int .i64 0, .int .i64 0, .int .i64 (Pl.co L 2), .int .i64 (Pl.co L 3)] 25))
  have B4' := Lib.hid (B4.out.alloc #[.int .i64 (Pl.co L 0), .int .i64 (Pl.co L 1), .bool false, .int .i64 0, .int .i64 0, .int .i64 (Pl.co L 2), .int .i64 (Pl.co L 3)] 25)
  have F4' := Lib.hid (F4.out.trans (Fr.alloc (fun q => q = p) w4 (.cells #[.int .i64 (Pl.co L 0), .int .i64 (Pl.co L 1), .bool false, .int .i64 0, .int .i64 0, .int .i64 (Pl.co L 2), .int .i64 (Pl.co L 3)] 25)))
  clear N4 B4 F4 CN
  refine (C4.out).mono ?_
  rintro e w5 ⟨rfl, n5, f5⟩
  have N5 := Lib.hid (TL.out 4 _ n5)
  have B5 := Lib.hid (B4'.out.fr f5 RP.out)
  have D5 := Lib.hid (D4.out.fr f5 HER.out.2.1)
  have F5 := Lib.hid (F4'.out.trans f5)
  clear n5 f5 C4 D4 B4' F4'
  by_cases hr0 : 0 < r
  · have HR := Lib.hid hr0
    go_wp2_with fail
    have C5 := Lib.hid (CC.out _ 5 N5.out)
    rw [CO.out 5] at C5
    refine (C5.out).mono ?_
    rintro e w6 ⟨rfl, n6, f6⟩
    have N6 := Lib.hid (TL.out 5 _ n6)
    have F6 := Lib.hid (F5.out.trans f6)
    have B6 := Lib.hid (B5.out.fr f6 RP.out)
    have D6 := Lib.hid (D5.out.fr f6 HER.out.2.1)
    clear n6 f6 C5 N5 B5 D5 F5
    go_wp2_with fail
    have C6 := Lib.hid (CC.out _ 6 N6.out)
    rw [CO.out 6] at C6
    refine (C6.out).mono ?_
    rintro e w7 ⟨rfl, n7, f7⟩
    have N7 := Lib.hid (TL.out 6 _ n7)
    have F7 := Lib.hid (F6.out.trans f7)
    have B7 := Lib.hid (B6.out.fr f7 RP.out)
    have D7 := Lib.hid (D6.out.fr f7 HER.out.2.1)
    clear n7 f7 C6 N6 B6 D6 F6
    
    obtain ⟨d0, d1, d2, d3, d4, d5, d6⟩ := D7.out.at0
    obtain ⟨b0, b1, b2, b3, b4, b5, b6⟩ := B7.out.at0
    have fzD := D7.out.2.2.2
    have fzB := B7.out.2.2.2
    have hne : w4.heap.size ≠ Z.heap.size := HER.out.1
    have hne2 : Z.heap.size ≠ w4.heap.size := fun q => HER.out.1 q.symm
    go_wp2_with fail
    refine post_seven Try.results14 rfl (p := Z.heap.size) (((B7.out.other hne2 _).other hne2 _).other hne2 _).seven rfl ⟨?_, ?_, ?_⟩
    · rw [HE.out.1]
      simp only [edv, if_pos HR.out, decide_eq_true HR.out]
    · rw [HE.out.2, if_pos HR.out]
      exact (((N7.out.other _ 2 HER.out.2.2.2 (fun q => HER.out.2.1 q.symm)).other _ 3 HER.out.2.2.2 (fun q => HER.out.2.1 q.symm)).other _ 4 HER.out.2.2.2 (fun q => HER.out.2.1 q.symm)).seven HWZ.out (fun q => RP.out q.symm)
    · exact (((F7.out.setNew HER.out.2.2.1 _).setNew HER.out.2.2.1 _).setNew HER.out.2.2.1 _).seven (Nat.le_refl _)
  · have HR := Lib.hid (show ¬ 0 < r by omega)
    obtain ⟨d0, d1, d2, d3, d4, d5, d6⟩ := D5.out.at0
    obtain ⟨b0, b1, b2, b3, b4, b5, b6⟩ := B5.out.at0
    have fzD := D5.out.2.2.2
    have fzB := B5.out.2.2.2
    have hne : w4.heap.size ≠ Z.heap.size := HER.out.1
    have hne2 : Z.heap.size ≠ w4.heap.size := fun q => HER.out.1 q.symm
    go_wp2_with fail
    refine post_seven Try.results14 rfl (p := Z.heap.size) B5.out.seven rfl ⟨?_, ?_, ?_⟩
    · rw [HE.out.1]
      simp only [edv, if_neg (show ¬ 0 < r by have := HR.out; omega), decide_eq_false (show ¬ 0 < r by have := HR.out; omega)]
    · rw [HE.out.2, if_neg (show ¬ 0 < r by have := HR.out; omega)]
      exact N5.out.seven HWZ.out (fun q => RP.out q.symm)
    · exact F5.out.seven (Nat.le_refl _)
theorem Pl.edge_bd (L : List Int) : (-32 ≤ (Pl.edge L).x0 ∧ (Pl.edge L).x0 ≤ 287) ∧ (-32 ≤ (Pl.edge L).y0 ∧ (Pl.edge L).y0 ≤ 287) ∧ (-32 ≤ (Pl.edge L).cx ∧ (Pl.edge L).cx ≤ 287) ∧ (-32 ≤ (Pl.edge L).cy ∧ (Pl.edge L).cy ≤ 287) ∧ (-32 ≤ (Pl.edge L).x1 ∧ (Pl.edge L).x1 ≤ 287) ∧ (-32 ≤ (Pl.edge L).y1 ∧ (Pl.edge L).y1 ≤ 287) ∧ ((Pl.edge L).b = true ∨ ((Pl.edge L).cx = 0 ∧ (Pl.edge L).cy = 0)) := by
  have h0 := Pl.co_bd L 0
  have h1 := Pl.co_bd L 1
  have h2 := Pl.co_bd L 2
  have h3 := Pl.co_bd L 3
  have h5 := Pl.co_bd L 5
  have h6 := Pl.co_bd L 6
  unfold Pl.edge
  refine ⟨h0, h1, ?_, ?_, h2, h3, ?_⟩
  · show -32 ≤ (if _ then _ else _) ∧ (if _ then _ else _) ≤ (287 : Int)
    split <;> omega
  · show -32 ≤ (if _ then _ else _) ∧ (if _ then _ else _) ≤ (287 : Int)
    split <;> omega
  · by_cases h : Pl.bends L = true
    · exact .inl h
    · refine .inr ⟨?_, ?_⟩
      · show (if _ then _ else _) = (0 : Int)
        rw [if_neg h]
      · show (if _ then _ else _) = (0 : Int)
        rw [if_neg h]
theorem Pl.edge_may (L : List Int) : (Pl.edge L).may := by
  obtain ⟨a, b, c, d, e, f, g⟩ := Pl.edge_bd L
  unfold Pl.Ed.may Pl.crd
  exact ⟨by omega, by omega, by omega, by omega, by omega, by omega, g⟩
end Go.Proofs.Ytnienpalbfgflaa
