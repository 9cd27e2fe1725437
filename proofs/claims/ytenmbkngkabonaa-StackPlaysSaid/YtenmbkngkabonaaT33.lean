/- The walk of the law StackPlays. -/
import Derived.Test.YtenmbkngkabonaaT32
import Derived.Deep.DeepCutAuto
import Derived.Deep.CutBlock
import Derived.Deep.RegionHeld3
namespace Go.Proofs.Ytenmbkngkabonaa
set_option linter.unusedVariables false
open Go.RowKit

/-- one thing to do: its numbers, its object, its slice -/
abbrev Pl.Do := Int × Int × Int × Pl.Ob × Value
def Pl.dc (d : Pl.Do) : List Value := [.int .i64 d.1, .int .i64 d.2.1, .int .i64 d.2.2.1, .int .i64 d.2.2.2.1.1, .bool d.2.2.2.1.2.1, .int .i64 d.2.2.2.1.2.2.1, .int .i64 d.2.2.2.1.2.2.2.1, .int .i64 d.2.2.2.1.2.2.2.2.1, .string d.2.2.2.1.2.2.2.2.2, d.2.2.2.2]
/-- a slice of them, of the caller's -/
def RowD (W : World) (v : Value) (ds : List Pl.Do) : Prop :=
  ∃ ao cap, v = .slice ao ds.length cap ∧ ds.length ≤ maxLen ∧ (∀ d ∈ ds, (∃ A : List Pl.Ob, RowV W d.2.2.2.2 A ∧ A.length ≤ maxLen) ∧ d.2.2.2.1.2.2.2.2.2.size ≤ maxLen) ∧
    (ds = [] ∨ ∃ g o, ao = some ⟨g, o, none⟩ ∧ g < W.heap.size ∧ ∀ i d, ds[i]? = some d → ∀ j u, (Pl.dc d)[j]? = some u → W.cell? ⟨g, o + i * 10 + j, none⟩ = some u)
theorem RowV.kept {W W' : World} {v : Value} {L : List Pl.Ob} (h : RowV W v L) (k : Kept W W') : RowV W' v L := by
  obtain ⟨ao, cap, rfl, h⟩ := h
  refine ⟨ao, cap, rfl, ?_⟩
  rcases h with h | ⟨g, o, rfl, hg, h⟩
  · exact .inl h
  · exact .inr ⟨g, o, rfl, Nat.lt_of_lt_of_le hg k.2.2, fun j u hu => (k.1.cell hg (fun q => q)).trans (h j u hu)⟩

theorem Two.put6 {W0 : World} {Pr : Nat → Prop} {p q : Nat} {L M : List Pl.Ob} {W : World} (h : Two W0 Pr p L q M W) (b : Nat) (k : Int) (x : Bool) (n a l : Int) (s : ByteArray) (hb : Pr b) (hw : W0.heap.size ≤ b) : Two W0 Pr p L q M ((((((W.setCell ⟨b, 0, none⟩ (.int .i64 k)).setCell ⟨b, 1, none⟩ (.bool x)).setCell ⟨b, 2, none⟩ (.int .i64 n)).setCell ⟨b, 3, none⟩ (.int .i64 a)).setCell ⟨b, 4, none⟩ (.int .i64 l)).setCell ⟨b, 5, none⟩ (.string s)) :=
  (((((h.store b 0 _ hb hw).store b 1 _ hb hw).store b 2 _ hb hw).store b 3 _ hb hw).store b 4 _ hb hw).store b 5 _ hb hw
theorem Fr.put6 (W : World) (b : Nat) (k : Int) (x : Bool) (n a l : Int) (s : ByteArray) : Fr (fun c => c = b) W ((((((W.setCell ⟨b, 0, none⟩ (.int .i64 k)).setCell ⟨b, 1, none⟩ (.bool x)).setCell ⟨b, 2, none⟩ (.int .i64 n)).setCell ⟨b, 3, none⟩ (.int .i64 a)).setCell ⟨b, 4, none⟩ (.int .i64 l)).setCell ⟨b, 5, none⟩ (.string s)) :=
  (((((Fr.setCell (fun c => c = b) W ⟨b, 0, none⟩ _ rfl).trans (Fr.setCell _ _ ⟨b, 1, none⟩ _ rfl)).trans (Fr.setCell _ _ ⟨b, 2, none⟩ _ rfl)).trans (Fr.setCell _ _ ⟨b, 3, none⟩ _ rfl)).trans (Fr.setCell _ _ ⟨b, 4, none⟩ _ rfl)).trans (Fr.setCell _ _ ⟨b, 5, none⟩ _ rfl)
theorem ObC.some {b : Nat} {k : Int} {x : Bool} {n a l : Int} {s : ByteArray} {W : World} (h : ObC b k x n a l s W) : ∀ o, o < 6 → (W.cell? ⟨b, o, none⟩).isSome = true := by
  intro o ho
  rcases (show o = 0 ∨ o = 1 ∨ o = 2 ∨ o = 3 ∨ o = 4 ∨ o = 5 by omega) with rfl | rfl | rfl | rfl | rfl | rfl
  · rw [h.1]; rfl
  · rw [h.2.1]; rfl
  · rw [h.2.2.1]; rfl
  · rw [h.2.2.2.1]; rfl
  · rw [h.2.2.2.2.1]; rfl
  · rw [h.2.2.2.2.2]; rfl
theorem ObC.far {P : Nat → Prop} {W W' : World} {b : Nat} {k : Int} {x : Bool} {n a l : Int} {s : ByteArray} (h : ObC b k x n a l s W) (hg : Fr P W W') (hb : ¬ P b) : ObC b k x n a l s W' := by
  have hl : b < W.heap.size := block_lt_of_cell h.1
  have e : ∀ o, W'.cell? ⟨b, o, none⟩ = W.cell? ⟨b, o, none⟩ := fun o => hg.cell (a := ⟨b, o, none⟩) hl hb
  exact ⟨(e 0).trans h.1, (e 1).trans h.2.1, (e 2).trans h.2.2.1, (e 3).trans h.2.2.2.1, (e 4).trans h.2.2.2.2.1, (e 5).trans h.2.2.2.2.2⟩

set_option maxHeartbeats 8000000 in
set_option maxRecDepth 100000 in
theorem walk_StackPlays (v : Value) (ds : List Pl.Do) (at_ : Int) (W : World) (hat : -9223372036854775808 ≤ at_ ∧ at_ ≤ 9223372036854775807) (hR : RowD W v ds) :
    Calls Try.prog 14 #[v, .int .i64 at_] W fun e w' => e = .returned (.bool true) ∧ Kept W w' := by
  obtain ⟨ao, cap, rfl, hmx, hds, hcells⟩ := hR
  obtain ⟨n, hn⟩ : ∃ n, n = ds.length := ⟨_, rfl⟩
  rw [← hn] at hmx
  rw [← hn]
  have hmx2 : (n : Int) ≤ 9223372036854775807 := by unfold maxLen at hmx; omega
  have HN := Lib.hid hn
  have HC := Lib.hid hcells
  have HDS := Lib.hid hds
  obtain ⟨hat0, hat1⟩ := hat
  have CK := Lib.hid (known14_ex W)
  clear hn hcells hmx hds
  by_cases hbig : 60 < n
  · have hbig' : (60 : Int) < (n : Int) := by omega
    clear hbig
    go_enter Try.func14, Try.ntmps14
    go_wp2_with fail
    refine CK.out.mono ?_
    rintro e w1 ⟨rfl, k1⟩
    go_wp2_with fail
    go_ret
    exact ⟨rfl, k1⟩
  have hsm : (n : Int) ≤ 60 := by omega
  clear hbig
  go_enter Try.func14, Try.ntmps14
  go_wp2_with fail
  refine CK.out.mono ?_
  rintro e w1 ⟨rfl, k1⟩
  have C1 := Lib.hid (stk_new W (fun _ => False) w1 k1 (fun c q => q.elim))
  clear k1 CK
  go_wp2_with fail
  refine C1.out.mono ?_
  rintro e w2 ⟨rfl, s2, -⟩
  have T0 := Lib.hid (two_new s2)
  clear s2 C1
  go_wp2_with fail
  obtain ⟨ps, hps⟩ : ∃ ps, ps = w1.heap.size := ⟨_, rfl⟩
  obtain ⟨pw, hpw⟩ : ∃ pw, pw = w2.heap.size := ⟨_, rfl⟩
  rw [← hps, ← hpw] at T0 ⊢
  clear hps hpw
  go_loopw [31] (fun i wr => ∃ (c : Nat) (L : List Pl.Ob), i = .int .i64 (c : Int) ∧ c ≤ n ∧ L.length ≤ 200 ∧ Hid (Two W (fun _ => False) ps L pw L wr)) (fun i _ => ((n : Int) - intOf i).toNat)
  case atStart => exact ⟨0, [], rfl, by omega, by simp, T0⟩
  case round =>
    obtain ⟨c, L, rfl, hcn, hL, TR⟩ := hrel
    rcases Nat.lt_or_eq_of_le hcn with hlt | rfl
    · obtain ⟨⟨wh, dn, dm, ⟨k, x, nn, a, l, s⟩, vL⟩, hd⟩ : ∃ d, ds[c]? = some d := ⟨_, List.getElem?_eq_getElem (by have := HN.out; omega)⟩
      obtain ⟨g, o, rfl, hg, hcell⟩ : ∃ g o, ao = some ⟨g, o, none⟩ ∧ g < W.heap.size ∧ ∀ i d, ds[i]? = some d → ∀ j u, (Pl.dc d)[j]? = some u → W.cell? ⟨g, o + i * 10 + j, none⟩ = some u := by
        rcases HC.out with h | h
        · rw [h] at hd; simp at hd
        · exact h
      obtain ⟨⟨A, hA, hAm⟩, hsm1⟩ := HDS.out _ (List.mem_of_getElem? hd)
      obtain ⟨aoL, capL, hvL, -⟩ := id hA
      simp only at hvL hAm hsm1
      subst hvL
      obtain ⟨mA, hmA⟩ : ∃ mA, mA = A.length := ⟨_, rfl⟩
      rw [← hmA] at hAm hd hA
      have hk := TR.out.keptw
      have e0 : ∀ j u, (Pl.dc (wh, dn, dm, (k, x, nn, a, l, s), .slice aoL mA capL))[j]? = some u → wr.cell? ⟨g, o + c * 10 + j, none⟩ = some u := fun j u hu => (hk.1.cell hg (fun q => q)).trans (hcell c _ hd j u hu)
      have d0 := e0 0 _ rfl
      have d1 := e0 1 _ rfl
      have d2 := e0 2 _ rfl
      have d3 := e0 3 _ rfl
      have d4 := e0 4 _ rfl
      have d5 := e0 5 _ rfl
      have d6 := e0 6 _ rfl
      have d7 := e0 7 _ rfl
      have d8 := e0 8 _ rfl
      have d9 := e0 9 _ rfl
      have HA := Lib.hid (hA.kept hk)
      have HMA := Lib.hid hmA
      have hlt' : (c : Int) < (n : Int) := by omega
      have hs1 : (s.size : Int) ≤ 9223372036854775807 := by simp only [maxLen] at hsm1; omega
      have hs2 : (mA : Int) ≤ 9223372036854775807 := by simp only [maxLen] at hAm; omega
      rw [Nat.add_zero] at d0
      clear e0 hcell hd hmA HC HDS hsm1 hAm hk
      by_cases hbS : 200 < s.size
      · have hbS' : (200 : Int) < (s.size : Int) := by omega
        go_wp2_with fail
        go_ret
        exact ⟨rfl, TR.out.keptw.trans (Kept.of_grown ((Grown.refl wr).alloc _ _))⟩
      by_cases hbA : 300 < mA
      · have hbS' : (s.size : Int) ≤ 200 := by omega
        have hbA' : (300 : Int) < (mA : Int) := by omega
        go_wp2_with fail
        go_ret
        exact ⟨rfl, TR.out.keptw.trans (Kept.of_grown ((Grown.refl wr).alloc _ _))⟩
      have hbS' : (s.size : Int) ≤ 200 := by omega
      have hbA' : (mA : Int) ≤ 300 := by omega
      clear hbS hbA
      go_upto_block 2 with fail
      obtain ⟨b, hb⟩ : ∃ b, b = wr.heap.size := ⟨_, rfl⟩
      obtain ⟨W3, hW3⟩ : ∃ Z, Z = (((wr.alloc (.cells #[.int .i64 wh, .int .i64 dn, .int .i64 dm, .int .i64 k, .bool x, .int .i64 nn, .int .i64 a, .int .i64 l, .string s, .slice aoL mA capL] 73)).alloc (.cells #[.int .i64 0, .bool false, .int .i64 0, .int .i64 0, .int .i64 0, .string ⟨#[]⟩] 38)).alloc (.cells #[.int .i64 0, .bool false, .int .i64 0, .int .i64 0, .int .i64 0, .string ⟨#[]⟩] 38)) := ⟨_, rfl⟩
      rw [← hW3, ← hb]
      have B8 : Hid (W3.cell? ⟨b, 0, none⟩ = some (.int .i64 wh) ∧ W3.cell? ⟨b, 1, none⟩ = some (.int .i64 dn) ∧ W3.cell? ⟨b, 2, none⟩ = some (.int .i64 dm) ∧ W3.cell? ⟨b, 3, none⟩ = some (.int .i64 k) ∧ W3.cell? ⟨b, 4, none⟩ = some (.bool x) ∧ W3.cell? ⟨b, 5, none⟩ = some (.int .i64 nn) ∧ W3.cell? ⟨b, 6, none⟩ = some (.int .i64 a) ∧ W3.cell? ⟨b, 7, none⟩ = some (.int .i64 l) ∧ W3.cell? ⟨b, 8, none⟩ = some (.string s) ∧ W3.cell? ⟨b, 9, none⟩ = some (.slice aoL mA capL)) := Lib.hid (by
        rw [hW3, hb]
        refine ⟨?_, ?_, ?_, ?_, ?_, ?_, ?_, ?_, ?_, ?_⟩ <;> simp [go_sem])
      have B11 : Hid (ObC (b + 1) 0 false 0 0 0 ⟨#[]⟩ W3) := Lib.hid (by
        rw [hW3, hb]
        refine ⟨?_, ?_, ?_, ?_, ?_, ?_⟩ <;> simp [go_sem])
      have B12 : Hid (ObC (b + 1 + 1) 0 false 0 0 0 ⟨#[]⟩ W3) := Lib.hid (by
        rw [hW3, hb]
        refine ⟨?_, ?_, ?_, ?_, ?_, ?_⟩ <;> simp [go_sem])
      have gW3 : Grown wr W3 := by
        rw [hW3]
        exact (((Grown.refl wr).alloc _ _).alloc _ _).alloc _ _
      have T3 : Hid (Two W (fun c => b ≤ c ∧ c < b + 3) ps L pw L W3) := Lib.hid (by
        rw [hW3]
        refine (((TR.out.box _).box _).box _).forget (fun c hc => ?_)
        simp
        omega)
      have F11 : Hid (∀ o, W3.frozen? ⟨b + 1, o, none⟩ = false) := Lib.hid (by
        intro o
        rw [hW3, hb, frozen?_alloc_cells, frozen?_alloc_cells, frozen?_alloc_cells]
        simp [World.frozen?])
      have F12 : Hid (∀ o, W3.frozen? ⟨b + 1 + 1, o, none⟩ = false) := Lib.hid (by
        intro o
        have hnone : wr.heap[wr.heap.size + 1 + 1]? = none := Array.getElem?_eq_none (by omega)
        rw [hW3, hb, frozen?_alloc_cells, frozen?_alloc_cells, frozen?_alloc_cells]
        simp [World.frozen?, hnone])
      have HA3 := Lib.hid (HA.out.grown gW3)
      have HAW := Lib.hid hA
      have hbW : W.heap.size ≤ b := by rw [hb]; exact TR.out.keptw.2.2
      clear hW3 hb gW3 HA TR d0 d1 d2 d3 d4 d5 d6 d7 d8 d9 hA
      go_cut [9, 10] (fun s9 s10 wx => ∃ (L' : List Pl.Ob) (er : Int) (X : Pl.Ob), s9 = .int .i64 er ∧ s10 = .int .i64 er ∧ L'.length ≤ 200 ∧ Hid (Two W (fun c => b ≤ c ∧ c < b + 3) ps L' pw L' wx) ∧ Hid (ObC (b + 1) X.1 X.2.1 X.2.2.1 X.2.2.2.1 X.2.2.2.2.1 X.2.2.2.2.2 wx) ∧ Hid (ObC (b + 1 + 1) X.1 X.2.1 X.2.2.1 X.2.2.2.1 X.2.2.2.2.1 X.2.2.2.2.2 wx))
      case first =>
        by_cases h0 : wh = 0
        · subst h0
          clear HA3 F11 F12
          go_wp2_with fail
          obtain ⟨Q1, hs1, hQ1, hb1⟩ := (T3.out.fresh (Fr.drew (Fr.refl _ W3))).left
          have HB1 := Lib.hid hb1
          have CP1 := Lib.hid (push_all W Q1 ps L W3.drew hL hs1 (k, x, nn, a, l, s))
          have HK : Hid (∀ Z, FrS W (fun c => b ≤ c ∧ c < b + 3) W3 Z → Z.cell? ⟨b, 3, none⟩ = some (.int .i64 k) ∧ Z.cell? ⟨b, 4, none⟩ = some (.bool x) ∧ Z.cell? ⟨b, 5, none⟩ = some (.int .i64 nn) ∧ Z.cell? ⟨b, 6, none⟩ = some (.int .i64 a) ∧ Z.cell? ⟨b, 7, none⟩ = some (.int .i64 l) ∧ Z.cell? ⟨b, 8, none⟩ = some (.string s) ∧ FrS W (fun c => b ≤ c ∧ c < b + 3) W3 Z) := Lib.hid (fun Z hZ => by
            obtain ⟨x0, x1, x2, x3, x4, x5, x6, x7, x8, x9⟩ := B8.out
            have e : ∀ (o : Nat) (u : Value), W3.cell? ⟨b, o, none⟩ = some u → Z.cell? ⟨b, o, none⟩ = some u := fun o u h => (hZ.cell (a := ⟨b, o, none⟩) (block_lt_of_cell h) (fun q => q.1 (show b ≤ b ∧ b < b + 3 from ⟨Nat.le_refl _, by omega⟩))).trans h
            exact ⟨e _ _ x3, e _ _ x4, e _ _ x5, e _ _ x6, e _ _ x7, e _ _ x8, hZ⟩)
          have S0 := HK.out W3.drew (Fr.drew (Fr.refl _ W3))
          clear hs1 hb1 hQ1
          go_region_held3 (fun Z => Z.cell? ⟨b, 3, none⟩ = some (.int .i64 k) ∧ Z.cell? ⟨b, 4, none⟩ = some (.bool x) ∧ Z.cell? ⟨b, 5, none⟩ = some (.int .i64 nn) ∧ Z.cell? ⟨b, 6, none⟩ = some (.int .i64 a) ∧ Z.cell? ⟨b, 7, none⟩ = some (.int .i64 l) ∧ Z.cell? ⟨b, 8, none⟩ = some (.string s) ∧ FrS W (fun c => b ≤ c ∧ c < b + 3) W3 Z)
            (first | assumption)
            (first | (go_at_call 38; with_reducible refine CP1.out.mono ?_; rintro e w4 ⟨rfl, s4, f4⟩; have TF4 := Lib.hid (And.intro (HB1.out _ _ s4 f4).1 ((Fr.drew (Fr.refl _ W3)).trans (HB1.out _ _ s4 f4).2)); have S4 := HK.out w4 TF4.out.2; clear s4 f4) | (go_at_call 50; obtain ⟨Q2, hs2, hQ2, hb2⟩ := TF4.out.1.swap.left; with_reducible refine (rpush_all W Q2 pw L _ hL hs2 (k, x, nn, a, l, s)).mono ?_; rintro e w5 ⟨rfl, s5, f5⟩; have TF5 := Lib.hid (hb2 _ _ s5 f5); have S5 := HK.out w5 (TF4.out.2.trans TF5.out.2); clear s5 f5 hs2 hQ2 hb2))
          all_goals
            go_wp2_with fail
            go_meet
            case rel => exact ⟨(Pl.pushR L (k, x, nn, a, l, s)).2, (Pl.pushR L (k, x, nn, a, l, s)).1, Pl.zer, rfl, rfl, Pl.pushR_len _ _ hL, Lib.hid TF5.out.1.swap, Lib.hid (B11.out.fr (TF4.out.2.trans TF5.out.2) ⟨by omega, by omega⟩), Lib.hid (B12.out.fr (TF4.out.2.trans TF5.out.2) ⟨by omega, by omega⟩)⟩
        by_cases h1 : wh = 1
        · subst h1
          clear HA3
          obtain ⟨Q1, hs1, hQ1, hb1⟩ := T3.out.left
          have C4 := Lib.hid (pop_all W Q1 ps L W3 hL hs1)
          have HB1 := Lib.hid hb1
          obtain ⟨⟨xk, xx, xn, xa, xl, xs⟩, hX⟩ : ∃ P, P = (Pl.popR L).1 := ⟨_, rfl⟩
          rw [← hX] at C4
          have HX := Lib.hid hX
          clear hs1 hb1 hQ1 hX
          go_wp2_with fail
          refine C4.out.mono ?_
          rintro e w4 ⟨rfl, s4, f4⟩
          have TF4 := Lib.hid (HB1.out _ _ s4 f4)
          have Y11 := Lib.hid (B11.out.fr TF4.out.2 ⟨by omega, by omega⟩)
          have Y12 := Lib.hid (B12.out.fr TF4.out.2 ⟨by omega, by omega⟩)
          have hz11 : ∀ o, w4.frozen? ⟨b + 1, o, none⟩ = false := fun o => (TF4.out.2.frozen (a := ⟨b + 1, o, none⟩) (show b + 1 < W3.heap.size from block_lt_of_cell B11.out.1) (fun q => q.1 (show b ≤ b + 1 ∧ b + 1 < b + 3 by omega))).trans (F11.out o)
          have hz12 : Hid (∀ o, w4.frozen? ⟨b + 1 + 1, o, none⟩ = false) := Lib.hid (fun o => (TF4.out.2.frozen (a := ⟨b + 1 + 1, o, none⟩) (show b + 1 + 1 < W3.heap.size from block_lt_of_cell B12.out.1) (fun q => q.1 (show b ≤ b + 1 + 1 ∧ b + 1 + 1 < b + 3 by omega))).trans (F12.out o))
          obtain ⟨y0, y1, y2, y3, y4, y5⟩ := id Y11.out
          have T5 := Lib.hid (TF4.out.1.put6 (b + 1) xk xx xn xa xl xs ⟨by omega, by omega⟩ (by omega))
          have hF5 := Fr.put6 w4 (b + 1) xk xx xn xa xl xs
          have HF5 := Lib.hid hF5
          have Z11 : Hid (ObC (b + 1) xk xx xn xa xl xs ((((((w4.setCell ⟨b + 1, 0, none⟩ (.int .i64 xk)).setCell ⟨b + 1, 1, none⟩ (.bool xx)).setCell ⟨b + 1, 2, none⟩ (.int .i64 xn)).setCell ⟨b + 1, 3, none⟩ (.int .i64 xa)).setCell ⟨b + 1, 4, none⟩ (.int .i64 xl)).setCell ⟨b + 1, 5, none⟩ (.string xs))) := Lib.hid (obs_set w4 (b + 1) Y11.out.some xk xx xn xa xl xs _ rfl)
          have Z12 := Lib.hid (Y12.out.far hF5 (by omega))
          obtain ⟨Q2, hs2, hQ2, hb2⟩ := T5.out.swap.left
          have C5 := Lib.hid (rpop_all W Q2 pw L _ hL hs2)
          rw [← HX.out] at C5
          have HB2 := Lib.hid hb2
          clear hs2 hb2 hQ2 hF5 s4 f4 C4 HB1 Y12
          go_wp2_with fail
          refine C5.out.mono ?_
          rintro e w5 ⟨rfl, s5, f5⟩
          have TF5 := Lib.hid (HB2.out _ _ s5 f5)
          have V11 := Lib.hid (Z11.out.fr TF5.out.2 ⟨by omega, by omega⟩)
          have V12 := Lib.hid (Z12.out.fr TF5.out.2 ⟨by omega, by omega⟩)
          have hz5 : ∀ o, w5.frozen? ⟨b + 1 + 1, o, none⟩ = false := fun o => (TF5.out.2.frozen (a := ⟨b + 1 + 1, o, none⟩) (show b + 1 + 1 < _ from block_lt_of_cell Z12.out.1) (fun q => q.1 (show b ≤ b + 1 + 1 ∧ b + 1 + 1 < b + 3 by omega))).trans ((HF5.out.frozen (a := ⟨b + 1 + 1, o, none⟩) (show b + 1 + 1 < w4.heap.size from block_lt_of_cell (B12.out.fr TF4.out.2 ⟨by omega, by omega⟩).1) (show ¬ b + 1 + 1 = b + 1 by omega)).trans (hz12.out o))
          obtain ⟨v0, v1, v2, v3, v4, v5⟩ := id V12.out
          have T6 := Lib.hid (TF5.out.1.swap.put6 (b + 1 + 1) xk xx xn xa xl xs ⟨by omega, by omega⟩ (by omega))
          have U11 := Lib.hid (V11.out.far (Fr.put6 w5 (b + 1 + 1) xk xx xn xa xl xs) (by omega))
          have U12 : Hid (ObC (b + 1 + 1) xk xx xn xa xl xs ((((((w5.setCell ⟨b + 1 + 1, 0, none⟩ (.int .i64 xk)).setCell ⟨b + 1 + 1, 1, none⟩ (.bool xx)).setCell ⟨b + 1 + 1, 2, none⟩ (.int .i64 xn)).setCell ⟨b + 1 + 1, 3, none⟩ (.int .i64 xa)).setCell ⟨b + 1 + 1, 4, none⟩ (.int .i64 xl)).setCell ⟨b + 1 + 1, 5, none⟩ (.string xs))) := Lib.hid (obs_set w5 (b + 1 + 1) V12.out.some xk xx xn xa xl xs _ rfl)
          clear s5 f5 C5 HB2 Z11 Z12 V11 y0 y1 y2 y3 y4 y5 hz11
          go_wp2_with fail
          go_meet
          case rel => exact ⟨(Pl.popR L).2.2, (Pl.popR L).2.1, (xk, xx, xn, xa, xl, xs), rfl, rfl, Pl.popR_len _ hL, T6, U11, U12⟩
        by_cases h2 : wh = 2
        · subst h2
          clear HA3 F11 F12
          go_wp2_with fail
          obtain ⟨Q1, hs1, hQ1, hb1⟩ := (T3.out.fresh (Fr.drew (Fr.refl _ W3))).left
          have HB1 := Lib.hid hb1
          have CP1 := Lib.hid (dup_all W Q1 ps L W3.drew hL hs1 dn)
          have HK : Hid (∀ Z, FrS W (fun c => b ≤ c ∧ c < b + 3) W3 Z → Z.cell? ⟨b, 1, none⟩ = some (.int .i64 dn) ∧ FrS W (fun c => b ≤ c ∧ c < b + 3) W3 Z) := Lib.hid (fun Z hZ => by
            obtain ⟨x0, x1, x2, x3, x4, x5, x6, x7, x8, x9⟩ := B8.out
            have e : ∀ (o : Nat) (u : Value), W3.cell? ⟨b, o, none⟩ = some u → Z.cell? ⟨b, o, none⟩ = some u := fun o u h => (hZ.cell (a := ⟨b, o, none⟩) (block_lt_of_cell h) (fun q => q.1 (show b ≤ b ∧ b < b + 3 from ⟨Nat.le_refl _, by omega⟩))).trans h
            exact ⟨e _ _ x1, hZ⟩)
          have S0 := HK.out W3.drew (Fr.drew (Fr.refl _ W3))
          clear hs1 hb1 hQ1
          go_region_held3 (fun Z => Z.cell? ⟨b, 1, none⟩ = some (.int .i64 dn) ∧ FrS W (fun c => b ≤ c ∧ c < b + 3) W3 Z)
            (first | assumption)
            (first | (go_at_call 42; with_reducible refine CP1.out.mono ?_; rintro e w4 ⟨rfl, s4, f4⟩; have TF4 := Lib.hid (And.intro (HB1.out _ _ s4 f4).1 ((Fr.drew (Fr.refl _ W3)).trans (HB1.out _ _ s4 f4).2)); have S4 := HK.out w4 TF4.out.2; clear s4 f4) | (go_at_call 52; obtain ⟨Q2, hs2, hQ2, hb2⟩ := TF4.out.1.swap.left; with_reducible refine (rdup_all W Q2 pw L _ hL hs2 dn).mono ?_; rintro e w5 ⟨rfl, s5, f5⟩; have TF5 := Lib.hid (hb2 _ _ s5 f5); have S5 := HK.out w5 (TF4.out.2.trans TF5.out.2); clear s5 f5 hs2 hQ2 hb2))
          all_goals
            go_wp2_with fail
            go_meet
            case rel => exact ⟨(Pl.dupR L dn).2, (Pl.dupR L dn).1, Pl.zer, rfl, rfl, Pl.dupR_len _ _ hL, Lib.hid TF5.out.1.swap, Lib.hid (B11.out.fr (TF4.out.2.trans TF5.out.2) ⟨by omega, by omega⟩), Lib.hid (B12.out.fr (TF4.out.2.trans TF5.out.2) ⟨by omega, by omega⟩)⟩
        by_cases h3 : wh = 3
        · subst h3
          clear HA3 F11 F12
          go_wp2_with fail
          obtain ⟨Q1, hs1, hQ1, hb1⟩ := (T3.out.fresh (Fr.drew (Fr.refl _ W3))).left
          have HB1 := Lib.hid hb1
          have CP1 := Lib.hid (roll_all W Q1 ps L W3.drew hL hs1 dn dm)
          have HK : Hid (∀ Z, FrS W (fun c => b ≤ c ∧ c < b + 3) W3 Z → Z.cell? ⟨b, 1, none⟩ = some (.int .i64 dn) ∧ Z.cell? ⟨b, 2, none⟩ = some (.int .i64 dm) ∧ FrS W (fun c => b ≤ c ∧ c < b + 3) W3 Z) := Lib.hid (fun Z hZ => by
            obtain ⟨x0, x1, x2, x3, x4, x5, x6, x7, x8, x9⟩ := B8.out
            have e : ∀ (o : Nat) (u : Value), W3.cell? ⟨b, o, none⟩ = some u → Z.cell? ⟨b, o, none⟩ = some u := fun o u h => (hZ.cell (a := ⟨b, o, none⟩) (block_lt_of_cell h) (fun q => q.1 (show b ≤ b ∧ b < b + 3 from ⟨Nat.le_refl _, by omega⟩))).trans h
            exact ⟨e _ _ x1, e _ _ x2, hZ⟩)
          have S0 := HK.out W3.drew (Fr.drew (Fr.refl _ W3))
          clear hs1 hb1 hQ1
          go_region_held3 (fun Z => Z.cell? ⟨b, 1, none⟩ = some (.int .i64 dn) ∧ Z.cell? ⟨b, 2, none⟩ = some (.int .i64 dm) ∧ FrS W (fun c => b ≤ c ∧ c < b + 3) W3 Z)
            (first | assumption)
            (first | (go_at_call 27; with_reducible refine CP1.out.mono ?_; rintro e w4 ⟨rfl, s4, f4⟩; have TF4 := Lib.hid (And.intro (HB1.out _ _ s4 f4).1 ((Fr.drew (Fr.refl _ W3)).trans (HB1.out _ _ s4 f4).2)); have S4 := HK.out w4 TF4.out.2; clear s4 f4) | (go_at_call 53; obtain ⟨Q2, hs2, hQ2, hb2⟩ := TF4.out.1.swap.left; with_reducible refine (rroll_all W Q2 pw L _ hL hs2 dn dm).mono ?_; rintro e w5 ⟨rfl, s5, f5⟩; have TF5 := Lib.hid (hb2 _ _ s5 f5); have S5 := HK.out w5 (TF4.out.2.trans TF5.out.2); clear s5 f5 hs2 hQ2 hb2))
          all_goals
            go_wp2_with fail
            go_meet
            case rel => exact ⟨(Pl.rollR L dn dm).2, (Pl.rollR L dn dm).1, Pl.zer, rfl, rfl, Pl.rollR_len _ _ _ hL, Lib.hid TF5.out.1.swap, Lib.hid (B11.out.fr (TF4.out.2.trans TF5.out.2) ⟨by omega, by omega⟩), Lib.hid (B12.out.fr (TF4.out.2.trans TF5.out.2) ⟨by omega, by omega⟩)⟩
        by_cases h4 : wh = 4
        · subst h4
          clear HA3 F11 F12
          obtain ⟨Q1, hs1, hQ1, hb1⟩ := T3.out.left
          have C4 := Lib.hid (stk_clear W Q1 ps L W3 hs1)
          have HB1 := Lib.hid hb1
          clear hs1 hb1 hQ1
          go_wp2_with fail
          refine C4.out.mono ?_
          rintro e w4 ⟨rfl, s4, f4⟩
          have TF4 := Lib.hid (HB1.out _ _ s4 f4)
          obtain ⟨aw, capw, cpw, fpw, -, -⟩ := TF4.out.1.row
          clear s4 f4 C4 HB1
          have TC5 := Lib.hid TF4.out.1.clear
          go_wp2_with fail
          go_meet
          case rel => exact ⟨[], 0, Pl.zer, rfl, rfl, by simp, Lib.hid TC5.out.1, Lib.hid (B11.out.fr (TF4.out.2.trans TC5.out.2) ⟨by omega, by omega⟩), Lib.hid (B12.out.fr (TF4.out.2.trans TC5.out.2) ⟨by omega, by omega⟩)⟩
        have g0 : (wh == 0) = false := beq_eq_false_iff_ne.2 h0
        have g1 : (wh == 1) = false := beq_eq_false_iff_ne.2 h1
        have g2 : (wh == 2) = false := beq_eq_false_iff_ne.2 h2
        have g3 : (wh == 3) = false := beq_eq_false_iff_ne.2 h3
        have g4 : (wh == 4) = false := beq_eq_false_iff_ne.2 h4
        clear F11 F12 h0 h1 h2 h3 h4
        go_wp2_with fail
        have HROW : Hid (∀ Z, FrS W (fun c => b ≤ c ∧ c < b + 3) W3 Z → RowV Z (.slice aoL mA capL) A) := Lib.hid (fun Z hZ => HAW.out.kept (T3.out.keptw.fr hZ (fun c q => q.2)))
        obtain ⟨Q1, hs1, hQ1, hb1⟩ := (T3.out.fresh (Fr.drew (Fr.refl _ W3))).left
        have HB1 := Lib.hid hb1
        have CP1 := Lib.hid (become_all W Q1 ps L W3.drew hL hs1 (.slice aoL mA capL) A (HA3.out.grown (Grown.refl W3).drew) (by have := HMA.out; omega))
        have HK : Hid (∀ Z, FrS W (fun c => b ≤ c ∧ c < b + 3) W3 Z → Z.cell? ⟨b, 9, none⟩ = some (.slice aoL mA capL) ∧ FrS W (fun c => b ≤ c ∧ c < b + 3) W3 Z) := Lib.hid (fun Z hZ => by
          obtain ⟨x0, x1, x2, x3, x4, x5, x6, x7, x8, x9⟩ := B8.out
          have e : ∀ (o : Nat) (u : Value), W3.cell? ⟨b, o, none⟩ = some u → Z.cell? ⟨b, o, none⟩ = some u := fun o u h => (hZ.cell (a := ⟨b, o, none⟩) (block_lt_of_cell h) (fun q => q.1 (show b ≤ b ∧ b < b + 3 from ⟨Nat.le_refl _, by omega⟩))).trans h
          exact ⟨e _ _ x9, hZ⟩)
        have S0 := HK.out W3.drew (Fr.drew (Fr.refl _ W3))
        clear hs1 hb1 hQ1
        go_region_held3 (fun Z => Z.cell? ⟨b, 9, none⟩ = some (.slice aoL mA capL) ∧ FrS W (fun c => b ≤ c ∧ c < b + 3) W3 Z)
          (first | assumption)
          (first | (go_at_call 43; with_reducible refine CP1.out.mono ?_; rintro e w4 ⟨rfl, s4, f4⟩; have TF4 := Lib.hid (And.intro (HB1.out _ _ s4 f4).1 ((Fr.drew (Fr.refl _ W3)).trans (HB1.out _ _ s4 f4).2)); have S4 := HK.out w4 TF4.out.2; clear s4 f4) | (go_at_call 55; obtain ⟨Q2, hs2, hQ2, hb2⟩ := TF4.out.1.swap.left; with_reducible refine (rbecome_all W Q2 pw L _ hL hs2 (.slice aoL mA capL) A (HROW.out _ TF4.out.2) (by have := HMA.out; omega)).mono ?_; rintro e w5 ⟨rfl, s5, f5⟩; have TF5 := Lib.hid (hb2 _ _ s5 f5); have S5 := HK.out w5 (TF4.out.2.trans TF5.out.2); clear s5 f5 hs2 hQ2 hb2))
        all_goals
          go_wp2_with fail
          go_meet
          case rel => exact ⟨(Pl.becomeR L A).2, (Pl.becomeR L A).1, Pl.zer, rfl, rfl, Pl.becomeR_len _ _ hL, Lib.hid TF5.out.1.swap, Lib.hid (B11.out.fr (TF4.out.2.trans TF5.out.2) ⟨by omega, by omega⟩), Lib.hid (B12.out.fr (TF4.out.2.trans TF5.out.2) ⟨by omega, by omega⟩)⟩
      case rest =>
        obtain ⟨L', er, ⟨xk, xx, xn, xa, xl, xs⟩, rfl, rfl, hL', TC, X11, X12⟩ := hcut
        clear B8 B11 B12 T3 F11 F12 HA3 HAW
        obtain ⟨Q1, hs1, hQ1, hb1⟩ := TC.out.left
        have C4 := Lib.hid (peek_all W Q1 ps L' wc hL' hs1 at_)
        clear hs1 hQ1 hb1
        obtain ⟨⟨pk, px, pn, pa, pl, pss⟩, hP⟩ : ∃ P, P = (Pl.peekR L' at_).1 := ⟨_, rfl⟩
        obtain ⟨pe, hpe⟩ : ∃ P, P = (Pl.peekR L' at_).2 := ⟨_, rfl⟩
        rw [← hP, ← hpe] at C4
        have HP := Lib.hid hP
        have HPE := Lib.hid hpe
        clear hP hpe
        go_wp2_with fail
        refine C4.out.mono ?_
        rintro e w4 ⟨rfl, -, g4⟩
        have gp4 := g4.alloc #[.int .i64 pk, .bool px, .int .i64 pn, .int .i64 pa, .int .i64 pl, .string pss] 38
        have T4 := Lib.hid (TC.out.grown gp4)
        have Y11 := Lib.hid (X11.out.grown gp4)
        have Y12 := Lib.hid (X12.out.grown gp4)
        have Y13 := Lib.hid (ObC.new w4 pk px pn pa pl pss)
        obtain ⟨Q2, hs2, hQ2, hb2⟩ := T4.out.swap.left
        have C5 := Lib.hid (rpeek_all W Q2 pw L' _ hL' hs2 at_)
        rw [← HP.out, ← HPE.out] at C5
        clear hs2 hQ2 hb2 C4 TC X11 X12 g4 gp4
        go_wp2_with fail
        refine C5.out.mono ?_
        rintro e w5 ⟨rfl, -, g5⟩
        have gp5 := g5.alloc #[.int .i64 pk, .bool px, .int .i64 pn, .int .i64 pa, .int .i64 pl, .string pss] 38
        have T5 := Lib.hid (T4.out.grown gp5)
        have Z11 := Lib.hid (Y11.out.grown gp5)
        have Z12 := Lib.hid (Y12.out.grown gp5)
        have Z13 := Lib.hid (Y13.out.grown gp5)
        have Z15 := Lib.hid (ObC.new w5 pk px pn pa pl pss)
        obtain ⟨Q3, hs3, hQ3, hb3⟩ := T5.out.left
        have C6 := Lib.hid (stk_tomark W Q3 ps L' _ hs3 (by omega))
        clear hs3 hQ3 hb3 C5 T4 Y11 Y12 Y13 g5 gp5
        obtain ⟨⟨tn, te⟩, htm⟩ : ∃ P, P = Pl.toMark L' := ⟨_, rfl⟩
        rw [← htm] at C6
        have HTM := Lib.hid htm
        clear htm
        go_wp2_with fail
        refine C6.out.mono ?_
        rintro e w6 ⟨rfl, -, g6⟩
        have T6 := Lib.hid (T5.out.grown g6)
        have A11 := Lib.hid (Z11.out.grown g6)
        have A12 := Lib.hid (Z12.out.grown g6)
        have A13 := Lib.hid (Z13.out.grown g6)
        have A15 := Lib.hid (Z15.out.grown g6)
        obtain ⟨Q4, hs4, hQ4, hb4⟩ := T6.out.swap.left
        have C7 := Lib.hid (rtomark_all W Q4 pw L' _ hL' hs4)
        rw [← HTM.out] at C7
        clear hs4 hQ4 hb4 C6 T5 Z11 Z12 Z13 Z15 g6
        go_wp2_with fail
        refine C7.out.mono ?_
        rintro e w7 ⟨rfl, -, g7⟩
        have T7 := Lib.hid (T6.out.grown g7)
        have B11 := Lib.hid (A11.out.grown g7)
        have B12 := Lib.hid (A12.out.grown g7)
        have B13 := Lib.hid (A13.out.grown g7)
        have B15 := Lib.hid (A15.out.grown g7)
        clear C7 T6 A11 A12 A13 A15 g7 HP HPE HTM
        go_wp2_with fail
        obtain ⟨b13, hb13⟩ : ∃ z, z = w4.heap.size := ⟨_, rfl⟩
        obtain ⟨b15, hb15⟩ : ∃ z, z = w5.heap.size := ⟨_, rfl⟩
        rw [← hb13] at B13 ⊢
        rw [← hb15] at B15 ⊢
        obtain ⟨aw, capw, cpw, fpw, rpw, hpwlt⟩ := T7.out.row
        obtain ⟨M, hM⟩ : ∃ M, M = L'.length := ⟨_, rfl⟩
        rw [← hM] at cpw rpw
        have HSS : Hid (∀ Z : World, Fr (fun _ => False) w7 Z → Z.cell? ⟨b + 1, 0, none⟩ = some (.int .i64 xk) ∧ Z.cell? ⟨b + 1, 1, none⟩ = some (.bool xx) ∧ Z.cell? ⟨b + 1, 2, none⟩ = some (.int .i64 xn) ∧ Z.cell? ⟨b + 1, 3, none⟩ = some (.int .i64 xa) ∧ Z.cell? ⟨b + 1, 4, none⟩ = some (.int .i64 xl) ∧ Z.cell? ⟨b + 1, 5, none⟩ = some (.string xs) ∧ Z.cell? ⟨b + 1 + 1, 0, none⟩ = some (.int .i64 xk) ∧ Z.cell? ⟨b + 1 + 1, 1, none⟩ = some (.bool xx) ∧ Z.cell? ⟨b + 1 + 1, 2, none⟩ = some (.int .i64 xn) ∧ Z.cell? ⟨b + 1 + 1, 3, none⟩ = some (.int .i64 xa) ∧ Z.cell? ⟨b + 1 + 1, 4, none⟩ = some (.int .i64 xl) ∧ Z.cell? ⟨b + 1 + 1, 5, none⟩ = some (.string xs) ∧ Z.cell? ⟨b13, 0, none⟩ = some (.int .i64 pk) ∧ Z.cell? ⟨b13, 1, none⟩ = some (.bool px) ∧ Z.cell? ⟨b13, 2, none⟩ = some (.int .i64 pn) ∧ Z.cell? ⟨b13, 3, none⟩ = some (.int .i64 pa) ∧ Z.cell? ⟨b13, 4, none⟩ = some (.int .i64 pl) ∧ Z.cell? ⟨b13, 5, none⟩ = some (.string pss) ∧ Z.cell? ⟨b15, 0, none⟩ = some (.int .i64 pk) ∧ Z.cell? ⟨b15, 1, none⟩ = some (.bool px) ∧ Z.cell? ⟨b15, 2, none⟩ = some (.int .i64 pn) ∧ Z.cell? ⟨b15, 3, none⟩ = some (.int .i64 pa) ∧ Z.cell? ⟨b15, 4, none⟩ = some (.int .i64 pl) ∧ Z.cell? ⟨b15, 5, none⟩ = some (.string pss) ∧ Z.cell? ⟨pw, 0, none⟩ = some (.slice aw M capw) ∧ Fr (fun _ => False) w7 Z) := Lib.hid (fun Z hZ => by
          obtain ⟨x0, x1, x2, x3, x4, x5⟩ := B11.out
          obtain ⟨y0, y1, y2, y3, y4, y5⟩ := B12.out
          obtain ⟨z0, z1, z2, z3, z4, z5⟩ := B13.out
          obtain ⟨v0, v1, v2, v3, v4, v5⟩ := B15.out
          have e : ∀ (c o : Nat) (u : Value), w7.cell? ⟨c, o, none⟩ = some u → Z.cell? ⟨c, o, none⟩ = some u := fun c o u h => (hZ.cell (a := ⟨c, o, none⟩) (block_lt_of_cell h) (fun f => f)).trans h
          exact ⟨e _ _ _ x0, e _ _ _ x1, e _ _ _ x2, e _ _ _ x3, e _ _ _ x4, e _ _ _ x5, e _ _ _ y0, e _ _ _ y1, e _ _ _ y2, e _ _ _ y3, e _ _ _ y4, e _ _ _ y5, e _ _ _ z0, e _ _ _ z1, e _ _ _ z2, e _ _ _ z3, e _ _ _ z4, e _ _ _ z5, e _ _ _ v0, e _ _ _ v1, e _ _ _ v2, e _ _ _ v3, e _ _ _ v4, e _ _ _ v5, e _ _ _ cpw, hZ⟩)
        obtain ⟨vs, us, hSs, -⟩ := id T7.out
        have DL : Hid (∀ Z, Fr (fun _ => False) w7 Z → Calls Try.prog 28 #[.pointer (some ⟨ps, 0, none⟩)] Z fun e w' => e = .returned (.int .i64 (M : Int)) ∧ w' = Z) := Lib.hid (fun Z hZ => by
          rw [hM]
          exact len_any W.heap.size ps vs L' Z (hSs.fr hZ (fun f => f) (fun _ _ f => f)))
        have DI : Hid (∀ Z, Fr (fun _ => False) w7 Z → Calls Try.prog 26 #[.pointer (some ⟨ps, 0, none⟩)] Z fun e w' => ∃ vi, e = .returned vi ∧ RowV w' vi L' ∧ Fr (fun _ => False) w7 w') := Lib.hid (fun Z hZ => (items_any W.heap.size ps vs L' (by omega) Z (hSs.fr hZ (fun f => f) (fun _ _ f => f))).mono fun e w' ⟨vi, he, ho, hF⟩ => ⟨vi, he, own_row ho, hZ.trans hF⟩)
        have DS : Hid (∀ Z vi, Fr (fun _ => False) w7 Z → RowV Z vi L' → Calls Try.prog 30 #[vi, .slice aw M capw] Z fun e w' => e = .returned (.bool true) ∧ Fr (fun _ => False) w7 w') := Lib.hid (fun Z vi hZ hv => (same_yes vi (.slice aw M capw) L' (by omega) Z hv (RowV.fr rpw hZ (fun _ _ f => f))).mono fun e w' ⟨he, g⟩ => ⟨he, hZ.trans (Fr.of_grown _ g)⟩)
        have HM := Lib.hid hM
        have SS0 := HSS.out w7.drew (Fr.drew (Fr.refl _ w7))
        have hM200 : (M : Int) ≤ 200 := by omega
        clear B11 B12 B13 B15 hb13 hb15 cpw fpw rpw hpwlt hSs hM
        go_region_held3 (fun Z => Z.cell? ⟨b + 1, 0, none⟩ = some (.int .i64 xk) ∧ Z.cell? ⟨b + 1, 1, none⟩ = some (.bool xx) ∧ Z.cell? ⟨b + 1, 2, none⟩ = some (.int .i64 xn) ∧ Z.cell? ⟨b + 1, 3, none⟩ = some (.int .i64 xa) ∧ Z.cell? ⟨b + 1, 4, none⟩ = some (.int .i64 xl) ∧ Z.cell? ⟨b + 1, 5, none⟩ = some (.string xs) ∧ Z.cell? ⟨b + 1 + 1, 0, none⟩ = some (.int .i64 xk) ∧ Z.cell? ⟨b + 1 + 1, 1, none⟩ = some (.bool xx) ∧ Z.cell? ⟨b + 1 + 1, 2, none⟩ = some (.int .i64 xn) ∧ Z.cell? ⟨b + 1 + 1, 3, none⟩ = some (.int .i64 xa) ∧ Z.cell? ⟨b + 1 + 1, 4, none⟩ = some (.int .i64 xl) ∧ Z.cell? ⟨b + 1 + 1, 5, none⟩ = some (.string xs) ∧ Z.cell? ⟨b13, 0, none⟩ = some (.int .i64 pk) ∧ Z.cell? ⟨b13, 1, none⟩ = some (.bool px) ∧ Z.cell? ⟨b13, 2, none⟩ = some (.int .i64 pn) ∧ Z.cell? ⟨b13, 3, none⟩ = some (.int .i64 pa) ∧ Z.cell? ⟨b13, 4, none⟩ = some (.int .i64 pl) ∧ Z.cell? ⟨b13, 5, none⟩ = some (.string pss) ∧ Z.cell? ⟨b15, 0, none⟩ = some (.int .i64 pk) ∧ Z.cell? ⟨b15, 1, none⟩ = some (.bool px) ∧ Z.cell? ⟨b15, 2, none⟩ = some (.int .i64 pn) ∧ Z.cell? ⟨b15, 3, none⟩ = some (.int .i64 pa) ∧ Z.cell? ⟨b15, 4, none⟩ = some (.int .i64 pl) ∧ Z.cell? ⟨b15, 5, none⟩ = some (.string pss) ∧ Z.cell? ⟨pw, 0, none⟩ = some (.slice aw M capw) ∧ Fr (fun _ => False) w7 Z)
          (first | assumption)
          (first | (go_at_call 28; with_reducible refine (DL.out _ ?_).mono ?_; (first | assumption | exact Fr.drew (Fr.refl _ w7)); rintro e w8 ⟨rfl, rfl⟩) | (go_at_call 26; with_reducible refine (DI.out _ ?_).mono ?_; (first | assumption | exact Fr.drew (Fr.refl _ w7)); rintro e w9 ⟨vi, rfl, hvi, hF9⟩; have S9 := HSS.out w9 hF9; have HVI := Lib.hid hvi; clear hvi) | (go_at_call 30; with_reducible refine (DS.out _ _ ?_ HVI.out).mono ?_; (first | assumption); rintro e w10 ⟨rfl, hF10⟩; have S10 := HSS.out w10 hF10))
        all_goals
          rename_i hSz
          have hFz := hSz.2.2.2.2.2.2.2.2.2.2.2.2.2.2.2.2.2.2.2.2.2.2.2.2.2
          have TZ := Lib.hid ((T7.out.fresh hFz).forget (Qr := fun _ => False) (fun c f => f.elim))
          go_wp2_with fail
          go_roundw
          case rel => exact ⟨c + 1, L', by simp, by omega, hL', TZ⟩
          case measure => simp [intOf] <;> omega
    · go_wp2_with fail
      go_ret
      exact ⟨rfl, TR.out.keptw⟩
end Go.Proofs.Ytenmbkngkabonaa
