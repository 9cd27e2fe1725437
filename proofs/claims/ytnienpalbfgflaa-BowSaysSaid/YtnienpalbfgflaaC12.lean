/- The reference's Line, of any edge and any line (layer 26). -/
import Derived.Test.YtnienpalbfgflaaC11
namespace Go.Proofs.Ytnienpalbfgflaa
set_option linter.unusedVariables false
open Go.RowKit

theorem Try.crossInfo62 : (Try.prog.info? 62).map (fun i => (i.zero, i.size, i.bytes)) = some (some (.agg #[.int .i64 0, .int .i64 0]), 2, 16) := by kernel_rfl
def Line26Out (L : List (Int × Int)) (W : World) : Ending → World → Prop := fun e w' =>
  ∃ lv, e = .returned lv ∧ w'.ownsRow W.heap.size 62 2 lv L.length (Pl.flatX L) ∧ Fr (fun _ => False) W w'
def Pl.crs (n : Int) (L : List Pl.Sp) : List (Int × Int) := L.map fun s => (s.t, Pl.crossK s n)
theorem Pl.crs_nz (P : Pl.Sp × Pl.Sp) (n : Int) : Pl.crs n (Pl.nz P) = Pl.crosses P.1 n ++ Pl.crosses P.2 n := by
  unfold Pl.crs Pl.nz Pl.crosses
  by_cases h1 : P.1.t = 0 <;> by_cases h2 : P.2.t = 0 <;> simp [h1, h2]
theorem Pl.crs_take (n : Int) (L : List Pl.Sp) (j : Nat) (s : Pl.Sp) (h : L[j]? = some s) : Pl.crs n (L.take (j + 1)) = Pl.crs n (L.take j) ++ [(s.t, Pl.crossK s n)] := by
  unfold Pl.crs
  rw [List.take_add_one, h, List.map_append]
  rfl
theorem Pl.crs_len (n : Int) (L : List Pl.Sp) (j : Nat) (h : j ≤ L.length) : (Pl.crs n (L.take j)).length = j := by
  unfold Pl.crs
  rw [List.length_map, List.length_take]
  omega
set_option maxHeartbeats 8000000 in
set_option maxRecDepth 100000 in
theorem line26_in (x0 y0 : Int) (bb : Bool) (cx cy xe ye y n : Int) (L : List Pl.Sp) (hL : L.length ≤ 2) (hok : ∀ (j : Nat) (s : Pl.Sp), L[j]? = some s → s.ok ∧ s.t ≠ 0) (hn : 0 ≤ n ∧ n ≤ 64)
    (CE : Hid (∀ Z, Calls Try.prog 29 #[.agg #[.int .i64 x0, .int .i64 y0, .bool bb, .int .i64 cx, .int .i64 cy, .int .i64 xe, .int .i64 ye]] Z fun en w' => en = .returned (.bool true) ∧ Grown Z w'))
    (CY : Hid (∀ Z, Calls Try.prog 35 #[.int .i64 y] Z fun en w' => en = .returned (.bool true) ∧ Z = w'))
    (CH : Hid (∀ Z, Calls Try.prog 36 #[.agg #[.int .i64 x0, .int .i64 y0, .bool bb, .int .i64 cx, .int .i64 cy, .int .i64 xe, .int .i64 ye], .int .i64 y] Z (HitsOut L Z))) (W : World) :
    Calls Try.prog 18 #[.agg #[.int .i64 x0, .int .i64 y0, .bool bb, .int .i64 cx, .int .i64 cy, .int .i64 xe, .int .i64 ye], .int .i64 y, .int .i64 n] W (Line26Out (Pl.crs n L) W) := by
  have HOK := Lib.hid hok
  obtain ⟨m, hme⟩ : ∃ m, m = L.length := ⟨_, rfl⟩
  have HM := Lib.hid hme
  rw [← hme] at hL
  obtain ⟨n1, n2⟩ := hn
  clear hme hok
  have G0 := Lib.hid (fun A t => (Grown.refl W).alloc A t)
  have B0 := Lib.hid (Blk.new (W := W) (Z := W) #[.int .i64 x0, .int .i64 y0, .bool bb, .int .i64 cx, .int .i64 cy, .int .i64 xe, .int .i64 ye] 25 (Nat.le_refl _))
  go_enter Try.func18, Try.ntmps18
  go_wp2_with fail
  refine (CE.out _).mono ?_
  rintro en w1 ⟨rfl, g1⟩
  have F1 := Lib.hid (Fr.of_grown (fun _ => False) (grown_trans (G0.out _ _) g1))
  have B1 := Lib.hid (B0.out.grow g1)
  clear g1 CE G0 B0
  go_wp2_with fail
  refine (CY.out _).mono ?_
  rintro en w2 ⟨rfl, rfl⟩
  obtain ⟨e0, e1, e2, e3, e4, e5, e6⟩ := B1.out.at0
  clear CY B1
  go_wp2_with fail
  refine (CH.out _).mono ?_
  rintro en w2 ⟨v, rfl, r, f2⟩
  have F2 := Lib.hid (F1.out.trans f2)
  obtain ⟨ao, cap, rfl, hc, hr⟩ := r.rd
  have HR := Lib.hid hr
  rw [← HM.out] at hc ⊢
  clear r f2 hr CH F1 e0 e1 e2 e3 e4 e5 e6
  go_wp2_with fail
  go_loopw [7, 9] (fun s i wr => ∃ (j : Nat), i = .int .i64 (j : Int) ∧ j ≤ m ∧ Hid (wr.ownsRow w2.heap.size 62 2 s j (Pl.flatX (Pl.crs n (L.take j)))) ∧ Hid (Fr (fun _ => False) W wr ∧ Fr (fun _ => False) w2 wr)) (fun _ i _ => ((m : Int) - intOf i).toNat)
  case atStart => exact ⟨0, rfl, by omega, Lib.hid (World.ownsRow_nil _ _ _ _), Lib.hid ⟨F2.out, Fr.refl _ _⟩⟩
  case round =>
    obtain ⟨j, rfl, hj, HO, HF⟩ := hrel
    by_cases hjm : j = m
    · have HW := Lib.hid (show wr.ownsRow W.heap.size 62 2 u7 (Pl.crs n L).length (Pl.flatX (Pl.crs n L)) by
        have := own_weaken HO.out F2.out.2.2.1
        rw [hjm, HM.out, List.take_length] at this
        have e : (Pl.crs n L).length = L.length := by unfold Pl.crs; rw [List.length_map]
        rw [e]
        exact this)
      subst hjm
      go_wp2_with fail
      go_ret
      exact ⟨_, rfl, HW.out, HF.out.1⟩
    · have hjI : (j : Int) < (m : Int) := by omega
      have HJ := Lib.hid (show j < m ∧ m ≤ 2 from ⟨by omega, hL⟩)
      obtain ⟨s, hs⟩ : ∃ s, L[j]? = some s := ⟨_, List.getElem?_eq_getElem (by have := HM.out; omega)⟩
      obtain ⟨g, rfl, hg, b0, b1, b2, b3, b4⟩ := HR.out j s hs
      have cc : ∀ o u, w2.cell? ⟨g, o, none⟩ = some u → wr.cell? ⟨g, o, none⟩ = some u := fun o u h => (HF.out.2.cell (a := ⟨g, o, none⟩) hg (fun f => f)).trans h
      have a0 := cc _ _ b0
      have a1 := cc _ _ b1
      have a2 := cc _ _ b2
      have a3 := cc _ _ b3
      have a4 := cc _ _ b4
      have HT := Lib.hid (Pl.crs_take n L j s hs)
      obtain ⟨hso, hst⟩ := HOK.out j s hs
      have HK := Lib.hid (fun i h0 h1 => Pl.crossK_iff s n i hso hst h0 h1)
      obtain ⟨K, hK⟩ : ∃ K, K = Pl.crossK s n := ⟨_, rfl⟩
      have bK : 0 ≤ K ∧ K ≤ n := by
        rw [hK]
        unfold Pl.crossK
        omega
      obtain ⟨bK1, bK2⟩ := bK
      rw [← hK] at HT HK
      obtain ⟨t, p, q, d, mm⟩ := s
      simp only at a0 a1 a2 a3 a4 hst HT HK
      have HCe := Lib.hid (show _ ∧ _ ∧ _ ∧ _ ∧ _ from ⟨a0, a1, a2, a3, a4⟩)
      obtain ⟨k1, k2, k3, k4, k5, k6⟩ := hso.resolve_left hst
      simp only at k1 k2 k3 k4 k5 k6
      have CA := Lib.hid (fun x hx r hrr Z => above26_ok t p q d mm x hx (by omega) (by omega) k6 r hrr Z)
      clear a0 a1 a2 a3 a4 b0 b1 b2 b3 b4 cc hs hso k1 k2 k3 k4 k5 k6 hst hjm hK
      rename World => wo
      go_wp2_with fail
      go_loopw [10] (fun i wz => ∃ k : Int, i = .int .i64 k ∧ (0 ≤ k ∧ k ≤ K) ∧ Hid (Grown wo wz)) (fun i _ => (K - intOf i).toNat)
      case atStart => exact ⟨0, rfl, by omega, Lib.hid (Grown.refl _)⟩
      case round =>
        obtain ⟨k, rfl, ⟨kk1, kk2⟩, HG⟩ := hrel
        obtain ⟨c0, c1, c2, c3, c4⟩ : wr.cell? ⟨g, j * 5, none⟩ = some (.int .i64 t) ∧ wr.cell? ⟨g, j * 5 + 1, none⟩ = some (.int .i64 p) ∧ wr.cell? ⟨g, j * 5 + 2, none⟩ = some (.int .i64 q) ∧ wr.cell? ⟨g, j * 5 + 3, none⟩ = some (.int .i64 d) ∧ wr.cell? ⟨g, j * 5 + 4, none⟩ = some (.int .i64 mm) := by
          obtain ⟨a0, a1, a2, a3, a4⟩ := HCe.out
          exact ⟨grown_cell HG.out a0, grown_cell HG.out a1, grown_cell HG.out a2, grown_cell HG.out a3, grown_cell HG.out a4⟩
        have hcase : k < K ∨ (k = K ∧ k < n) ∨ (k = K ∧ K = n) := by omega
        rcases hcase with hk | ⟨rfl, hk⟩ | ⟨rfl, hk⟩
        · have hkn : k < n := by omega
          have C1 := Lib.hid (fun Z => CA.out (16 * k + 8) (by omega) true (decide_eq_true ((HK.out k kk1 hkn).1 hk)) Z)
          go_wp2_with fail
          refine (C1.out _).mono ?_
          rintro en w5 ⟨rfl, g5⟩
          have GG := Lib.hid (grown_trans HG.out g5)
          clear g5 C1 c0 c1 c2 c3 c4
          go_wp2_with fail
          refine ⟨?_, by simp [intOf]; omega⟩
          repeat (refine Exists.intro (α := Value) _ ?_)
          first
            | exact ⟨k + 1, by simp, by omega, GG⟩
            | (refine ⟨⟨k + 1, by simp, by omega, GG⟩, ?_⟩
               repeat (first | exact rfl | refine ⟨rfl, ?_⟩))
        · have HC1 := Lib.hid (fun Z => CA.out (16 * k + 8) (by omega) false (decide_eq_false (fun h => by have := (HK.out k kk1 hk).2 h; omega)) Z)
          go_wp2_with fail
          refine (HC1.out _).mono ?_
          rintro en w5 ⟨rfl, g5⟩
          have GG := Lib.hid (grown_trans HG.out g5)
          have e0 := grown_cell g5 c0
          clear g5 HC1 c0 c1 c2 c3 c4
          obtain ⟨i0, hi, hz0, hz1, hz2⟩ := info_parts Try.crossInfo62
          have HII := Lib.hid hi
          have FZ := Lib.hid (show Fr (fun _ => False) wo (w5.alloc (.cells #[.int .i64 t, .int .i64 k] 62)) from (Fr.of_grown _ GG.out).trans (Fr.alloc _ _ _))
          have HAO := Lib.hid (own_fr HO.out FZ.out (fun _ _ f => f))
          have HBS : Hid (w2.heap.size ≤ (w5.alloc (.cells #[.int .i64 t, .int .i64 k] 62)).heap.size) := Lib.hid (Nat.le_trans HF.out.2.2.2.1 FZ.out.2.2.1)
          have HCC : Hid (∀ ad, some (⟨w5.heap.size, 0, none⟩ : Addr) = some ad → ∀ j u, (Pl.csX (t, k))[j]? = some u → (w5.alloc (.cells #[.int .i64 t, .int .i64 k] 62)).cell? (ad.add j) = some u) := Lib.hid (fun ad q j u hu => by
            injection q with q
            subst q
            exact alloc_cell _ _ _ j u hu)
          clear hi
          go_wp2_with (at_builtin; refine wpList_append_all _ w2.heap.size 34 62 i0 _ 2 16 Try.underlying34 HII.out hz0 hz1 hz2 rfl (by decide) u7 j (Pl.flatX (Pl.crs n (L.take j))) HAO.out (some ⟨w5.heap.size, 0, none⟩) 1 1 (Pl.csX (t, k)) (by intro q; cases q) rfl HCC.out (Pl.csX_one _) (by have := HJ.out; unfold maxLen; omega) (by have := HJ.out; omega) HBS.out (hgd := rfl) (.tmp 51) (.tmp 59) rfl (by simp [Act.eval]) (by simp [Act.eval]) ?_)
          all_goals
            intro v' w6 r2 g2 hg2
            have FG := Lib.hid (Fr.grown (fun k => u7.ownBlock = some k) g2 (fun k hk => hk))
            have F6 := Lib.hid (show Fr (fun _ => False) W w6 ∧ Fr (fun _ => False) w2 w6 from ⟨(HF.out.1.trans FZ.out).trans' FG.out (fun k hk => .inr (Nat.le_trans F2.out.2.2.1 (own_base HO.out k hk))), (HF.out.2.trans FZ.out).trans' FG.out (fun k hk => .inr (own_base HO.out k hk))⟩)
            have HO6 := Lib.hid (show w6.ownsRow w2.heap.size 62 2 v' (j + 1) (Pl.flatX (Pl.crs n (L.take (j + 1)))) by
              rw [HT.out]
              unfold Pl.flatX at r2 ⊢
              rw [List.flatMap_append]
              have e : [(t, k)].flatMap Pl.csX = Pl.csX (t, k) := by simp
              rw [e]
              exact r2)
            clear r2 g2 hg2 FG FZ HAO HBS HCC
            go_wp2_with fail
            refine ⟨?_, by simp [intOf]; omega⟩
            repeat (refine Exists.intro (α := Value) _ ?_)
            first
              | exact ⟨j + 1, by simp, by have := HJ.out; omega, HO6, F6⟩
              | (refine ⟨⟨j + 1, by simp, by have := HJ.out; omega, HO6, F6⟩, ?_⟩
                 repeat (first | exact rfl | refine ⟨rfl, ?_⟩))
        · have hkn : n ≤ k := by omega
          clear hk
          have GG := HG
          obtain ⟨i0, hi, hz0, hz1, hz2⟩ := info_parts Try.crossInfo62
          have HII := Lib.hid hi
          have FZ := Lib.hid (show Fr (fun _ => False) wo (wr.alloc (.cells #[.int .i64 t, .int .i64 k] 62)) from (Fr.of_grown _ GG.out).trans (Fr.alloc _ _ _))
          have HAO := Lib.hid (own_fr HO.out FZ.out (fun _ _ f => f))
          have HBS : Hid (w2.heap.size ≤ (wr.alloc (.cells #[.int .i64 t, .int .i64 k] 62)).heap.size) := Lib.hid (Nat.le_trans HF.out.2.2.2.1 FZ.out.2.2.1)
          have HCC : Hid (∀ ad, some (⟨wr.heap.size, 0, none⟩ : Addr) = some ad → ∀ j u, (Pl.csX (t, k))[j]? = some u → (wr.alloc (.cells #[.int .i64 t, .int .i64 k] 62)).cell? (ad.add j) = some u) := Lib.hid (fun ad q j u hu => by
            injection q with q
            subst q
            exact alloc_cell _ _ _ j u hu)
          clear hi
          go_wp2_with (at_builtin; refine wpList_append_all _ w2.heap.size 34 62 i0 _ 2 16 Try.underlying34 HII.out hz0 hz1 hz2 rfl (by decide) u7 j (Pl.flatX (Pl.crs n (L.take j))) HAO.out (some ⟨wr.heap.size, 0, none⟩) 1 1 (Pl.csX (t, k)) (by intro q; cases q) rfl HCC.out (Pl.csX_one _) (by have := HJ.out; unfold maxLen; omega) (by have := HJ.out; omega) HBS.out (hgd := rfl) (.tmp 51) (.tmp 59) rfl (by simp [Act.eval]) (by simp [Act.eval]) ?_)
          all_goals
            intro v' w6 r2 g2 hg2
            have FG := Lib.hid (Fr.grown (fun k => u7.ownBlock = some k) g2 (fun k hk => hk))
            have F6 := Lib.hid (show Fr (fun _ => False) W w6 ∧ Fr (fun _ => False) w2 w6 from ⟨(HF.out.1.trans FZ.out).trans' FG.out (fun k hk => .inr (Nat.le_trans F2.out.2.2.1 (own_base HO.out k hk))), (HF.out.2.trans FZ.out).trans' FG.out (fun k hk => .inr (own_base HO.out k hk))⟩)
            have HO6 := Lib.hid (show w6.ownsRow w2.heap.size 62 2 v' (j + 1) (Pl.flatX (Pl.crs n (L.take (j + 1)))) by
              rw [HT.out]
              unfold Pl.flatX at r2 ⊢
              rw [List.flatMap_append]
              have e : [(t, k)].flatMap Pl.csX = Pl.csX (t, k) := by simp
              rw [e]
              exact r2)
            clear r2 g2 hg2 FG FZ HAO HBS HCC
            go_wp2_with fail
            refine ⟨?_, by simp [intOf]; omega⟩
            repeat (refine Exists.intro (α := Value) _ ?_)
            first
              | exact ⟨j + 1, by simp, by have := HJ.out; omega, HO6, F6⟩
              | (refine ⟨⟨j + 1, by simp, by have := HJ.out; omega, HO6, F6⟩, ?_⟩
                 repeat (first | exact rfl | refine ⟨rfl, ?_⟩))
set_option maxHeartbeats 4000000 in
set_option maxRecDepth 100000 in
theorem line26_out (x0 y0 : Int) (bb : Bool) (cx cy xe ye y n : Int) (A C : Bool) (h : ¬ (A = true ∧ C = true ∧ 0 ≤ n ∧ n ≤ 64))
    (CE : Hid (∀ Z, Calls Try.prog 29 #[.agg #[.int .i64 x0, .int .i64 y0, .bool bb, .int .i64 cx, .int .i64 cy, .int .i64 xe, .int .i64 ye]] Z fun en w' => en = .returned (.bool A) ∧ Grown Z w'))
    (CY : Hid (∀ Z, Calls Try.prog 35 #[.int .i64 y] Z fun en w' => en = .returned (.bool C) ∧ Z = w')) (W : World) :
    Calls Try.prog 18 #[.agg #[.int .i64 x0, .int .i64 y0, .bool bb, .int .i64 cx, .int .i64 cy, .int .i64 xe, .int .i64 ye], .int .i64 y, .int .i64 n] W (Line26Out [] W) := by
  have G0 := Lib.hid (fun A t => (Grown.refl W).alloc A t)
  have NIL : Hid (∀ Z, Fr (fun _ => False) W Z → Line26Out [] W (.returned (.slice none 0 0)) Z) := Lib.hid (fun Z g => ⟨_, rfl, World.ownsRow_nil _ _ _ _, g⟩)
  cases A
  · clear h CY
    go_enter Try.func18, Try.ntmps18
    go_wp2_with fail
    refine (CE.out _).mono ?_
    rintro en w1 ⟨rfl, g1⟩
    have F1 := Lib.hid (Fr.of_grown (fun _ => False) (grown_trans (G0.out _ _) g1))
    clear g1 CE G0
    go_wp2_with fail
    go_ret
    exact NIL.out _ F1.out
  · cases C
    · clear h
      go_enter Try.func18, Try.ntmps18
      go_wp2_with fail
      refine (CE.out _).mono ?_
      rintro en w1 ⟨rfl, g1⟩
      have F1 := Lib.hid (Fr.of_grown (fun _ => False) (grown_trans (G0.out _ _) g1))
      clear g1 CE G0
      go_wp2_with fail
      refine (CY.out _).mono ?_
      rintro en w2 ⟨rfl, rfl⟩
      go_wp2_with fail
      go_ret
      exact NIL.out _ F1.out
    · have hn : n < 0 ∨ (0 ≤ n ∧ 64 < n) := by
        by_cases h0 : n < 0
        · exact .inl h0
        · exact .inr ⟨by omega, by by_cases h1 : n ≤ 64; exact absurd ⟨rfl, rfl, by omega, h1⟩ h; omega⟩
      clear h
      rcases hn with h0 | ⟨h0, h1⟩
      all_goals
        go_enter Try.func18, Try.ntmps18
        go_wp2_with fail
        refine (CE.out _).mono ?_
        rintro en w1 ⟨rfl, g1⟩
        have F1 := Lib.hid (Fr.of_grown (fun _ => False) (grown_trans (G0.out _ _) g1))
        clear g1 CE G0
        go_wp2_with fail
        refine (CY.out _).mono ?_
        rintro en w2 ⟨rfl, rfl⟩
        go_wp2_with fail
        go_ret
        exact NIL.out _ F1.out
theorem line26_any (e : Pl.Ed) (y n : Int) (W : World) : Calls Try.prog 18 #[edv e, .int .i64 y, .int .i64 n] W (Line26Out (Pl.line e y n) W) := by
  have CE := fun Z => isedge25_any e Z
  have CY := fun Z => coord24_any y Z
  unfold Pl.line
  by_cases h : e.may ∧ Pl.crd y ∧ 0 ≤ n ∧ n ≤ 64
  · obtain ⟨he, hy, hn⟩ := id h
    rw [if_pos h]
    rw [decide_eq_true he] at CE
    rw [decide_eq_true hy] at CY
    have CH := fun Z => hits26_any e y he hy Z
    have hl := Pl.nz_len (Pl.spots e y)
    have ho := Pl.nz_ok e he y hy
    rw [← Pl.crs_nz]
    obtain ⟨x0, y0, bb, cx, cy, xe, ye⟩ := e
    exact line26_in x0 y0 bb cx cy xe ye y n _ hl ho hn (Lib.hid CE) (Lib.hid CY) (Lib.hid CH) W
  · rw [if_neg h]
    obtain ⟨x0, y0, bb, cx, cy, xe, ye⟩ := e
    exact line26_out x0 y0 bb cx cy xe ye y n _ _ (fun k => h ⟨by simpa using k.1, by simpa using k.2.1, k.2.2⟩) (Lib.hid CE) (Lib.hid CY) W
end Go.Proofs.Ytnienpalbfgflaa
