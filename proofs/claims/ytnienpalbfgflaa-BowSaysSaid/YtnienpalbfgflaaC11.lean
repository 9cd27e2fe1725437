/- The reference's Turns, of any edge and any point (layer 26). -/
import Derived.Test.YtnienpalbfgflaaC10
namespace Go.Proofs.Ytnienpalbfgflaa
set_option linter.unusedVariables false
open Go.RowKit

/-- a row of hits that is read, nil or not -/
def RdH (W : World) (v : Value) (L : List Pl.Sp) : Prop :=
  ∃ ao cap, v = .slice ao L.length cap ∧ L.length ≤ cap ∧ ∀ (j : Nat) (s : Pl.Sp), L[j]? = some s → ∃ g, ao = some ⟨g, 0, none⟩ ∧ g < W.heap.size ∧ W.cell? ⟨g, j * 5, none⟩ = some (.int .i64 s.t) ∧ W.cell? ⟨g, j * 5 + 1, none⟩ = some (.int .i64 s.p) ∧ W.cell? ⟨g, j * 5 + 2, none⟩ = some (.int .i64 s.q) ∧ W.cell? ⟨g, j * 5 + 3, none⟩ = some (.int .i64 s.d) ∧ W.cell? ⟨g, j * 5 + 4, none⟩ = some (.int .i64 s.m)
theorem RowH.rd {W : World} {v : Value} {L : List Pl.Sp} (h : RowH W v L) : RdH W v L := by
  rcases h with ⟨rfl, rfl⟩ | ⟨g, cap, rfl, hc, hg, h⟩
  · exact ⟨none, 0, rfl, Nat.le_refl _, fun j s hj => by simp at hj⟩
  · exact ⟨_, cap, rfl, hc, fun j s hj => ⟨g, rfl, hg, h j s hj⟩⟩
theorem RdH.fr0 {W W' : World} {v : Value} {L : List Pl.Sp} (h : RdH W v L) (k : Fr (fun _ => False) W W') : RdH W' v L := by
  obtain ⟨ao, cap, rfl, hc, h⟩ := h
  refine ⟨ao, cap, rfl, hc, fun j s hj => ?_⟩
  obtain ⟨g, rfl, hg, a0, a1, a2, a3, a4⟩ := h j s hj
  have c : ∀ o, W'.cell? ⟨g, o, none⟩ = W.cell? ⟨g, o, none⟩ := fun o => k.cell (a := ⟨g, o, none⟩) hg (fun f => f)
  exact ⟨g, rfl, Nat.lt_of_lt_of_le hg k.2.2.1, (c _).trans a0, (c _).trans a1, (c _).trans a2, (c _).trans a3, (c _).trans a4⟩
def Pl.sumC (L : List Pl.Sp) (x : Int) : Int := (L.map fun s => Pl.cnt s x).sum
theorem Pl.sumC_take (L : List Pl.Sp) (x : Int) (j : Nat) (s : Pl.Sp) (h : L[j]? = some s) : Pl.sumC (L.take (j + 1)) x = Pl.sumC (L.take j) x + Pl.cnt s x := by
  unfold Pl.sumC
  rw [List.take_add_one, h, List.map_append, List.sum_append]
  simp
theorem Pl.sumC_nz (P : Pl.Sp × Pl.Sp) (x : Int) : Pl.sumC (Pl.nz P) x = Pl.tot P x := by
  have z : ∀ s : Pl.Sp, s.t = 0 → Pl.cnt s x = 0 := fun s h => by unfold Pl.cnt; rw [if_neg (fun k => k.1 h)]
  unfold Pl.sumC Pl.nz Pl.tot
  by_cases h1 : P.1.t = 0 <;> by_cases h2 : P.2.t = 0 <;> simp [h1, h2, z]
theorem Pl.nz_len (P : Pl.Sp × Pl.Sp) : (Pl.nz P).length ≤ 2 := by
  unfold Pl.nz
  split <;> split <;> simp
theorem Pl.nz_ok (e : Pl.Ed) (he : e.may) (y : Int) (hy : Pl.crd y) : ∀ (j : Nat) (s : Pl.Sp), (Pl.nz (Pl.spots e y))[j]? = some s → s.ok ∧ s.t ≠ 0 := by
  obtain ⟨o1, o2⟩ := Pl.spots_ok e he y hy
  intro j s hj
  have hm := List.mem_of_getElem? hj
  unfold Pl.nz at hm
  rcases List.mem_append.1 hm with hm | hm
  · split at hm
    · simp at hm
    · rename_i h
      rw [List.mem_singleton.1 hm]
      exact ⟨o1, h⟩
  · split at hm
    · simp at hm
    · rename_i h
      rw [List.mem_singleton.1 hm]
      exact ⟨o2, h⟩
set_option maxHeartbeats 4000000 in
set_option maxRecDepth 100000 in
theorem turns26_in (x0 y0 : Int) (bb : Bool) (cx cy xe ye x y : Int) (L : List Pl.Sp) (hL : L.length ≤ 2) (hok : ∀ (j : Nat) (s : Pl.Sp), L[j]? = some s → s.ok ∧ s.t ≠ 0) (hx : -8191 ≤ x ∧ x ≤ 8191)
    (CE : Hid (∀ Z, Calls Try.prog 29 #[.agg #[.int .i64 x0, .int .i64 y0, .bool bb, .int .i64 cx, .int .i64 cy, .int .i64 xe, .int .i64 ye]] Z fun en w' => en = .returned (.bool true) ∧ Grown Z w'))
    (CX : Hid (∀ Z, Calls Try.prog 35 #[.int .i64 x] Z fun en w' => en = .returned (.bool true) ∧ Z = w'))
    (CY : Hid (∀ Z, Calls Try.prog 35 #[.int .i64 y] Z fun en w' => en = .returned (.bool true) ∧ Z = w'))
    (CH : Hid (∀ Z, Calls Try.prog 36 #[.agg #[.int .i64 x0, .int .i64 y0, .bool bb, .int .i64 cx, .int .i64 cy, .int .i64 xe, .int .i64 ye], .int .i64 y] Z (HitsOut L Z))) (W : World) :
    Calls Try.prog 30 #[.agg #[.int .i64 x0, .int .i64 y0, .bool bb, .int .i64 cx, .int .i64 cy, .int .i64 xe, .int .i64 ye], .int .i64 x, .int .i64 y] W fun en w' => en = .returned (.int .i64 (Pl.sumC L x)) ∧ Fr (fun _ => False) W w' := by
  have HOK := Lib.hid hok
  obtain ⟨m, hme⟩ : ∃ m, m = L.length := ⟨_, rfl⟩
  have HM := Lib.hid hme
  rw [← hme] at hL
  clear hme hok
  have G0 := Lib.hid (fun A t => (Grown.refl W).alloc A t)
  have B0 := Lib.hid (Blk.new (W := W) (Z := W) #[.int .i64 x0, .int .i64 y0, .bool bb, .int .i64 cx, .int .i64 cy, .int .i64 xe, .int .i64 ye] 25 (Nat.le_refl _))
  go_enter Try.func30, Try.ntmps30
  go_wp2_with fail
  refine (CE.out _).mono ?_
  rintro en w1 ⟨rfl, g1⟩
  have F1 := Lib.hid (Fr.of_grown (fun _ => False) (grown_trans (G0.out _ _) g1))
  have B1 := Lib.hid (B0.out.grow g1)
  clear g1 CE G0 B0
  go_wp2_with fail
  refine (CX.out _).mono ?_
  rintro en w2 ⟨rfl, rfl⟩
  go_wp2_with fail
  refine (CY.out _).mono ?_
  rintro en w2 ⟨rfl, rfl⟩
  obtain ⟨e0, e1, e2, e3, e4, e5, e6⟩ := B1.out.at0
  clear CX CY B1
  go_wp2_with fail
  refine (CH.out _).mono ?_
  rintro en w2 ⟨v, rfl, r, f2⟩
  have F2 := Lib.hid (F1.out.trans f2)
  obtain ⟨ao, cap, rfl, hc, hr⟩ := r.rd
  have HR := Lib.hid hr
  rw [← HM.out] at hc ⊢
  clear r f2 hr CH F1 e0 e1 e2 e3 e4 e5 e6
  go_wp2_with fail
  go_loopw [7, 9] (fun s i wr => ∃ (j : Nat) (n : Int), i = .int .i64 (j : Int) ∧ s = .int .i64 n ∧ j ≤ m ∧ (-2 ≤ n ∧ n ≤ 2) ∧ Hid (n = Pl.sumC (L.take j) x ∧ -(j : Int) ≤ n ∧ n ≤ (j : Int)) ∧ Hid (Fr (fun _ => False) W wr ∧ Fr (fun _ => False) w2 wr)) (fun _ i _ => ((m : Int) - intOf i).toNat)
  case atStart => exact ⟨0, 0, rfl, rfl, by omega, by omega, Lib.hid ⟨rfl, by omega, by omega⟩, Lib.hid ⟨F2.out, Fr.refl _ _⟩⟩
  case round =>
    obtain ⟨j, n, rfl, rfl, hj, ⟨hn1, hn2⟩, HN, HF⟩ := hrel
    by_cases hjm : j = m
    · have HW : Hid (n = Pl.sumC L x) := Lib.hid (by
        have := HN.out.1
        rw [hjm, HM.out, List.take_length] at this
        exact this)
      subst hjm
      go_wp2_with fail
      go_ret
      exact ⟨ret_int HW.out, HF.out.1⟩
    · have hjI : (j : Int) < (m : Int) := by omega
      have HJ := Lib.hid (show j < m by omega)
      obtain ⟨s, hs⟩ : ∃ s, L[j]? = some s := ⟨_, List.getElem?_eq_getElem (by have := HM.out; omega)⟩
      obtain ⟨g, rfl, hg, a0, a1, a2, a3, a4⟩ := HR.out j s hs
      have cc : ∀ o u, w2.cell? ⟨g, o, none⟩ = some u → wr.cell? ⟨g, o, none⟩ = some u := fun o u h => (HF.out.2.cell (a := ⟨g, o, none⟩) hg (fun f => f)).trans h
      have c0 := cc _ _ a0
      have c1 := cc _ _ a1
      have c2 := cc _ _ a2
      have c3 := cc _ _ a3
      have c4 := cc _ _ a4
      have HT := Lib.hid (Pl.sumC_take L x j s hs)
      obtain ⟨hso, hst⟩ := HOK.out j s hs
      have HB := Lib.hid (Pl.cnt_bd s hso x)
      obtain ⟨t, p, q, d, mm⟩ := s
      simp only at c0 c1 c2 c3 c4 hst
      obtain ⟨k1, k2, k3, k4, k5, k6⟩ := hso.resolve_left hst
      simp only at k1 k2 k3 k4 k5 k6
      obtain ⟨r, hrr⟩ : ∃ r, decide (0 < Pl.rsign (p - x * mm) q d) = r := ⟨_, rfl⟩
      have CA := Lib.hid (fun Z => above26_ok t p q d mm x hx (by omega) (by omega) k6 r hrr Z)
      have HC := Lib.hid (show Pl.cnt ⟨t, p, q, d, mm⟩ x = if r = true then t else 0 by
        unfold Pl.cnt
        simp only
        rw [← hrr]
        by_cases h : 0 < Pl.rsign (p - x * mm) q d
        · rw [if_pos ⟨hst, h⟩, if_pos (by simpa using h)]
        · rw [if_neg (fun k => h k.2), if_neg (by simpa using h)])
      have bnt : -1 ≤ n ∧ n ≤ 1 := by have := HN.out; have := HJ.out; omega
      have bt : -1 ≤ t ∧ t ≤ 1 := by omega
      clear a0 a1 a2 a3 a4 cc hs hso k1 k2 k3 k4 k5 k6 hst hrr hjm hn1 hn2 HB
      go_wp2_with fail
      refine (CA.out _).mono ?_
      rintro en w4 ⟨rfl, g4⟩
      have e0 := grown_cell g4 c0
      have F4 := Lib.hid (show Fr (fun _ => False) W w4 ∧ Fr (fun _ => False) w2 w4 from ⟨HF.out.1.trans (Fr.of_grown _ g4), HF.out.2.trans (Fr.of_grown _ g4)⟩)
      clear g4 CA c0 c1 c2 c3 c4
      cases r
      all_goals
        go_wp2_with fail
        refine ⟨?_, by simp [intOf]; omega⟩
        repeat (refine Exists.intro (α := Value) _ ?_)
        first
          | exact ⟨j + 1, _, by simp, rfl, by have := HJ.out; omega, by have := HN.out; have := HJ.out; omega, Lib.hid ⟨by rw [HT.out, HC.out]; have := HN.out.1; simp only [if_true, Bool.false_eq_true, if_false]; omega, by have := HN.out; omega, by have := HN.out; omega⟩, F4⟩
          | (refine ⟨⟨j + 1, _, by simp, rfl, by have := HJ.out; omega, by have := HN.out; have := HJ.out; omega, Lib.hid ⟨by rw [HT.out, HC.out]; have := HN.out.1; simp only [if_true, Bool.false_eq_true, if_false]; omega, by have := HN.out; omega, by have := HN.out; omega⟩, F4⟩, ?_⟩
             repeat (first | exact rfl | refine ⟨rfl, ?_⟩))
set_option maxHeartbeats 4000000 in
set_option maxRecDepth 100000 in
theorem turns26_out (x0 y0 : Int) (bb : Bool) (cx cy xe ye x y : Int) (A B C : Bool) (h : ¬ (A = true ∧ B = true ∧ C = true))
    (CE : Hid (∀ Z, Calls Try.prog 29 #[.agg #[.int .i64 x0, .int .i64 y0, .bool bb, .int .i64 cx, .int .i64 cy, .int .i64 xe, .int .i64 ye]] Z fun en w' => en = .returned (.bool A) ∧ Grown Z w'))
    (CX : Hid (∀ Z, Calls Try.prog 35 #[.int .i64 x] Z fun en w' => en = .returned (.bool B) ∧ Z = w'))
    (CY : Hid (∀ Z, Calls Try.prog 35 #[.int .i64 y] Z fun en w' => en = .returned (.bool C) ∧ Z = w')) (W : World) :
    Calls Try.prog 30 #[.agg #[.int .i64 x0, .int .i64 y0, .bool bb, .int .i64 cx, .int .i64 cy, .int .i64 xe, .int .i64 ye], .int .i64 x, .int .i64 y] W fun en w' => en = .returned (.int .i64 0) ∧ Fr (fun _ => False) W w' := by
  have G0 := Lib.hid (fun A t => (Grown.refl W).alloc A t)
  cases A
  · clear h CX CY
    go_enter Try.func30, Try.ntmps30
    go_wp2_with fail
    refine (CE.out _).mono ?_
    rintro en w1 ⟨rfl, g1⟩
    have F1 := Lib.hid (Fr.of_grown (fun _ => False) (grown_trans (G0.out _ _) g1))
    clear g1 CE G0
    go_wp2_with fail
    go_ret
    exact ⟨rfl, F1.out⟩
  · cases B
    · clear h CY
      go_enter Try.func30, Try.ntmps30
      go_wp2_with fail
      refine (CE.out _).mono ?_
      rintro en w1 ⟨rfl, g1⟩
      have F1 := Lib.hid (Fr.of_grown (fun _ => False) (grown_trans (G0.out _ _) g1))
      clear g1 CE G0
      go_wp2_with fail
      refine (CX.out _).mono ?_
      rintro en w2 ⟨rfl, rfl⟩
      go_wp2_with fail
      go_ret
      exact ⟨rfl, F1.out⟩
    · cases C
      · clear h
        go_enter Try.func30, Try.ntmps30
        go_wp2_with fail
        refine (CE.out _).mono ?_
        rintro en w1 ⟨rfl, g1⟩
        have F1 := Lib.hid (Fr.of_grown (fun _ => False) (grown_trans (G0.out _ _) g1))
        clear g1 CE G0
        go_wp2_with fail
        refine (CX.out _).mono ?_
        rintro en w2 ⟨rfl, rfl⟩
        go_wp2_with fail
        refine (CY.out _).mono ?_
        rintro en w2 ⟨rfl, rfl⟩
        go_wp2_with fail
        go_ret
        exact ⟨rfl, F1.out⟩
      · exact absurd ⟨rfl, rfl, rfl⟩ h
theorem turns26_any (e : Pl.Ed) (x y : Int) (W : World) :
    Calls Try.prog 30 #[edv e, .int .i64 x, .int .i64 y] W fun en w' => en = .returned (.int .i64 (Pl.turns e x y)) ∧ Fr (fun _ => False) W w' := by
  have CE := fun Z => isedge25_any e Z
  have CX := fun Z => coord24_any x Z
  have CY := fun Z => coord24_any y Z
  unfold Pl.turns
  by_cases h : e.may ∧ Pl.crd x ∧ Pl.crd y
  · obtain ⟨he, hx, hy⟩ := id h
    rw [if_pos h]
    rw [decide_eq_true he] at CE
    rw [decide_eq_true hx] at CX
    rw [decide_eq_true hy] at CY
    have CH := fun Z => hits26_any e y he hy Z
    have hl := Pl.nz_len (Pl.spots e y)
    have ho := Pl.nz_ok e he y hy
    rw [← Pl.sumC_nz]
    obtain ⟨x0, y0, bb, cx, cy, xe, ye⟩ := e
    exact turns26_in x0 y0 bb cx cy xe ye x y _ hl ho hx (Lib.hid CE) (Lib.hid CX) (Lib.hid CY) (Lib.hid CH) W
  · rw [if_neg h]
    obtain ⟨x0, y0, bb, cx, cy, xe, ye⟩ := e
    exact turns26_out x0 y0 bb cx cy xe ye x y _ _ _ (fun k => h ⟨by simpa using k.1, by simpa using k.2.1, by simpa using k.2.2⟩) (Lib.hid CE) (Lib.hid CX) (Lib.hid CY) W
end Go.Proofs.Ytnienpalbfgflaa
