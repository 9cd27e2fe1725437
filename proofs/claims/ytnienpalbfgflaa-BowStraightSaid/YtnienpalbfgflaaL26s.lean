/- BowStraight: the walk. -/
import Derived.Test.YtnienpalbfgflaaL26r
import Derived.Deep.RegionHeld3
namespace Go.Proofs.Ytnienpalbfgflaa
set_option linter.unusedVariables false
open Go.RowKit

theorem Pl.line_el (e : Pl.Ed) (v n : Int) : (Pl.line e v n).length ≤ 2 ∧ ∀ c ∈ Pl.line e v n, (c.1 = 1 ∨ c.1 = -1) ∧ 0 ≤ c.2 ∧ c.2 ≤ max 0 n := by
  have hc : ∀ s : Pl.Sp, s.ok → (Pl.crosses s n).length ≤ 1 ∧ ∀ c ∈ Pl.crosses s n, (c.1 = 1 ∨ c.1 = -1) ∧ 0 ≤ c.2 ∧ c.2 ≤ max 0 n := fun s hs => by
    unfold Pl.crosses
    by_cases h : s.t = 0
    · rw [if_pos h]; exact ⟨by simp, fun c hc => by simp at hc⟩
    · rw [if_neg h]
      refine ⟨by simp, fun c hc => ?_⟩
      simp at hc
      subst hc
      refine ⟨(hs.resolve_left h).1, ?_, ?_⟩
      · show 0 ≤ Pl.crossK s n
        unfold Pl.crossK
        omega
      · show Pl.crossK s n ≤ _
        unfold Pl.crossK
        omega
  unfold Pl.line
  by_cases h : e.may ∧ Pl.crd v ∧ 0 ≤ n ∧ n ≤ 64
  · rw [if_pos h]
    obtain ⟨o1, o2⟩ := Pl.spots_ok e h.1 v h.2.1
    have h1 := hc _ o1
    have h2 := hc _ o2
    refine ⟨by rw [List.length_append]; omega, fun c hm => ?_⟩
    rcases List.mem_append.1 hm with hm | hm
    · exact h1.2 c hm
    · exact h2.2 c hm
  · rw [if_neg h]
    exact ⟨by simp, fun c hc => by simp at hc⟩
theorem Pl.wt_take (L : List (Int × Int)) (j : Nat) (c : Int × Int) (h : L[j]? = some c) : Pl.wt (L.take (j + 1)) = Pl.wt (L.take j) + c.1 * (1 + c.2) := by
  rw [List.take_add_one, h, Pl.wt_append]
  congr 1
  unfold Pl.wt
  simp
set_option maxHeartbeats 8000000 in
set_option maxRecDepth 100000 in
theorem walk_BowStraight (nv : Value) (N : List Int) (k x y : Int) (w : World) (hn : RdI nv N w) :
    Calls Try.prog 6 #[nv, .int .i64 k, .int .i64 x, .int .i64 y] w fun en w' => en = .returned (.bool true) ∧ Kept w w' := by
  have KN := Lib.hid (fun Z => known26 Z)
  have HN := Lib.hid hn
  obtain ⟨ao, cap, rfl, hcap, _⟩ := hn
  obtain ⟨M, hM⟩ : ∃ M, M = N.length := ⟨_, rfl⟩
  rw [← hM] at hcap HN ⊢
  clear hM
  have CP9 := Lib.hid (fun v Z => place_any v 9 (by omega) (by omega) Z)
  have CP320 := Lib.hid (fun v Z => place_any v 320 (by omega) (by omega) Z)
  obtain ⟨gk, hgk⟩ : ∃ r, r = k % 9 := ⟨_, rfl⟩
  have bgk : 0 ≤ gk ∧ gk < 9 := by rw [hgk]; exact ⟨Int.emod_nonneg _ (by omega), Int.emod_lt_of_pos _ (by omega)⟩
  have Hgk : Hid (k % 9 = gk) := Lib.hid hgk.symm
  clear hgk
  obtain ⟨gx, hgx⟩ : ∃ r, r = x % 320 := ⟨_, rfl⟩
  have bgx : 0 ≤ gx ∧ gx < 320 := by rw [hgx]; exact ⟨Int.emod_nonneg _ (by omega), Int.emod_lt_of_pos _ (by omega)⟩
  have Hgx : Hid (x % 320 = gx) := Lib.hid hgx.symm
  clear hgx
  obtain ⟨gy, hgy⟩ : ∃ r, r = y % 320 := ⟨_, rfl⟩
  have bgy : 0 ≤ gy ∧ gy < 320 := by rw [hgy]; exact ⟨Int.emod_nonneg _ (by omega), Int.emod_lt_of_pos _ (by omega)⟩
  have Hgy : Hid (y % 320 = gy) := Lib.hid hgy.symm
  clear hgy
  go_enter Try.func6, Try.ntmps6
  go_wp2_with fail
  refine (KN.out _).mono ?_
  rintro en w1 ⟨rfl, f1⟩
  have F1 := Lib.hid f1
  clear f1 KN
  go_wp2_with fail
  obtain ⟨p, hp⟩ : ∃ p, p = w1.heap.size := ⟨_, rfl⟩
  have N0 : Hid (LN w p N (w1.alloc (.cells #[.slice ao M cap] 29))) := Lib.hid (by rw [hp]; exact LN.new HN.out F1.out 29)
  rw [← hp]
  clear hp F1 HN
  have bb := Pl.nxt_bd N 41 (by omega)
  have bc := Pl.nxt_bd N.tail 41 (by omega)
  have C0 := Lib.hid (next_any w _ p N 41 (by omega) (by omega) N0.out)
  obtain ⟨rx, hrx⟩ : ∃ r, r = Pl.nxt N 41 := ⟨_, rfl⟩
  rw [← hrx] at C0 bb
  clear hrx
  refine (C0.out).mono ?_
  rintro en w2 ⟨rfl, n2, _⟩
  have N2 := Lib.hid n2
  clear n2 C0 N0
  go_wp2_with fail
  have C1 := Lib.hid (next_any w _ p N.tail 41 (by omega) (by omega) N2.out)
  obtain ⟨ry, hry⟩ : ∃ r, r = Pl.nxt N.tail 41 := ⟨_, rfl⟩
  rw [← hry] at C1 bc
  clear hry
  refine (C1.out).mono ?_
  rintro en w3 ⟨rfl, n3, _⟩
  have N3 := Lib.hid n3
  clear n3 C1 N2
  obtain ⟨dx, hdx⟩ : ∃ d, d = rx - 20 := ⟨_, rfl⟩
  obtain ⟨dy, hdy⟩ : ∃ d, d = ry - 20 := ⟨_, rfl⟩
  have hdx' : rx - 20 = dx := hdx.symm
  have hdy' : ry - 20 = dy := hdy.symm
  have bdx1 : -20 ≤ dx := by omega
  have bdx2 : dx ≤ 20 := by omega
  have bdy1 : -20 ≤ dy := by omega
  have bdy2 : dy ≤ 20 := by omega
  clear hdx hdy
  go_wp2_with fail
  refine (CP9.out _ _).mono ?_
  rintro en w4 ⟨rfl, rfl⟩
  rw [Hgk.out]
  go_wp2_with fail
  have C2 := Lib.hid (coord_any w _ p _ N3.out)
  have b2 := Pl.nxt_bd N.tail.tail 320 (by omega)
  obtain ⟨x0, hx0⟩ : ∃ r, r = Pl.nxt N.tail.tail 320 - 32 := ⟨_, rfl⟩
  rw [← hx0] at C2
  have bx0 : -32 ≤ x0 ∧ x0 ≤ 287 := by omega
  clear b2 hx0
  refine (C2.out).mono ?_
  rintro en w5 ⟨rfl, n5, _⟩
  have N5 := Lib.hid n5
  clear n5 C2 N3
  go_wp2_with fail
  have C3 := Lib.hid (coord_any w _ p _ N5.out)
  have b3 := Pl.nxt_bd N.tail.tail.tail 320 (by omega)
  obtain ⟨y0, hy0⟩ : ∃ r, r = Pl.nxt N.tail.tail.tail 320 - 32 := ⟨_, rfl⟩
  rw [← hy0] at C3
  have by0 : -32 ≤ y0 ∧ y0 ≤ 287 := by omega
  clear b3 hy0
  refine (C3.out).mono ?_
  rintro en w6 ⟨rfl, n6, _⟩
  have F6 := Lib.hid n6.fr
  clear n6 C3 N5
  obtain ⟨mx, hmx⟩ : ∃ m, gk * dx = m := ⟨_, rfl⟩
  obtain ⟨my, hmy⟩ : ∃ m, gk * dy = m := ⟨_, rfl⟩
  have bmx := Pl.bd_mul 9 20 (show -9 ≤ gk ∧ gk ≤ 9 by omega) (show -20 ≤ dx ∧ dx ≤ 20 by omega)
  have bmy := Pl.bd_mul 9 20 (show -9 ≤ gk ∧ gk ≤ 9 by omega) (show -20 ≤ dy ∧ dy ≤ 20 by omega)
  rw [hmx] at bmx
  rw [hmy] at bmy
  go_wp2_with fail
  obtain ⟨q, hq⟩ : ∃ q, q = w6.heap.size := ⟨_, rfl⟩
  obtain ⟨r, hr⟩ : ∃ r, r = w6.heap.size + 1 := ⟨_, rfl⟩
  generalize hZ : (w6.alloc (.cells #[.int .i64 x0, .int .i64 y0, .bool false, .int .i64 0, .int .i64 0, .int .i64 (x0 + 8 * dx), .int .i64 (y0 + 8 * dy)] 25)).alloc (.cells #[.int .i64 x0, .int .i64 y0, .bool false, .int .i64 0, .int .i64 0, .int .i64 (x0 + 8 * dx), .int .i64 (y0 + 8 * dy)] 25) = Z
  have B0 : Hid (Blk w q [.int .i64 x0, .int .i64 y0, .bool false, .int .i64 0, .int .i64 0, .int .i64 (x0 + 8 * dx), .int .i64 (y0 + 8 * dy)] Z) := Lib.hid (by rw [hq, ← hZ]; exact (Blk.new (W := w) (Z := w6) #[.int .i64 x0, .int .i64 y0, .bool false, .int .i64 0, .int .i64 0, .int .i64 (x0 + 8 * dx), .int .i64 (y0 + 8 * dy)] 25 F6.out.2.2.1).alloc #[.int .i64 x0, .int .i64 y0, .bool false, .int .i64 0, .int .i64 0, .int .i64 (x0 + 8 * dx), .int .i64 (y0 + 8 * dy)] 25)
  have B1 : Hid (Blk w r [.int .i64 x0, .int .i64 y0, .bool false, .int .i64 0, .int .i64 0, .int .i64 (x0 + 8 * dx), .int .i64 (y0 + 8 * dy)] Z) := Lib.hid (by
    have := Blk.new (W := w) (Z := w6.alloc (.cells #[.int .i64 x0, .int .i64 y0, .bool false, .int .i64 0, .int .i64 0, .int .i64 (x0 + 8 * dx), .int .i64 (y0 + 8 * dy)] 25)) #[.int .i64 x0, .int .i64 y0, .bool false, .int .i64 0, .int .i64 0, .int .i64 (x0 + 8 * dx), .int .i64 (y0 + 8 * dy)] 25 (Nat.le_trans F6.out.2.2.1 (by simp))
    rw [show (w6.alloc (.cells #[.int .i64 x0, .int .i64 y0, .bool false, .int .i64 0, .int .i64 0, .int .i64 (x0 + 8 * dx), .int .i64 (y0 + 8 * dy)] 25)).heap.size = w6.heap.size + 1 by simp] at this
    rw [hr, ← hZ]; exact this)
  have FZ : Hid (Fr (fun _ => False) w Z) := Lib.hid (by rw [← hZ]; exact (F6.out.trans (Fr.alloc _ _ _)).trans (Fr.alloc _ _ _))
  have hne : q ≠ r := by omega
  have hne2 : r ≠ q := by omega
  rw [← hr, ← hq]
  clear hZ hq hr F6
  obtain ⟨a0, a1, a2, a3, a4, a5, a6⟩ := B0.out.at0
  obtain ⟨e0, e1, e2, e3, e4, e5, e6⟩ := B1.out.at0
  have fz := B1.out.2.2.2
  go_region_held3 (fun W => W.cell? ⟨q, 0, none⟩ = some (.int .i64 x0) ∧ W.cell? ⟨q, 1, none⟩ = some (.int .i64 y0))
    (first | assumption | simp [*, World.cell?_setCell_far])
    (fail)
  all_goals
    go_wp2_with fail
    generalize hZ2 : World.setCell _ _ _ = Z2
    have D0 : Hid (Blk w q [.int .i64 x0, .int .i64 y0, .bool false, .int .i64 0, .int .i64 0, .int .i64 (x0 + 8 * dx), .int .i64 (y0 + 8 * dy)] Z2) := Lib.hid (by rw [← hZ2]; exact ((B0.out.other hne _).other hne _).other hne _)
    have D1 : Hid (Blk w r [.int .i64 x0, .int .i64 y0, .bool true, .int .i64 (x0 + mx), .int .i64 (y0 + my), .int .i64 (x0 + 8 * dx), .int .i64 (y0 + 8 * dy)] Z2) := Lib.hid (by rw [← hZ2]; exact ((B1.out.set 2 (by simp) _).set 3 (by simp) _).set 4 (by simp) _)
    have FZ2 : Hid (Fr (fun _ => False) w Z2) := Lib.hid (by rw [← hZ2]; exact ((FZ.out.setNew B1.out.1 _).setNew B1.out.1 _).setNew B1.out.1 _)
    clear hZ2 B0 B1 FZ a0 a1 a2 a3 a4 a5 a6 e0 e1 e2 e3 e4 e5 e6 fz
    refine (CP320.out _ _).mono ?_
    rintro en w7 ⟨rfl, rfl⟩
    rw [Hgx.out]
    go_wp2_with fail
    refine (CP320.out _ _).mono ?_
    rintro en w7 ⟨rfl, rfl⟩
    rw [Hgy.out]
    go_wp2_with fail
    have HS : Hid (Two w r q x0 y0 true (x0 + mx) (y0 + my) (x0 + 8 * dx) (y0 + 8 * dy) x0 y0 false 0 0 (x0 + 8 * dx) (y0 + 8 * dy) Z2) := Lib.hid (by
      obtain ⟨a0, a1, a2, a3, a4, a5, a6⟩ := D1.out.at0
      obtain ⟨c0, c1, c2, c3, c4, c5, c6⟩ := D0.out.at0
      exact ⟨a0, a1, a2, a3, a4, a5, a6, c0, c1, c2, c3, c4, c5, c6, FZ2.out⟩)
    clear D0 D1 FZ2 CP320 CP9 Hgx Hgy Hgk
    obtain ⟨col1, col2⟩ := Pl.col_law x0 y0 dx dy gk (gx - 32) (gy - 32) 20 (by omega)
    rw [hmx, hmy] at col1 col2
    have me : Pl.Ed.may ⟨x0, y0, true, x0 + mx, y0 + my, x0 + 8 * dx, y0 + 8 * dy⟩ := by
      unfold Pl.Ed.may Pl.crd
      exact ⟨by simp only; omega, by simp only; omega, by simp only; omega, by simp only; omega, by simp only; omega, by simp only; omega, .inl rfl⟩
    have mc : Pl.Ed.may ⟨x0, y0, false, 0, 0, x0 + 8 * dx, y0 + 8 * dy⟩ := by
      unfold Pl.Ed.may Pl.crd
      exact ⟨by simp only; omega, by simp only; omega, by simp only; omega, by simp only; omega, by simp only; omega, by simp only; omega, .inr ⟨rfl, rfl⟩⟩
    have hcx : Pl.crd (gx - 32) := by unfold Pl.crd; omega
    have hcy : Pl.crd (gy - 32) := by unfold Pl.crd; omega
    obtain ⟨A, hA⟩ : ∃ A, A = Pl.line ⟨x0, y0, true, x0 + mx, y0 + my, x0 + 8 * dx, y0 + 8 * dy⟩ (gy - 32) 20 := ⟨_, rfl⟩
    obtain ⟨B, hB⟩ : ∃ B, B = Pl.line ⟨x0, y0, false, 0, 0, x0 + 8 * dx, y0 + 8 * dy⟩ (gy - 32) 20 := ⟨_, rfl⟩
    have HAB : Hid (Pl.wt A = Pl.wt B) := Lib.hid (by
      rw [hA, hB]
      unfold Pl.line
      rw [if_pos ⟨me, hcy, by omega, by omega⟩, if_pos ⟨mc, hcy, by omega, by omega⟩, Pl.wt_append, Pl.wt_append]
      exact col2)
    have HAE := Lib.hid (Pl.line_el ⟨x0, y0, true, x0 + mx, y0 + my, x0 + 8 * dx, y0 + 8 * dy⟩ (gy - 32) 20)
    have HBE := Lib.hid (Pl.line_el ⟨x0, y0, false, 0, 0, x0 + 8 * dx, y0 + 8 * dy⟩ (gy - 32) 20)
    have K1 := Lib.hid (fun Z => line_rd ⟨x0, y0, true, x0 + mx, y0 + my, x0 + 8 * dx, y0 + 8 * dy⟩ (gy - 32) 20 Z)
    have K2 := Lib.hid (fun Z => line_rd ⟨x0, y0, false, 0, 0, x0 + 8 * dx, y0 + 8 * dy⟩ (gy - 32) 20 Z)
    have K3 := Lib.hid (fun Z => turns_fr ⟨x0, y0, true, x0 + mx, y0 + my, x0 + 8 * dx, y0 + 8 * dy⟩ (gx - 32) (gy - 32) Z)
    have K4 := Lib.hid (fun Z => turns_fr ⟨x0, y0, false, 0, 0, x0 + 8 * dx, y0 + 8 * dy⟩ (gx - 32) (gy - 32) Z)
    rw [Pl.turns_of me hcx hcy, col1, ← Pl.turns_of mc hcx hcy] at K3
    obtain ⟨t, ht⟩ : ∃ t, t = Pl.turns ⟨x0, y0, false, 0, 0, x0 + 8 * dx, y0 + 8 * dy⟩ (gx - 32) (gy - 32) := ⟨_, rfl⟩
    rw [← ht] at K3 K4
    rw [← hA] at K1 HAE
    rw [← hB] at K2 HBE
    clear hA hB ht me mc col1 col2 hcx hcy
    simp only [edv] at K1 K2 K3 K4
    obtain ⟨ma, hma⟩ : ∃ m, m = A.length := ⟨_, rfl⟩
    obtain ⟨mb, hmb⟩ : ∃ m, m = B.length := ⟨_, rfl⟩
    have HMA := Lib.hid hma
    have HMB := Lib.hid hmb
    have hma2 : ma ≤ 2 := by rw [hma]; exact HAE.out.1
    have hmb2 : mb ≤ 2 := by rw [hmb]; exact HBE.out.1
    clear hma hmb
    have L1 := Lib.hid (fun Z (h : Two w r q x0 y0 true (x0 + mx) (y0 + my) (x0 + 8 * dx) (y0 + 8 * dy) x0 y0 false 0 0 (x0 + 8 * dx) (y0 + 8 * dy) Z) => (K1.out Z).mono fun en w' hh => (by
      obtain ⟨v, h1, h2, h3⟩ := hh
      obtain ⟨ao, cap, h4, _⟩ := id h2
      rw [← HMA.out] at h4
      rw [h4] at h1 h2
      exact ⟨ao, cap, h1, h2, h3, h.fr h3⟩ : ∃ ao cap, en = .returned (.slice ao ma cap) ∧ RdX (.slice ao ma cap) A w' ∧ Fr (fun _ => False) Z w' ∧ Two w r q x0 y0 true (x0 + mx) (y0 + my) (x0 + 8 * dx) (y0 + 8 * dy) x0 y0 false 0 0 (x0 + 8 * dx) (y0 + 8 * dy) w'))
    have L2 := Lib.hid (fun Z (h : Two w r q x0 y0 true (x0 + mx) (y0 + my) (x0 + 8 * dx) (y0 + 8 * dy) x0 y0 false 0 0 (x0 + 8 * dx) (y0 + 8 * dy) Z) => (K2.out Z).mono fun en w' hh => (by
      obtain ⟨v, h1, h2, h3⟩ := hh
      obtain ⟨ao, cap, h4, _⟩ := id h2
      rw [← HMB.out] at h4
      rw [h4] at h1 h2
      exact ⟨ao, cap, h1, h2, h3, h.fr h3⟩ : ∃ ao cap, en = .returned (.slice ao mb cap) ∧ RdX (.slice ao mb cap) B w' ∧ Fr (fun _ => False) Z w' ∧ Two w r q x0 y0 true (x0 + mx) (y0 + my) (x0 + 8 * dx) (y0 + 8 * dy) x0 y0 false 0 0 (x0 + 8 * dx) (y0 + 8 * dy) w'))
    clear K1 K2
    go_region_held3 (fun Z => Z.cell? ⟨r, 0, none⟩ = some (.int .i64 x0) ∧ Z.cell? ⟨r, 1, none⟩ = some (.int .i64 y0) ∧ Z.cell? ⟨r, 2, none⟩ = some (.bool true) ∧ Z.cell? ⟨r, 3, none⟩ = some (.int .i64 (x0 + mx)) ∧ Z.cell? ⟨r, 4, none⟩ = some (.int .i64 (y0 + my)) ∧ Z.cell? ⟨r, 5, none⟩ = some (.int .i64 (x0 + 8 * dx)) ∧ Z.cell? ⟨r, 6, none⟩ = some (.int .i64 (y0 + 8 * dy)) ∧ Z.cell? ⟨q, 0, none⟩ = some (.int .i64 x0) ∧ Z.cell? ⟨q, 1, none⟩ = some (.int .i64 y0) ∧ Z.cell? ⟨q, 2, none⟩ = some (.bool false) ∧ Z.cell? ⟨q, 3, none⟩ = some (.int .i64 0) ∧ Z.cell? ⟨q, 4, none⟩ = some (.int .i64 0) ∧ Z.cell? ⟨q, 5, none⟩ = some (.int .i64 (x0 + 8 * dx)) ∧ Z.cell? ⟨q, 6, none⟩ = some (.int .i64 (y0 + 8 * dy)) ∧ Fr (fun _ => False) w Z)
      (first | assumption | exact HS.out.fr ((Fr.refl (fun _ => False) _).drew))
      (first
        | (go_at_call 16; first | (with_reducible refine Calls.mono (L1.out _ ?_) ?_; (assumption); rintro e w' ⟨ao1, cap1, rfl, hr, hf, hS⟩) | (with_reducible refine Calls.mono (L2.out _ ?_) ?_; (assumption); rintro e w' ⟨ao2, cap2, rfl, hr, hf, hS⟩)))
    rename_i w8 hr8 hf8 hs8 hheld
    have RA := Lib.hid (hr8.fr0 hf)
    have RB := Lib.hid hr
    have HS5 := Lib.hid hS
    clear hr8 hr hf hf8 hs8 hS hheld L1 L2 HS
    go_wp2_with fail
    go_loopw [19, 20] (fun s i wr => ∃ (j : Nat) (n : Int), i = .int .i64 (j : Int) ∧ s = .int .i64 n ∧ j ≤ ma ∧ (-100 ≤ n ∧ n ≤ 100) ∧ Hid (n = Pl.wt (A.take j) ∧ -((j : Int) * 21) ≤ n ∧ n ≤ (j : Int) * 21) ∧ Hid (Fr (fun _ => False) w' wr)) (fun _ i _ => ((ma : Int) - intOf i).toNat)
    case atStart => exact ⟨0, 0, rfl, rfl, by omega, by omega, Lib.hid ⟨rfl, by omega, by omega⟩, Lib.hid (Fr.refl _ _)⟩
    case round =>
      obtain ⟨j, n, rfl, rfl, hj, ⟨hn1, hn2⟩, HN, HF⟩ := hrel
      by_cases hjm : j = ma
      · have HW : Hid (n = Pl.wt B) := Lib.hid (by
          have := HN.out.1
          rw [hjm, HMA.out, List.take_length, HAB.out] at this
          exact this)
        subst hjm
        have RB2 := Lib.hid (RB.out.fr0 HF.out)
        have HS6 := Lib.hid (HS5.out.fr HF.out)
        clear HS5 RA RB HN hj
        go_wp2_with fail
        go_loopw [19, 21] (fun s i wr2 => ∃ (k : Nat) (m : Int), i = .int .i64 (k : Int) ∧ s = .int .i64 m ∧ k ≤ mb ∧ (-200 ≤ m ∧ m ≤ 200) ∧ Hid (m = n - Pl.wt (B.take k) ∧ -100 - (k : Int) * 21 ≤ m ∧ m ≤ 100 + (k : Int) * 21) ∧ Hid (Fr (fun _ => False) wr wr2)) (fun _ i _ => ((mb : Int) - intOf i).toNat)
        case atStart => exact ⟨0, n, rfl, rfl, by omega, by omega, Lib.hid ⟨by show n = n - 0; omega, by omega, by omega⟩, Lib.hid (Fr.refl _ _)⟩
        case round =>
          obtain ⟨k, m, rfl, rfl, hk, ⟨hm1, hm2⟩, HM, HF2⟩ := hrel
          by_cases hkm : k = mb
          · have hm0 : m = 0 := by
              have := HM.out.1
              rw [hkm, HMB.out, List.take_length, ← HW.out] at this
              omega
            subst hm0
            subst hkm
            have HS7 := Lib.hid (HS6.out.fr HF2.out)
            clear HS6 RB2 HM hk
            have L3 := Lib.hid (fun Z (h : Two w r q x0 y0 true (x0 + mx) (y0 + my) (x0 + 8 * dx) (y0 + 8 * dy) x0 y0 false 0 0 (x0 + 8 * dx) (y0 + 8 * dy) Z) => (K3.out Z).mono fun en w' hh => (⟨hh.1, h.fr hh.2⟩ : _ ∧ Two w r q x0 y0 true (x0 + mx) (y0 + my) (x0 + 8 * dx) (y0 + 8 * dy) x0 y0 false 0 0 (x0 + 8 * dx) (y0 + 8 * dy) w'))
            have L4 := Lib.hid (fun Z (h : Two w r q x0 y0 true (x0 + mx) (y0 + my) (x0 + 8 * dx) (y0 + 8 * dy) x0 y0 false 0 0 (x0 + 8 * dx) (y0 + 8 * dy) Z) => (K4.out Z).mono fun en w' hh => (⟨hh.1, h.fr hh.2⟩ : _ ∧ Two w r q x0 y0 true (x0 + mx) (y0 + my) (x0 + 8 * dx) (y0 + 8 * dy) x0 y0 false 0 0 (x0 + 8 * dx) (y0 + 8 * dy) w'))
            go_wp2_with fail
            go_region_held3 (fun Z => Z.cell? ⟨r, 0, none⟩ = some (.int .i64 x0) ∧ Z.cell? ⟨r, 1, none⟩ = some (.int .i64 y0) ∧ Z.cell? ⟨r, 2, none⟩ = some (.bool true) ∧ Z.cell? ⟨r, 3, none⟩ = some (.int .i64 (x0 + mx)) ∧ Z.cell? ⟨r, 4, none⟩ = some (.int .i64 (y0 + my)) ∧ Z.cell? ⟨r, 5, none⟩ = some (.int .i64 (x0 + 8 * dx)) ∧ Z.cell? ⟨r, 6, none⟩ = some (.int .i64 (y0 + 8 * dy)) ∧ Z.cell? ⟨q, 0, none⟩ = some (.int .i64 x0) ∧ Z.cell? ⟨q, 1, none⟩ = some (.int .i64 y0) ∧ Z.cell? ⟨q, 2, none⟩ = some (.bool false) ∧ Z.cell? ⟨q, 3, none⟩ = some (.int .i64 0) ∧ Z.cell? ⟨q, 4, none⟩ = some (.int .i64 0) ∧ Z.cell? ⟨q, 5, none⟩ = some (.int .i64 (x0 + 8 * dx)) ∧ Z.cell? ⟨q, 6, none⟩ = some (.int .i64 (y0 + 8 * dy)) ∧ Fr (fun _ => False) w Z)
              (first | assumption | exact HS7.out.fr ((Fr.refl (fun _ => False) _).drew))
              (first
                | (go_at_call 19; first | (with_reducible refine Calls.mono (L3.out _ ?_) ?_; (assumption); rintro e w' ⟨rfl, hS⟩) | (with_reducible refine Calls.mono (L4.out _ ?_) ?_; (assumption); rintro e w' ⟨rfl, hS⟩)))
            all_goals
              go_wp2_with fail
              go_ret
              exact ⟨rfl, Kept.of_fr (‹Two w r q x0 y0 true (x0 + mx) (y0 + my) (x0 + 8 * dx) (y0 + 8 * dy) x0 y0 false 0 0 (x0 + 8 * dx) (y0 + 8 * dy) _›).2.2.2.2.2.2.2.2.2.2.2.2.2.2⟩
          · have hkI : (k : Int) < (mb : Int) := by omega
            have HK := Lib.hid (show k < mb by omega)
            obtain ⟨c, hc⟩ : ∃ c, B[k]? = some c := ⟨_, List.getElem?_eq_getElem (by have := HMB.out; omega)⟩
            obtain ⟨e3, e4, e5⟩ := HBE.out.2 c (List.mem_of_getElem? hc)
            obtain ⟨ab, cb, hvb, rb⟩ := RB2.out.fr0 HF2.out
            obtain ⟨gb, rfl, _, rb⟩ := rb.resolve_left (fun q => by rw [q] at hc; simp at hc)
            injection hvb with q2 _ _
            subst q2
            obtain ⟨rb0, rb1⟩ := rb k c hc
            have HW1 := Lib.hid (Pl.wt_take B k c hc)
            obtain ⟨ct, ck⟩ := c
            simp only at e3 e4 e5 rb0 rb1 HW1
            have e6 : ck ≤ 20 := by omega
            clear rb hc e5 hkm
            rcases e3 with rfl | rfl
            all_goals
              go_wp2_with fail
              go_quiet (fail)
              go_wp2_with fail
              refine ⟨?_, by simp only [intOf]; omega⟩
              repeat (refine Exists.intro (α := Value) _ ?_)
              first
                | exact ⟨k + 1, _, by simp, rfl, by have := HK.out; omega, by have := HM.out; have := HK.out; omega, Lib.hid ⟨by rw [HW1.out]; have := HM.out.1; omega, by have := HM.out; omega, by have := HM.out; omega⟩, Lib.hid HF2.out.drew⟩
                | (refine ⟨⟨k + 1, _, by simp, rfl, by have := HK.out; omega, by have := HM.out; have := HK.out; omega, Lib.hid ⟨by rw [HW1.out]; have := HM.out.1; omega, by have := HM.out; omega, by have := HM.out; omega⟩, Lib.hid HF2.out.drew⟩, ?_⟩
                   repeat (first | exact rfl | refine ⟨rfl, ?_⟩))
      · have hjI : (j : Int) < (ma : Int) := by omega
        have HJ := Lib.hid (show j < ma by omega)
        obtain ⟨c, hc⟩ : ∃ c, A[j]? = some c := ⟨_, List.getElem?_eq_getElem (by have := HMA.out; omega)⟩
        obtain ⟨e3, e4, e5⟩ := HAE.out.2 c (List.mem_of_getElem? hc)
        obtain ⟨ab, cb, hvb, rb⟩ := RA.out.fr0 HF.out
        obtain ⟨gb, rfl, _, rb⟩ := rb.resolve_left (fun q => by rw [q] at hc; simp at hc)
        injection hvb with q2 _ _
        subst q2
        obtain ⟨rb0, rb1⟩ := rb j c hc
        have HW1 := Lib.hid (Pl.wt_take A j c hc)
        obtain ⟨ct, ck⟩ := c
        simp only at e3 e4 e5 rb0 rb1 HW1
        have e6 : ck ≤ 20 := by omega
        clear rb hc e5 hjm
        rcases e3 with rfl | rfl
        all_goals
          go_wp2_with fail
          go_quiet (fail)
          go_wp2_with fail
          refine ⟨?_, by simp only [intOf]; omega⟩
          repeat (refine Exists.intro (α := Value) _ ?_)
          first
            | exact ⟨j + 1, _, by simp, rfl, by have := HJ.out; omega, by have := HN.out; have := HJ.out; omega, Lib.hid ⟨by rw [HW1.out]; have := HN.out.1; omega, by have := HN.out; omega, by have := HN.out; omega⟩, Lib.hid HF.out.drew⟩
            | (refine ⟨⟨j + 1, _, by simp, rfl, by have := HJ.out; omega, by have := HN.out; have := HJ.out; omega, Lib.hid ⟨by rw [HW1.out]; have := HN.out.1; omega, by have := HN.out; omega, by have := HN.out; omega⟩, Lib.hid HF.out.drew⟩, ?_⟩
               repeat (first | exact rfl | refine ⟨rfl, ?_⟩))
theorem law_BowStraight (v0 : Value) (N : List Int) (k x y : Int) (w : World) (h0 : RdI v0 N w ∧ N.length ≤ maxLen) (_ : (Lit.int .i64 k).wf = true) (_ : (Lit.int .i64 x).wf = true) (_ : (Lit.int .i64 y).wf = true) :
    Calls Try.prog 6 #[v0, .int .i64 k, .int .i64 x, .int .i64 y] w fun en w' => en = .returned (.bool true) ∧ Kept w w' := walk_BowStraight v0 N k x y w h0.1
end Go.Proofs.Ytnienpalbfgflaa
