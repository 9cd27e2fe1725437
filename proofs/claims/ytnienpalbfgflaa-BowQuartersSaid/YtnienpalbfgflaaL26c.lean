/- BowChord: the walk. -/
import Derived.Test.YtnienpalbfgflaaBW14
import Derived.Deep.RegionHeld3
namespace Go.Proofs.Ytnienpalbfgflaa
set_option linter.unusedVariables false
open Go.RowKit

theorem Pl.turns_of {e : Pl.Ed} {x y : Int} (he : e.may) (hx : Pl.crd x) (hy : Pl.crd y) : Pl.turns e x y = Pl.tot (Pl.spots e y) x := by
  unfold Pl.turns
  rw [if_pos ⟨he, hx, hy⟩]
def Pl.chordE (e : Pl.Ed) : Pl.Ed := ⟨e.x0, e.y0, false, 0, 0, e.x1, e.y1⟩
theorem Pl.line_straight (e : Pl.Ed) (he : e.b = false) (y n : Int) : (Pl.line e y n).length ≤ 1 := by
  unfold Pl.line
  split
  · unfold Pl.spots
    rw [if_neg (by rw [he]; decide)]
    have : Pl.crosses Pl.Sp.z n = [] := by unfold Pl.crosses; exact if_pos rfl
    simp only [this, List.append_nil]
    unfold Pl.crosses
    split <;> simp
  · simp
/-- far to the left, by numbers -/
theorem Pl.edge_left (N : List Int) (v : Int) (hv : Pl.crd v) : Pl.turns (Pl.edge N) (-40) v = Pl.chordT (Pl.edge N).y0 (Pl.edge N).y1 v ∧ Pl.turns (Pl.chordE (Pl.edge N)) (-40) v = Pl.chordT (Pl.edge N).y0 (Pl.edge N).y1 v := by
  obtain ⟨a, b, c, d, e, f, g⟩ := Pl.edge_bd N
  have hm : (Pl.chordE (Pl.edge N)).may := by
    unfold Pl.chordE Pl.Ed.may Pl.crd
    exact ⟨by simp only; omega, by simp only; omega, by simp only; omega, by simp only; omega, by simp only; omega, by simp only; omega, .inr ⟨rfl, rfl⟩⟩
  constructor
  · rw [Pl.turns_of (Pl.edge_may N) (by unfold Pl.crd; omega) hv]
    exact Pl.tot_left _ _ _ (by omega) (by omega) (fun _ => by omega)
  · rw [Pl.turns_of hm (by unfold Pl.crd; omega) hv]
    exact Pl.tot_left _ _ _ (by show _ < (Pl.edge N).x0; omega) (by show _ < (Pl.edge N).x1; omega) (fun h => by cases h)
set_option maxHeartbeats 8000000 in
set_option maxRecDepth 100000 in
theorem walk_BowChord (nv : Value) (N : List Int) (y : Int) (w : World) (hn : RdI nv N w) :
    Calls Try.prog 5 #[nv, .int .i64 y] w fun en w' => en = .returned (.bool true) ∧ Kept w w' := by
  have KN := Lib.hid (fun Z => known26 Z)
  have HN := Lib.hid hn
  obtain ⟨ao, cap, rfl, hcap, _⟩ := hn
  obtain ⟨M, hM⟩ : ∃ M, M = N.length := ⟨_, rfl⟩
  rw [← hM] at hcap HN ⊢
  clear hM
  have CE := Lib.hid (fun Z p h => edge_any w Z p N h)
  have CP320 := Lib.hid (fun v Z => place_any v 320 (by omega) (by omega) Z)
  obtain ⟨gy, hgy⟩ : ∃ r, r = y % 320 := ⟨_, rfl⟩
  have bgy : 0 ≤ gy ∧ gy < 320 := by rw [hgy]; exact ⟨Int.emod_nonneg _ (by omega), Int.emod_lt_of_pos _ (by omega)⟩
  have Hgy : Hid (y % 320 = gy) := Lib.hid hgy.symm
  clear hgy
  have hv : Pl.crd (gy - 32) := by unfold Pl.crd; omega
  obtain ⟨hl1, hl2⟩ := Pl.edge_left N (gy - 32) hv
  have hll := Pl.line_straight (Pl.chordE (Pl.edge N)) rfl (gy - 32) 9
  obtain ⟨f, hf⟩ : ∃ f, f = Pl.edge N := ⟨_, rfl⟩
  rw [← hf] at CE hl1 hl2 hll
  clear hf hv
  obtain ⟨T, hT⟩ : ∃ T, T = Pl.chordT f.y0 f.y1 (gy - 32) := ⟨_, rfl⟩
  rw [← hT] at hl1 hl2
  clear hT
  have K1 := Lib.hid (fun Z => turns_fr f (-40) (gy - 32) Z)
  have K2 := Lib.hid (fun Z => turns_fr (Pl.chordE f) (-40) (gy - 32) Z)
  have K3 := Lib.hid (fun Z => line_rd (Pl.chordE f) (gy - 32) 9 Z)
  rw [hl1] at K1
  rw [hl2] at K2
  obtain ⟨X, hX⟩ : ∃ X, X = Pl.line (Pl.chordE f) (gy - 32) 9 := ⟨_, rfl⟩
  rw [← hX] at K3 hll
  obtain ⟨k, hk⟩ : ∃ k, k = X.length := ⟨_, rfl⟩
  have hkd : decide ((k : Int) ≤ 1) = true := decide_eq_true (by omega)
  have HK := Lib.hid hk
  obtain ⟨x00, y00, b0, cx0, cy0, x10, y10⟩ := f
  simp only [edv, Pl.chordE] at CE K1 K2 K3
  clear hl1 hl2 hll hX hk
  go_enter Try.func5, Try.ntmps5
  go_wp2_with fail
  refine (KN.out _).mono ?_
  rintro en w1 ⟨rfl, f1⟩
  have F1 := Lib.hid f1
  clear f1 KN
  go_wp2_with fail
  refine (CE.out _ _ (LN.new HN.out F1.out 29)).mono ?_
  rintro en w2 ⟨rfl, n2, _⟩
  have F2 := Lib.hid n2.fr
  clear n2 CE
  go_wp2_with fail
  refine (CP320.out _ _).mono ?_
  rintro en w3 ⟨rfl, rfl⟩
  rw [Hgy.out]
  go_wp2_with fail
  obtain ⟨p, hp⟩ : ∃ p, p = w2.heap.size := ⟨_, rfl⟩
  obtain ⟨q, hq⟩ : ∃ q, q = w2.heap.size + 1 := ⟨_, rfl⟩
  have HS : Hid (Two w p q x00 y00 b0 cx0 cy0 x10 y10 x00 y00 false 0 0 x10 y10 ((w2.alloc (.cells #[.int .i64 x00, .int .i64 y00, .bool b0, .int .i64 cx0, .int .i64 cy0, .int .i64 x10, .int .i64 y10] 25)).alloc (.cells #[.int .i64 x00, .int .i64 y00, .bool false, .int .i64 0, .int .i64 0, .int .i64 x10, .int .i64 y10] 25))) := Lib.hid (by
    obtain ⟨a0, a1, a2, a3, a4, a5, a6⟩ := ((Blk.new (W := w) (Z := w2) #[.int .i64 x00, .int .i64 y00, .bool b0, .int .i64 cx0, .int .i64 cy0, .int .i64 x10, .int .i64 y10] 25 F2.out.2.2.1).alloc #[.int .i64 x00, .int .i64 y00, .bool false, .int .i64 0, .int .i64 0, .int .i64 x10, .int .i64 y10] 25).at0
    obtain ⟨d0, d1, d2, d3, d4, d5, d6⟩ := (Blk.new (W := w) (Z := w2.alloc (.cells #[.int .i64 x00, .int .i64 y00, .bool b0, .int .i64 cx0, .int .i64 cy0, .int .i64 x10, .int .i64 y10] 25)) #[.int .i64 x00, .int .i64 y00, .bool false, .int .i64 0, .int .i64 0, .int .i64 x10, .int .i64 y10] 25 (Nat.le_trans F2.out.2.2.1 (by simp))).at0
    rw [show (w2.alloc (Obj.cells #[.int .i64 x00, .int .i64 y00, .bool b0, .int .i64 cx0, .int .i64 cy0, .int .i64 x10, .int .i64 y10] 25)).heap.size = w2.heap.size + 1 by simp] at d0 d1 d2 d3 d4 d5 d6
    rw [hp, hq]
    exact ⟨a0, a1, a2, a3, a4, a5, a6, d0, d1, d2, d3, d4, d5, d6, (F2.out.trans (Fr.alloc _ _ _)).trans (Fr.alloc _ _ _)⟩)
  rw [← hq, ← hp]
  clear hp hq F2 CP320 Hgy HN F1
  have L1 := Lib.hid (fun Z (h : Two w p q x00 y00 b0 cx0 cy0 x10 y10 x00 y00 false 0 0 x10 y10 Z) => (K1.out Z).mono fun en w' hh => (⟨hh.1, h.fr hh.2⟩ : _ ∧ Two w p q x00 y00 b0 cx0 cy0 x10 y10 x00 y00 false 0 0 x10 y10 w'))
  have L2 := Lib.hid (fun Z (h : Two w p q x00 y00 b0 cx0 cy0 x10 y10 x00 y00 false 0 0 x10 y10 Z) => (K2.out Z).mono fun en w' hh => (⟨hh.1, h.fr hh.2⟩ : _ ∧ Two w p q x00 y00 b0 cx0 cy0 x10 y10 x00 y00 false 0 0 x10 y10 w'))
  have L3 := Lib.hid (fun Z (h : Two w p q x00 y00 b0 cx0 cy0 x10 y10 x00 y00 false 0 0 x10 y10 Z) => (K3.out Z).mono fun en w' hh => (by
    obtain ⟨v, h1, ⟨ao, cap, h2, _⟩, h3⟩ := hh
    rw [← HK.out] at h2
    exact ⟨ao, cap, by rw [h1, h2], h.fr h3⟩ : ∃ ao cap, en = .returned (.slice ao k cap) ∧ Two w p q x00 y00 b0 cx0 cy0 x10 y10 x00 y00 false 0 0 x10 y10 w'))
  clear K1 K2 K3
  go_region_held3 (fun Z => Z.cell? ⟨p, 0, none⟩ = some (.int .i64 x00) ∧ Z.cell? ⟨p, 1, none⟩ = some (.int .i64 y00) ∧ Z.cell? ⟨p, 2, none⟩ = some (.bool b0) ∧ Z.cell? ⟨p, 3, none⟩ = some (.int .i64 cx0) ∧ Z.cell? ⟨p, 4, none⟩ = some (.int .i64 cy0) ∧ Z.cell? ⟨p, 5, none⟩ = some (.int .i64 x10) ∧ Z.cell? ⟨p, 6, none⟩ = some (.int .i64 y10) ∧ Z.cell? ⟨q, 0, none⟩ = some (.int .i64 x00) ∧ Z.cell? ⟨q, 1, none⟩ = some (.int .i64 y00) ∧ Z.cell? ⟨q, 2, none⟩ = some (.bool false) ∧ Z.cell? ⟨q, 3, none⟩ = some (.int .i64 0) ∧ Z.cell? ⟨q, 4, none⟩ = some (.int .i64 0) ∧ Z.cell? ⟨q, 5, none⟩ = some (.int .i64 x10) ∧ Z.cell? ⟨q, 6, none⟩ = some (.int .i64 y10) ∧ Fr (fun _ => False) w Z)
    (first | assumption | exact HS.out.fr ((Fr.refl (fun _ => False) _).drew))
    (first
      | (go_at_call 19; first | (with_reducible refine Calls.mono (L1.out _ ?_) ?_; (assumption); rintro e w' ⟨rfl, hS⟩) | (with_reducible refine Calls.mono (L2.out _ ?_) ?_; (assumption); rintro e w' ⟨rfl, hS⟩))
      | (go_at_call 16; first | (with_reducible refine Calls.mono (L3.out _ ?_) ?_; (assumption); rintro e w' ⟨ao, cap, rfl, hS⟩)))
  all_goals
    go_wp2_with fail
    go_ret
    exact ⟨rfl, Kept.of_fr (‹Two w p q x00 y00 b0 cx0 cy0 x10 y10 x00 y00 false 0 0 x10 y10 _›).2.2.2.2.2.2.2.2.2.2.2.2.2.2⟩
theorem law_BowChord (v0 : Value) (N : List Int) (y : Int) (w : World) (h0 : RdI v0 N w ∧ N.length ≤ maxLen) (_ : (Lit.int .i64 y).wf = true) :
    Calls Try.prog 5 #[v0, .int .i64 y] w fun en w' => en = .returned (.bool true) ∧ Kept w w' := walk_BowChord v0 N y w h0.1
end Go.Proofs.Ytnienpalbfgflaa
