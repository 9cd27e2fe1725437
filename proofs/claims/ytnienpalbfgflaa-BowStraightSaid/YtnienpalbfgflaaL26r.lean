/- BowRounds: the walk. -/
import Derived.Test.YtnienpalbfgflaaL26c
namespace Go.Proofs.Ytnienpalbfgflaa
set_option linter.unusedVariables false
open Go.RowKit

def Pl.ind (a v : Int) : Int := if a ≤ v then 1 else 0
theorem Pl.chord_ind (a b v : Int) : Pl.chordT a b v = Pl.ind a v - Pl.ind b v := by
  unfold Pl.chordT Pl.ind
  (repeat' split) <;> omega
theorem Pl.ind_bd (a v : Int) : 0 ≤ Pl.ind a v ∧ Pl.ind a v ≤ 1 := by
  unfold Pl.ind
  split <;> omega
/-- coordinates by numbers -/
def Pl.cn (v : Int) : Prop := -32 ≤ v ∧ v ≤ 287
theorem Pl.round_turns (x0 y0 : Int) (b : Bool) (cx cy x1 y1 v : Int) (h1 : Pl.cn x0) (h2 : Pl.cn y0) (h3 : Pl.cn cx) (h4 : Pl.cn cy) (h5 : Pl.cn x1) (h6 : Pl.cn y1) (h7 : b = true ∨ (cx = 0 ∧ cy = 0)) (hv : Pl.cn v) :
    Pl.turns ⟨x0, y0, b, cx, cy, x1, y1⟩ (-40) v = Pl.ind y0 v - Pl.ind y1 v ∧ Pl.turns ⟨x0, y0, b, cx, cy, x1, y1⟩ 400 v = 0 := by
  unfold Pl.cn at h1 h2 h3 h4 h5 h6 hv
  have hm : Pl.Ed.may ⟨x0, y0, b, cx, cy, x1, y1⟩ := by
    unfold Pl.Ed.may Pl.crd
    exact ⟨by simp only; omega, by simp only; omega, by simp only; omega, by simp only; omega, by simp only; omega, by simp only; omega, h7⟩
  constructor
  · rw [Pl.turns_of hm (by unfold Pl.crd; omega) (by unfold Pl.crd; omega), ← Pl.chord_ind]
    exact Pl.tot_left _ _ _ (by simp only; omega) (by simp only; omega) (fun _ => by simp only; omega)
  · rw [Pl.turns_of hm (by unfold Pl.crd; omega) (by unfold Pl.crd; omega)]
    exact Pl.tot_right _ _ _ (by simp only; omega) (by simp only; omega) (fun _ => by simp only; omega)
theorem Pl.co_cn (L : List Int) (i : Nat) : Pl.cn (Pl.co L i) := Pl.co_bd L i
theorem LN.cell {W Z : World} {p : Nat} {L : List Int} (h : LN W p L Z) : ∃ ao cap, Z.cell? ⟨p, 0, none⟩ = some (.slice ao L.length cap) := by
  obtain ⟨v, hb, ⟨ao, cap, rfl, _⟩, _⟩ := h
  exact ⟨ao, cap, hb.at 0 _ rfl⟩
theorem LN.frame {W Z Z' : World} {p : Nat} {L : List Int} (h : LN W p L Z) (g : Fr (fun _ => False) Z Z') : LN W p L Z' := by
  obtain ⟨v, hb, hr, hf⟩ := h
  exact ⟨v, hb.fr g (fun f => f), hr, hf.trans g⟩
set_option maxHeartbeats 8000000 in
set_option maxRecDepth 100000 in
theorem walk_BowRounds (nv : Value) (N : List Int) (y : Int) (w : World) (hn : RdI nv N w) :
    Calls Try.prog 4 #[nv, .int .i64 y] w fun en w' => en = .returned (.bool true) ∧ Kept w w' := by
  have KN := Lib.hid (fun Z => known26 Z)
  have HN := Lib.hid hn
  obtain ⟨ao, cap, rfl, hcap, _⟩ := hn
  obtain ⟨M, hM⟩ : ∃ M, M = N.length := ⟨_, rfl⟩
  rw [← hM] at hcap HN ⊢
  clear hM
  have CP320 := Lib.hid (fun v Z => place_any v 320 (by omega) (by omega) Z)
  obtain ⟨gy, hgy⟩ : ∃ r, r = y % 320 := ⟨_, rfl⟩
  have bgy : 0 ≤ gy ∧ gy < 320 := by rw [hgy]; exact ⟨Int.emod_nonneg _ (by omega), Int.emod_lt_of_pos _ (by omega)⟩
  have Hgy : Hid (y % 320 = gy) := Lib.hid hgy.symm
  clear hgy
  obtain ⟨v, hv⟩ : ∃ v, v = gy - 32 := ⟨_, rfl⟩
  have hv' : gy - 32 = v := hv.symm
  have bv1 : -32 ≤ v := by omega
  have bv2 : v ≤ 287 := by omega
  have HV : Hid (Pl.cn v) := Lib.hid ⟨bv1, bv2⟩
  clear hv
  go_enter Try.func4, Try.ntmps4
  go_wp2_with fail
  refine (KN.out _).mono ?_
  rintro en w1 ⟨rfl, f1⟩
  have F1 := Lib.hid f1
  clear f1 KN
  go_wp2_with fail
  refine (CP320.out _ _).mono ?_
  rintro en w3 ⟨rfl, rfl⟩
  rw [Hgy.out]
  obtain ⟨p, hp⟩ : ∃ p, p = w1.heap.size := ⟨_, rfl⟩
  have N0 : Hid (LN w p N (w1.alloc (.cells #[.slice ao M cap] 29))) := Lib.hid (by rw [hp]; exact LN.new HN.out F1.out 29)
  rw [← hp]
  clear hp CP320 Hgy F1 HN
  go_wp2_with fail
  have C0 := Lib.hid (coord_any w _ p N N0.out)
  rw [show Pl.nxt N 320 - 32 = Pl.co N 0 from rfl] at C0
  refine (C0.out).mono ?_
  rintro en w4 ⟨rfl, n4, _⟩
  have N4 := Lib.hid n4
  clear n4 C0 N0
  go_wp2_with fail
  have C1 := Lib.hid (coord_any w _ p N.tail N4.out)
  rw [show Pl.nxt N.tail 320 - 32 = Pl.co N 1 by unfold Pl.co; cases N <;> rfl] at C1
  refine (C1.out).mono ?_
  rintro en w5 ⟨rfl, n5, _⟩
  have N5 := Lib.hid n5
  clear n5 C1 N4
  obtain ⟨x0, hx0⟩ : ∃ x, x = Pl.co N 0 := ⟨_, rfl⟩
  obtain ⟨y0, hy0⟩ : ∃ x, x = Pl.co N 1 := ⟨_, rfl⟩
  have HX0 : Hid (Pl.cn x0) := Lib.hid (by rw [hx0]; exact Pl.co_cn N 0)
  have HY0 : Hid (Pl.cn y0) := Lib.hid (by rw [hy0]; exact Pl.co_cn N 1)
  rw [← hx0, ← hy0]
  clear hx0 hy0
  go_wp2_with fail
  go_loopw [9, 10, 11, 12, 13] (fun s9 s10 s11 s12 s13 wr => ∃ (px py l : Int) (i : Nat) (N' : List Int), s9 = .int .i64 px ∧ s10 = .int .i64 py ∧ s11 = .int .i64 l ∧ s12 = .int .i64 0 ∧ s13 = .int .i64 (i : Int) ∧ i ≤ 8 ∧ Hid (Pl.cn px ∧ Pl.cn py ∧ l = Pl.ind y0 v - Pl.ind py v ∧ (i = 8 → py = y0)) ∧ Hid (LN w p N' wr)) (fun _ _ _ _ s13 _ => (8 - intOf s13).toNat)
  case atStart => exact ⟨x0, y0, 0, 0, N.tail.tail, rfl, rfl, rfl, rfl, rfl, by omega, Lib.hid ⟨HX0.out, HY0.out, by omega, fun h => rfl⟩, N5⟩
  case round =>
    obtain ⟨px, py, l, i, N', rfl, rfl, rfl, rfl, rfl, hi, HR, HN'⟩ := hrel
    by_cases hi8 : i = 8
    · subst hi8
      have hl : l = 0 := by obtain ⟨_, _, h3, h4⟩ := HR.out; rw [h3, h4 rfl]; omega
      subst hl
      have HF := Lib.hid HN'.out.fr
      clear HR
      go_wp2_with fail
      go_ret
      exact ⟨rfl, Kept.of_fr HF.out⟩
    have hiI : (i : Int) < 8 := by omega
    have HI := Lib.hid (show i < 8 by omega)
    have bl : -1 ≤ l ∧ l ≤ 1 := by
      obtain ⟨_, _, h3, _⟩ := HR.out
      have := Pl.ind_bd y0 v
      have := Pl.ind_bd py v
      omega
    obtain ⟨bl1, bl2⟩ := bl
    have CE := Lib.hid (edge_any w wr p N' HN'.out)
    have eb := Pl.edge_bd N'
    obtain ⟨q1, q2, q3, q4, q5, q6, q7⟩ := eb
    have HQ : Hid (Pl.cn (Pl.edge N').cx ∧ Pl.cn (Pl.edge N').cy ∧ Pl.cn (Pl.edge N').x1 ∧ Pl.cn (Pl.edge N').y1 ∧ ((Pl.edge N').b = true ∨ ((Pl.edge N').cx = 0 ∧ (Pl.edge N').cy = 0))) := Lib.hid ⟨q3, q4, q5, q6, q7⟩
    clear q1 q2 q3 q4 q5 q6 q7 hi8
    obtain ⟨R, hR⟩ : ∃ R, R = Pl.rest N' := ⟨_, rfl⟩
    obtain ⟨E, hE⟩ : ∃ E, E = Pl.edge N' := ⟨_, rfl⟩
    rw [← hR, ← hE] at CE
    rw [← hE] at HQ
    clear hR hE
    obtain ⟨ex0, ey0, eb, ecx, ecy, ex1, ey1⟩ := E
    simp only [edv] at CE HQ
    go_wp2_with fail
    refine (CE.out).mono ?_
    rintro en w6 ⟨rfl, n6, _⟩
    have N6 := Lib.hid n6
    clear n6 CE
    obtain ⟨aoR, capR, cR⟩ := (N6.out.alloc #[.int .i64 px, .int .i64 py, .bool eb, .int .i64 ecx, .int .i64 ecy, .int .i64 ex1, .int .i64 ey1] 25).cell
    obtain ⟨k, hk⟩ : ∃ k, k = R.length := ⟨_, rfl⟩
    have HK := Lib.hid hk
    rw [← hk] at cR
    clear hk
    by_cases h7 : i = 7
    · subst h7
      clear hiI hi
      by_cases hk0 : k = 0
      · subst hk0
        have RT := Pl.round_turns px py eb ecx ecy x0 y0 v HR.out.1 HR.out.2.1 HQ.out.1 HQ.out.2.1 HX0.out HY0.out HQ.out.2.2.2.2 HV.out
        have K1 := Lib.hid (fun Z => turns_fr ⟨px, py, eb, ecx, ecy, x0, y0⟩ (-40) v Z)
        have K2 := Lib.hid (fun Z => turns_fr ⟨px, py, eb, ecx, ecy, x0, y0⟩ 400 v Z)
        rw [RT.1] at K1
        rw [RT.2] at K2
        clear RT
        have i1 := Pl.ind_bd py v
        have i2 := Pl.ind_bd y0 v
        have HT0 : l + (Pl.ind py v - Pl.ind y0 v) = Pl.ind y0 v - Pl.ind y0 v := by have := HR.out.2.2.1; omega
        obtain ⟨t, ht⟩ : ∃ t, t = Pl.ind py v - Pl.ind y0 v := ⟨_, rfl⟩
        rw [← ht] at K1 HT0
        have bt1 : -1 ≤ t := by omega
        have bt2 : t ≤ 1 := by omega
        have HT := Lib.hid HT0
        clear HT0 ht i1 i2
        simp only [edv] at K1 K2
        have hz : l + t = 0 := by have := HT.out; omega
        go_wp2_with fail
        refine (K1.out _).mono ?_
        rintro en w7 ⟨rfl, f7⟩
        have B7 := Lib.hid ((Blk.new (W := w) (Z := w6) #[.int .i64 px, .int .i64 py, .bool eb, .int .i64 ecx, .int .i64 ecy, .int .i64 x0, .int .i64 y0] 25 N6.out.fr.2.2.1).fr f7 (fun h => h))
        have N7 := Lib.hid ((N6.out.alloc #[.int .i64 px, .int .i64 py, .bool eb, .int .i64 ecx, .int .i64 ecy, .int .i64 x0, .int .i64 y0] 25).frame f7)
        obtain ⟨d0, d1, d2, d3, d4, d5, d6⟩ := B7.out.at0
        clear f7 cR K1
        go_wp2_with fail
        refine (K2.out _).mono ?_
        rintro en w8 ⟨rfl, f8⟩
        have B8 := Lib.hid (B7.out.fr f8 (fun h => h))
        have N8 := Lib.hid (N7.out.frame f8)
        clear f8 d0 d1 d2 d3 d4 d5 d6 B7 N7 K2
        obtain ⟨d0, d1, d2, d3, d4, d5, d6⟩ := B8.out.at0
        obtain ⟨ao8, cap8, c8⟩ := N8.out.cell
        rw [← HK.out] at c8
        go_wp2_with fail
        go_quiet (fail)
        go_wp2_with fail
        go_ret
        exact ⟨rfl, Kept.of_fr (show Fr (fun _ => False) w w8 from N8.out.fr)⟩
      · have hkb : ((k : Int) == 0) = false := beq_eq_false_iff_ne.2 (by omega)
        have RT := Pl.round_turns px py eb ecx ecy x0 y0 v HR.out.1 HR.out.2.1 HQ.out.1 HQ.out.2.1 HX0.out HY0.out HQ.out.2.2.2.2 HV.out
        have K1 := Lib.hid (fun Z => turns_fr ⟨px, py, eb, ecx, ecy, x0, y0⟩ (-40) v Z)
        have K2 := Lib.hid (fun Z => turns_fr ⟨px, py, eb, ecx, ecy, x0, y0⟩ 400 v Z)
        rw [RT.1] at K1
        rw [RT.2] at K2
        clear RT
        have i1 := Pl.ind_bd py v
        have i2 := Pl.ind_bd y0 v
        have HT0 : l + (Pl.ind py v - Pl.ind y0 v) = Pl.ind y0 v - Pl.ind y0 v := by have := HR.out.2.2.1; omega
        obtain ⟨t, ht⟩ : ∃ t, t = Pl.ind py v - Pl.ind y0 v := ⟨_, rfl⟩
        rw [← ht] at K1 HT0
        have bt1 : -1 ≤ t := by omega
        have bt2 : t ≤ 1 := by omega
        have HT := Lib.hid HT0
        clear HT0 ht i1 i2
        simp only [edv] at K1 K2
        have hz : l + t = 0 := by have := HT.out; omega
        go_wp2_with fail
        refine (K1.out _).mono ?_
        rintro en w7 ⟨rfl, f7⟩
        have B7 := Lib.hid ((Blk.new (W := w) (Z := w6) #[.int .i64 px, .int .i64 py, .bool eb, .int .i64 ecx, .int .i64 ecy, .int .i64 x0, .int .i64 y0] 25 N6.out.fr.2.2.1).fr f7 (fun h => h))
        have N7 := Lib.hid ((N6.out.alloc #[.int .i64 px, .int .i64 py, .bool eb, .int .i64 ecx, .int .i64 ecy, .int .i64 x0, .int .i64 y0] 25).frame f7)
        obtain ⟨d0, d1, d2, d3, d4, d5, d6⟩ := B7.out.at0
        clear f7 cR K1
        go_wp2_with fail
        refine (K2.out _).mono ?_
        rintro en w8 ⟨rfl, f8⟩
        have B8 := Lib.hid (B7.out.fr f8 (fun h => h))
        have N8 := Lib.hid (N7.out.frame f8)
        clear f8 d0 d1 d2 d3 d4 d5 d6 B7 N7 K2
        obtain ⟨d0, d1, d2, d3, d4, d5, d6⟩ := B8.out.at0
        obtain ⟨ao8, cap8, c8⟩ := N8.out.cell
        rw [← HK.out] at c8
        go_wp2_with fail
        go_quiet (fail)
        go_wp2_with fail
        refine ⟨?_, by simp only [intOf]; omega⟩
        first
          | exact ⟨x0, y0, _, 8, R, rfl, rfl, rfl, rfl, by simp, by have := HI.out; omega, Lib.hid ⟨HX0.out, HY0.out, by have := HT.out; omega, fun h => rfl⟩, Lib.hid (by exact N8.out)⟩
          | (iterate 46 (refine Exists.intro _ ?_)
             refine ⟨⟨x0, y0, _, 8, R, rfl, rfl, rfl, rfl, by simp, by have := HI.out; omega, Lib.hid ⟨HX0.out, HY0.out, by have := HT.out; omega, fun h => rfl⟩, Lib.hid (by exact N8.out)⟩, ?_⟩
             repeat (first | exact rfl | refine ⟨rfl, ?_⟩))
    · have h7b : ((i : Int) == 7) = false := beq_eq_false_iff_ne.2 (by omega)
      have H7 := Lib.hid h7
      clear h7
      by_cases hk0 : k = 0
      · subst hk0
        have RT := Pl.round_turns px py eb ecx ecy x0 y0 v HR.out.1 HR.out.2.1 HQ.out.1 HQ.out.2.1 HX0.out HY0.out HQ.out.2.2.2.2 HV.out
        have K1 := Lib.hid (fun Z => turns_fr ⟨px, py, eb, ecx, ecy, x0, y0⟩ (-40) v Z)
        have K2 := Lib.hid (fun Z => turns_fr ⟨px, py, eb, ecx, ecy, x0, y0⟩ 400 v Z)
        rw [RT.1] at K1
        rw [RT.2] at K2
        clear RT
        have i1 := Pl.ind_bd py v
        have i2 := Pl.ind_bd y0 v
        have HT0 : l + (Pl.ind py v - Pl.ind y0 v) = Pl.ind y0 v - Pl.ind y0 v := by have := HR.out.2.2.1; omega
        obtain ⟨t, ht⟩ : ∃ t, t = Pl.ind py v - Pl.ind y0 v := ⟨_, rfl⟩
        rw [← ht] at K1 HT0
        have bt1 : -1 ≤ t := by omega
        have bt2 : t ≤ 1 := by omega
        have HT := Lib.hid HT0
        clear HT0 ht i1 i2
        simp only [edv] at K1 K2
        have hz : l + t = 0 := by have := HT.out; omega
        go_wp2_with fail
        refine (K1.out _).mono ?_
        rintro en w7 ⟨rfl, f7⟩
        have B7 := Lib.hid ((Blk.new (W := w) (Z := w6) #[.int .i64 px, .int .i64 py, .bool eb, .int .i64 ecx, .int .i64 ecy, .int .i64 x0, .int .i64 y0] 25 N6.out.fr.2.2.1).fr f7 (fun h => h))
        have N7 := Lib.hid ((N6.out.alloc #[.int .i64 px, .int .i64 py, .bool eb, .int .i64 ecx, .int .i64 ecy, .int .i64 x0, .int .i64 y0] 25).frame f7)
        obtain ⟨d0, d1, d2, d3, d4, d5, d6⟩ := B7.out.at0
        clear f7 cR K1
        go_wp2_with fail
        refine (K2.out _).mono ?_
        rintro en w8 ⟨rfl, f8⟩
        have B8 := Lib.hid (B7.out.fr f8 (fun h => h))
        have N8 := Lib.hid (N7.out.frame f8)
        clear f8 d0 d1 d2 d3 d4 d5 d6 B7 N7 K2
        obtain ⟨d0, d1, d2, d3, d4, d5, d6⟩ := B8.out.at0
        obtain ⟨ao8, cap8, c8⟩ := N8.out.cell
        rw [← HK.out] at c8
        go_wp2_with fail
        go_quiet (fail)
        go_wp2_with fail
        go_ret
        exact ⟨rfl, Kept.of_fr (show Fr (fun _ => False) w w8 from N8.out.fr)⟩
      · have hkb : ((k : Int) == 0) = false := beq_eq_false_iff_ne.2 (by omega)
        have RT := Pl.round_turns px py eb ecx ecy ex1 ey1 v HR.out.1 HR.out.2.1 HQ.out.1 HQ.out.2.1 HQ.out.2.2.1 HQ.out.2.2.2.1 HQ.out.2.2.2.2 HV.out
        have K1 := Lib.hid (fun Z => turns_fr ⟨px, py, eb, ecx, ecy, ex1, ey1⟩ (-40) v Z)
        have K2 := Lib.hid (fun Z => turns_fr ⟨px, py, eb, ecx, ecy, ex1, ey1⟩ 400 v Z)
        rw [RT.1] at K1
        rw [RT.2] at K2
        clear RT
        have i1 := Pl.ind_bd py v
        have i2 := Pl.ind_bd ey1 v
        have HT0 : l + (Pl.ind py v - Pl.ind ey1 v) = Pl.ind y0 v - Pl.ind ey1 v := by have := HR.out.2.2.1; omega
        obtain ⟨t, ht⟩ : ∃ t, t = Pl.ind py v - Pl.ind ey1 v := ⟨_, rfl⟩
        rw [← ht] at K1 HT0
        have bt1 : -1 ≤ t := by omega
        have bt2 : t ≤ 1 := by omega
        have HT := Lib.hid HT0
        clear HT0 ht i1 i2
        simp only [edv] at K1 K2
        go_wp2_with fail
        refine (K1.out _).mono ?_
        rintro en w7 ⟨rfl, f7⟩
        have B7 := Lib.hid ((Blk.new (W := w) (Z := w6) #[.int .i64 px, .int .i64 py, .bool eb, .int .i64 ecx, .int .i64 ecy, .int .i64 ex1, .int .i64 ey1] 25 N6.out.fr.2.2.1).fr f7 (fun h => h))
        have N7 := Lib.hid ((N6.out.alloc #[.int .i64 px, .int .i64 py, .bool eb, .int .i64 ecx, .int .i64 ecy, .int .i64 ex1, .int .i64 ey1] 25).frame f7)
        obtain ⟨d0, d1, d2, d3, d4, d5, d6⟩ := B7.out.at0
        clear f7 cR K1
        go_wp2_with fail
        refine (K2.out _).mono ?_
        rintro en w8 ⟨rfl, f8⟩
        have B8 := Lib.hid (B7.out.fr f8 (fun h => h))
        have N8 := Lib.hid (N7.out.frame f8)
        clear f8 d0 d1 d2 d3 d4 d5 d6 B7 N7 K2
        obtain ⟨d0, d1, d2, d3, d4, d5, d6⟩ := B8.out.at0
        obtain ⟨ao8, cap8, c8⟩ := N8.out.cell
        rw [← HK.out] at c8
        go_wp2_with fail
        go_quiet (fail)
        go_wp2_with fail
        refine ⟨?_, by simp only [intOf]; omega⟩
        first
          | exact ⟨ex1, ey1, _, i + 1, R, rfl, rfl, rfl, rfl, by simp, by have := HI.out; omega, Lib.hid ⟨HQ.out.2.2.1, HQ.out.2.2.2.1, by have := HT.out; omega, fun h => absurd h (by have := H7.out; omega)⟩, Lib.hid (by exact N8.out)⟩
          | (iterate 46 (refine Exists.intro _ ?_)
             refine ⟨⟨ex1, ey1, _, i + 1, R, rfl, rfl, rfl, rfl, by simp, by have := HI.out; omega, Lib.hid ⟨HQ.out.2.2.1, HQ.out.2.2.2.1, by have := HT.out; omega, fun h => absurd h (by have := H7.out; omega)⟩, Lib.hid (by exact N8.out)⟩, ?_⟩
             repeat (first | exact rfl | refine ⟨rfl, ?_⟩))
theorem law_BowRounds (v0 : Value) (N : List Int) (y : Int) (w : World) (h0 : RdI v0 N w ∧ N.length ≤ maxLen) (_ : (Lit.int .i64 y).wf = true) :
    Calls Try.prog 4 #[v0, .int .i64 y] w fun en w' => en = .returned (.bool true) ∧ Kept w w' := walk_BowRounds v0 N y w h0.1
end Go.Proofs.Ytnienpalbfgflaa
