/- The walk of bow.Line. -/
import Derived.Test.YtnienpalbfgflaaBW8
import Derived.Test.YtnienpalbfgflaaAppR
namespace Go.Proofs.Ytnienpalbfgflaa
set_option linter.unusedVariables false
open Go.RowKit

def Pl.csX (c : Int × Int) : List Value := [.int .i64 c.1, .int .i64 c.2]
def Pl.flatX (L : List (Int × Int)) : List Value := L.flatMap Pl.csX
theorem Pl.csX_one (c : Int × Int) : ∀ u ∈ Pl.csX c, u.oneCell' = true := fun u hu => by
  unfold Pl.csX at hu
  rcases List.mem_cons.1 hu with rfl | hu
  · rfl
  · obtain rfl := List.mem_singleton.1 hu
    rfl
theorem Try.crossInfo : (Try.prog.info? 37).map (fun i => (i.zero, i.size, i.bytes)) = some (some (.agg #[.int .i64 0, .int .i64 0]), 2, 16) := by kernel_rfl
def LineOut (L : List (Int × Int)) (W : World) : Ending → World → Prop := fun e w' =>
  ∃ lv, e = .returned lv ∧ w'.ownsRow W.heap.size 37 2 lv L.length (Pl.flatX L) ∧ Fr (fun _ => False) W w'
set_option maxHeartbeats 4000000 in
set_option maxRecDepth 100000 in
theorem line_in (e : Pl.Ed) (y n : Int) (he : e.may) (hy : Pl.crd y) (hn : 0 ≤ n ∧ n ≤ 64) (W : World) :
    Calls Try.prog 16 #[edv e, .int .i64 y, .int .i64 n] W (LineOut (Pl.crosses (Pl.spots e y).1 n ++ Pl.crosses (Pl.spots e y).2 n) W) := by
  have CM := Lib.hid (fun Z => may_any e Z)
  rw [decide_eq_true he] at CM
  have CN := Lib.hid (fun v Z hz => near_any v [y] (by show 1 < 1000000; omega) Z hz)
  rw [decide_eq_true (show ∀ v ∈ [y], Pl.crd v by intro v hv; simp at hv; subst hv; exact hy)] at CN
  have CS := Lib.hid (fun Z => spots_any e y he hy Z)
  obtain ⟨ok1, ok2⟩ := Pl.spots_ok e he y hy
  obtain ⟨S, hS⟩ : ∃ S, S = (Pl.spots e y).1 := ⟨_, rfl⟩
  obtain ⟨T, hT⟩ : ∃ T, T = (Pl.spots e y).2 := ⟨_, rfl⟩
  rw [← hS] at CS ok1 ⊢
  rw [← hT] at CS ok2 ⊢
  clear hS hT he hy
  have HO1 := Lib.hid ok1
  have HO2 := Lib.hid ok2
  obtain ⟨A, hA⟩ : ∃ A, A = Pl.crosses S n := ⟨_, rfl⟩
  obtain ⟨B, hB⟩ : ∃ B, B = A ++ Pl.crosses T n := ⟨_, rfl⟩
  rw [← hA] at ⊢
  rw [← hB]
  have HA := Lib.hid hA
  have HB := Lib.hid hB
  obtain ⟨t, p, q, d, m⟩ := S
  obtain ⟨t', p', q', d', m'⟩ := T
  obtain ⟨x0, y0, bb, cx, cy, xe, ye⟩ := e
  simp only [edv, spp] at CM CN CS ⊢
  clear ok1 ok2 hA hB
  have i0 : ∀ W, (Instr.index 58 (.agg #[.int .i64 t, .int .i64 p, .int .i64 q, .int .i64 d, .int .i64 m, .int .i64 t', .int .i64 p', .int .i64 q', .int .i64 d', .int .i64 m']) (.int .i64 ((0 : Nat) : Int))).run Try.prog W = .ok (.agg #[.int .i64 t, .int .i64 p, .int .i64 q, .int .i64 d, .int .i64 m]) W := fun W => rfl
  have i1 : ∀ W, (Instr.index 58 (.agg #[.int .i64 t, .int .i64 p, .int .i64 q, .int .i64 d, .int .i64 m, .int .i64 t', .int .i64 p', .int .i64 q', .int .i64 d', .int .i64 m']) (.int .i64 ((1 : Nat) : Int))).run Try.prog W = .ok (.agg #[.int .i64 t', .int .i64 p', .int .i64 q', .int .i64 d', .int .i64 m']) W := fun W => rfl
  have HI := Lib.hid (And.intro i0 i1)
  clear i0 i1
  obtain ⟨n1, n2⟩ := hn
  go_enter Try.func16, Try.ntmps16
  go_wp2_with fail
  refine (CM.out _).mono ?_
  rintro en w1 ⟨rfl, g1⟩
  have G1 := Lib.hid (grown_trans ((Grown.refl W).alloc _ _) g1)
  have BK := Lib.hid ((Blk.new (W := W) (Z := W) #[.int .i64 x0, .int .i64 y0, .bool bb, .int .i64 cx, .int .i64 cy, .int .i64 xe, .int .i64 ye] 25 (Nat.le_refl _)).grow g1)
  clear g1 CM
  go_wp2_with fail
  with_reducible refine (CN.out _ _ ?hread).mono ?_
  case hread => exact rdI_lit _ _ _ _ _ _ rfl rfl (by simp)
  rintro en w2 ⟨rfl, rfl⟩
  have G2 := Lib.hid (G1.out.alloc #[.int .i64 y] 3)
  obtain ⟨c0, c1, c2, c3, c4, c5, c6⟩ := (BK.out.alloc #[.int .i64 y] 3).at0
  clear CN G1
  go_wp2_with fail
  refine (CS.out _).mono ?_
  rintro en w3 ⟨rfl, g3⟩
  have G3 := Lib.hid (Fr.of_grown (fun _ => False) (grown_trans G2.out g3))
  clear CS G2 g3 c0 c1 c2 c3 c4 c5 c6 BK
  go_wp2_with fail
  go_loopw [7, 32] (fun s7 s wr => ∃ (j : Nat) (L : List (Int × Int)), s = .int .i64 (j : Int) ∧ ((j = 0 ∧ Hid (L = [])) ∨ (j = 1 ∧ Hid (L = A)) ∨ (j = 2 ∧ Hid (L = B))) ∧ Hid (L.length ≤ j ∧ wr.ownsRow W.heap.size 37 2 s7 L.length (Pl.flatX L)) ∧ Hid (Fr (fun _ => False) W wr)) (fun _ s _ => (2 - intOf s).toNat)
  case atStart => exact ⟨0, [], rfl, .inl ⟨rfl, Lib.hid rfl⟩, Lib.hid ⟨Nat.le_refl _, World.ownsRow_nil _ _ _ _⟩, G3⟩
  case round =>
    obtain ⟨j, L, rfl, hj, HO, HF⟩ := hrel
    by_cases hj2 : j = 2
    · have HL : Hid (L = B) := by
        rcases hj with h | h | h
        · omega
        · omega
        · exact h.2
      subst hj2
      clear hj
      go_wp2_with fail
      go_ret
      exact ⟨_, rfl, by rw [← HL.out]; exact HO.out.2, HF.out⟩
    obtain ⟨t0, p0, q0, d0, m0, hix, HK, HN⟩ : ∃ t0 p0 q0 d0 m0, (∀ W, (Instr.index 58 (.agg #[.int .i64 t, .int .i64 p, .int .i64 q, .int .i64 d, .int .i64 m, .int .i64 t', .int .i64 p', .int .i64 q', .int .i64 d', .int .i64 m']) (.int .i64 (j : Int))).run Try.prog W = .ok (.agg #[.int .i64 t0, .int .i64 p0, .int .i64 q0, .int .i64 d0, .int .i64 m0]) W)
        ∧ Hid (Pl.Sp.ok ⟨t0, p0, q0, d0, m0⟩) ∧ Hid ((j = 0 ∧ A = L ++ Pl.crosses ⟨t0, p0, q0, d0, m0⟩ n) ∨ (j = 1 ∧ B = L ++ Pl.crosses ⟨t0, p0, q0, d0, m0⟩ n)) := by
      rcases hj with ⟨rfl, hh⟩ | ⟨rfl, hh⟩ | ⟨rfl, _⟩
      · exact ⟨_, _, _, _, _, HI.out.1, HO1, Lib.hid (.inl ⟨rfl, by rw [HA.out, hh.out]; rfl⟩)⟩
      · exact ⟨_, _, _, _, _, HI.out.2, HO2, Lib.hid (.inr ⟨rfl, by rw [HB.out, hh.out]⟩)⟩
      · exact absurd rfl hj2
    have hjI : (j : Int) < 2 := by omega
    have HJ := Lib.hid (show j < 2 by omega)
    clear hj hj2
    have NEXT : Hid (∀ (v : Value) Z, Fr (fun _ => False) W Z → Z.ownsRow W.heap.size 37 2 v (L ++ Pl.crosses ⟨t0, p0, q0, d0, m0⟩ n).length (Pl.flatX (L ++ Pl.crosses ⟨t0, p0, q0, d0, m0⟩ n)) → ∃ (j' : Nat) (L' : List (Int × Int)), Value.int .i64 ((j : Int) + 1) = .int .i64 (j' : Int) ∧ ((j' = 0 ∧ Hid (L' = [])) ∨ (j' = 1 ∧ Hid (L' = A)) ∨ (j' = 2 ∧ Hid (L' = B))) ∧ Hid (L'.length ≤ j' ∧ Z.ownsRow W.heap.size 37 2 v L'.length (Pl.flatX L')) ∧ Hid (Fr (fun _ => False) W Z)) := Lib.hid (fun v Z hf ho => by
      have hlen : (Pl.crosses ⟨t0, p0, q0, d0, m0⟩ n).length ≤ 1 := by unfold Pl.crosses; split <;> simp
      refine ⟨j + 1, _, by simp, ?_, Lib.hid ⟨by rw [List.length_append]; have := HO.out.1; omega, ho⟩, Lib.hid hf⟩
      rcases HN.out with ⟨h1, h2⟩ | ⟨h1, h2⟩
      · exact .inr (.inl ⟨by omega, Lib.hid h2.symm⟩)
      · exact .inr (.inr ⟨by omega, Lib.hid h2.symm⟩))
    by_cases ht : t0 = 0
    · have hb : (t0 == 0) = true := by rw [ht]; rfl
      have HC := Lib.hid (show L = L ++ Pl.crosses ⟨t0, p0, q0, d0, m0⟩ n by unfold Pl.crosses; rw [if_pos ht, List.append_nil])
      clear ht
      go_wp2_with fail
      exact ⟨NEXT.out _ _ (HF.out.trans (Fr.alloc _ _ _)) (by rw [← HC.out]; exact own_fr HO.out.2 (Fr.alloc (fun _ => False) _ _) (fun _ _ f => f)), by simp only [intOf]; omega⟩
    · have hb : (t0 == 0) = false := beq_eq_false_iff_ne.2 ht
      obtain ⟨k1, k2, k3, k4, k5, k6⟩ := HK.out.resolve_left ht
      simp only at k1 k2 k3 k4 k5 k6
      have kq : Pl.okq (-q0) d0 := by unfold Pl.okq at k6 ⊢; omega
      obtain ⟨kq1, kq2, kq3, kq4⟩ := id k6
      have CC := Lib.hid (fun Z => cut_ok (8 * m0 - p0) (-q0) d0 (16 * m0) (by unfold Pl.okc; exact ⟨kq, by omega⟩) Z)
      obtain ⟨v, hv⟩ : ∃ v, v = (8 * m0 - p0 + Pl.srt (Pl.ss (-q0) * d0)) / (16 * m0) := ⟨_, rfl⟩
      rw [← hv] at CC
      have hvb : -1000000000000000 ≤ v ∧ v ≤ 1000000000000000 := by
        have hT := Pl.T_bd (-q0) d0 kq
        obtain ⟨_, _, s3, s4⟩ := Pl.srt_spec _ hT.1 hT.2
        have := Pl.ediv_bd (8 * m0 - p0 + Pl.srt (Pl.ss (-q0) * d0)) (16 * m0) (by omega)
        have hm : Pl.mag (8 * m0 - p0 + Pl.srt (Pl.ss (-q0) * d0)) ≤ 1000000000000000 := by unfold Pl.mag; split <;> omega
        omega
      obtain ⟨hv1, hv2⟩ := hvb
      have HC := Lib.hid (show Pl.crosses ⟨t0, p0, q0, d0, m0⟩ n = [(t0, max 0 (min (-v) n))] by
        unfold Pl.crosses Pl.crossK
        rw [if_neg ht]
        simp only
        rw [← hv])
      clear ht k6 hv k1 kq
      go_wp2_with fail
      refine (CC.out _).mono ?_
      rintro en w4 ⟨rfl, g4⟩
      have e0 : w4.cell? ⟨wr.heap.size, 0, none⟩ = some (.int .i64 t0) := grown_cell g4 (by simp [go_sem])
      have F4 := Lib.hid (Fr.of_grown (fun _ => False) (grown_trans ((Grown.refl wr).alloc _ _) g4))
      clear g4 CC
      obtain ⟨i0, hi, hz0, hz1, hz2⟩ := info_parts Try.crossInfo
      have HII := Lib.hid hi
      obtain ⟨c, hc⟩ : ∃ c : Int × Int, c = (t0, if 0 < (if n < -v then n else -v) then (if n < -v then n else -v) else 0) := ⟨_, rfl⟩
      have FZ := Lib.hid (F4.out.trans (Fr.alloc (fun _ => False) w4 (.cells #[.int .i64 t0, .int .i64 (if 0 < (if n < -v then n else -v) then (if n < -v then n else -v) else 0)] 37)))
      have HAO := Lib.hid (own_fr HO.out.2 FZ.out (fun _ _ f => f))
      have HBS : Hid (W.heap.size ≤ (w4.alloc (.cells #[.int .i64 t0, .int .i64 (if 0 < (if n < -v then n else -v) then (if n < -v then n else -v) else 0)] 37)).heap.size) := Lib.hid (Nat.le_trans HF.out.2.2.1 FZ.out.2.2.1)
      have HCC : Hid (∀ ad, some (⟨w4.heap.size, 0, none⟩ : Addr) = some ad → ∀ j u, (Pl.csX c)[j]? = some u → (w4.alloc (.cells #[.int .i64 t0, .int .i64 (if 0 < (if n < -v then n else -v) then (if n < -v then n else -v) else 0)] 37)).cell? (ad.add j) = some u) := Lib.hid (fun ad q j u hu => by
        injection q with q
        subst q
        rw [hc] at hu
        exact alloc_cell _ _ _ j u hu)
      have HLL := Lib.hid (show L.length ≤ 2 by have := HO.out.1; have := HJ.out; omega)
      have HCV := Lib.hid (show Pl.crosses ⟨t0, p0, q0, d0, m0⟩ n = [c] by
        rw [HC.out, hc]
        congr 2
        omega)
      clear hi hc
      go_wp2_with (at_builtin; refine wpList_append_all _ W.heap.size 31 37 i0 _ 2 16 Try.underlying31 HII.out hz0 hz1 hz2 rfl (by decide) u7 L.length (Pl.flatX L) HAO.out (some ⟨w4.heap.size, 0, none⟩) 1 1 (Pl.csX c) (by intro q; cases q) rfl HCC.out (Pl.csX_one _) (by have := HLL.out; unfold maxLen; omega) (by have := HLL.out; omega) HBS.out (hgd := rfl) (.tmp 56) (.tmp 65) rfl (by simp [Act.eval]) (by simp [Act.eval]) ?_)
      all_goals
        intro v' w' r2 g2 hg2
        go_wp2_with fail
        refine ⟨NEXT.out _ _ (((HF.out.trans F4.out).trans (Fr.alloc (fun _ => False) _ _)).trans' (Fr.grown (fun k => u7.ownBlock = some k) g2 (fun k hk => hk)) (fun k hk => .inr (own_base HO.out.2 k hk))) ?_, by simp only [intOf]; omega⟩
        rw [HCV.out, List.length_append]
        unfold Pl.flatX at r2 ⊢
        rw [List.flatMap_append]
        have e : [c].flatMap Pl.csX = Pl.csX c := by simp
        rw [e]
        exact r2
set_option maxHeartbeats 2000000 in
set_option maxRecDepth 100000 in
theorem line_out (e : Pl.Ed) (y n : Int) (h : ¬ (e.may ∧ Pl.crd y ∧ 0 ≤ n ∧ n ≤ 64)) (W : World) :
    Calls Try.prog 16 #[edv e, .int .i64 y, .int .i64 n] W (LineOut [] W) := by
  have CM := Lib.hid (fun Z => may_any e Z)
  have CN := Lib.hid (fun v Z hz => near_any v [y] (by show 1 < 1000000; omega) Z hz)
  have NIL : Hid (∀ Z, Grown W Z → LineOut [] W (.returned (.slice none 0 0)) Z) := Lib.hid (fun Z g => ⟨_, rfl, World.ownsRow_nil _ _ _ _, Fr.of_grown _ g⟩)
  by_cases he : e.may
  · rw [decide_eq_true he] at CM
    by_cases hy : Pl.crd y
    · rw [decide_eq_true (show ∀ v ∈ [y], Pl.crd v by intro v hv; simp at hv; subst hv; exact hy)] at CN
      have hn : n < 0 ∨ (0 ≤ n ∧ 64 < n) := by
        by_cases h0 : n < 0
        · exact .inl h0
        · exact .inr ⟨by omega, by by_cases h1 : n ≤ 64; exact absurd ⟨he, hy, by omega, h1⟩ h; omega⟩
      clear h he hy
      obtain ⟨x0, y0, bb, cx, cy, xe, ye⟩ := e
      simp only [edv] at CM ⊢
      rcases hn with h0 | ⟨h0, h1⟩
      all_goals
        go_enter Try.func16, Try.ntmps16
        go_wp2_with fail
        refine (CM.out _).mono ?_
        rintro en w1 ⟨rfl, g1⟩
        have G1 := Lib.hid (grown_trans ((Grown.refl W).alloc _ _) g1)
        clear g1 CM
        go_wp2_with fail
        with_reducible refine (CN.out _ _ ?hread).mono ?_
        case hread => exact rdI_lit _ _ _ _ _ _ rfl rfl (by simp)
        rintro en w2 ⟨rfl, rfl⟩
        clear CN
        go_wp2_with fail
        go_ret
        exact NIL.out _ (G1.out.alloc _ _)
    · rw [decide_eq_false (show ¬ ∀ v ∈ [y], Pl.crd v from fun k => hy (k y (by simp)))] at CN
      clear h he hy
      obtain ⟨x0, y0, bb, cx, cy, xe, ye⟩ := e
      simp only [edv] at CM ⊢
      go_enter Try.func16, Try.ntmps16
      go_wp2_with fail
      refine (CM.out _).mono ?_
      rintro en w1 ⟨rfl, g1⟩
      have G1 := Lib.hid (grown_trans ((Grown.refl W).alloc _ _) g1)
      clear g1 CM
      go_wp2_with fail
      with_reducible refine (CN.out _ _ ?hread).mono ?_
      case hread => exact rdI_lit _ _ _ _ _ _ rfl rfl (by simp)
      rintro en w2 ⟨rfl, rfl⟩
      clear CN
      go_wp2_with fail
      go_ret
      exact NIL.out _ (G1.out.alloc _ _)
  · rw [decide_eq_false he] at CM
    clear h he CN
    obtain ⟨x0, y0, bb, cx, cy, xe, ye⟩ := e
    simp only [edv] at CM ⊢
    go_enter Try.func16, Try.ntmps16
    go_wp2_with fail
    refine (CM.out _).mono ?_
    rintro en w1 ⟨rfl, g1⟩
    have G1 := Lib.hid (grown_trans ((Grown.refl W).alloc _ _) g1)
    clear g1 CM
    go_wp2_with fail
    go_ret
    exact NIL.out _ G1.out
theorem line_any (e : Pl.Ed) (y n : Int) (W : World) : Calls Try.prog 16 #[edv e, .int .i64 y, .int .i64 n] W (LineOut (Pl.line e y n) W) := by
  unfold Pl.line
  by_cases h : e.may ∧ Pl.crd y ∧ 0 ≤ n ∧ n ≤ 64
  · rw [if_pos h]; exact line_in e y n h.1 h.2.1 h.2.2 W
  · rw [if_neg h]; exact line_out e y n h W
end Go.Proofs.Ytnienpalbfgflaa
