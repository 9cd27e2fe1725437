/- The walk of (*stack.Stack).Roll. -/
import Derived.Test.YtenmbkngkabonaaT5
namespace Go.Proofs.Ytenmbkngkabonaa
set_option linter.unusedVariables false
open Go.RowKit

theorem Pl.flat_len (L : List Pl.Ob) : (Pl.flat L).length = L.length * 6 := by
  induction L with
  | nil => rfl
  | cons o r ih => simp only [Pl.flat, List.length_append, ih, List.length_cons]; simp [Pl.oc]; omega
theorem Pl.flat_one : ∀ (L : List Pl.Ob), ∀ u ∈ Pl.flat L, u.oneCell' = true
  | [], u, hu => by simp [Pl.flat] at hu
  | o :: r, u, hu => by
    simp only [Pl.flat, List.mem_append] at hu
    rcases hu with hu | hu
    · simp [Pl.oc] at hu
      rcases hu with rfl | rfl | rfl | rfl | rfl | rfl <;> rfl
    · exact Pl.flat_one r u hu
theorem own_some' {w : World} {base : Nat} {e : TypeId} {size : Nat} {v : Value} {n : Nat} {xs : List Value} (h : w.ownsRow base e size v n xs) (hn : 0 < n) : ∃ g cap, v = .slice (some ⟨g, 0, none⟩) n cap ∧ base ≤ g := by
  rcases h.2 with ⟨_, h0⟩ | ⟨g, cap, cur, rfl, hb, _⟩
  · omega
  · exact ⟨g, cap, rfl, hb⟩

set_option maxHeartbeats 2000000 in
set_option maxRecDepth 100000 in
theorem roll_core (base p g cap : Nat) (A B1 B2 : List Pl.Ob) (d e jj N M : Nat) (j : Int) (hA : A.length = d) (h1 : B1.length = e) (h2 : B2.length = jj) (he : 1 ≤ e) (hjj : 1 ≤ jj) (hN : N = e + jj) (hM : M = d + N) (hlen : M ≤ 300)
    (hj : (0 ≤ j.tmod N ∧ j.tmod N = jj) ∨ (j.tmod N < 0 ∧ j.tmod N + N = jj)) (hb : -300 < j.tmod N ∧ j.tmod N < 300)
    (W : World) (hS : StkV base p (.slice (some ⟨g, 0, none⟩) M cap) (A ++ (B1 ++ B2)) W) :
    Calls Try.prog 27 #[.pointer (some ⟨p, 0, none⟩), .int .i64 (N : Int), .int .i64 j] W fun e' w' => e' = .returned (.int .i64 0) ∧
      StkV base p (.slice (some ⟨g, 0, none⟩) M cap) (A ++ (B2 ++ B1)) w' ∧ Fr (fun c => c = g) W w' := by
  have hL : (A ++ (B1 ++ B2)).length = M := by simp [hA, h1, h2]; omega
  obtain ⟨i0, hi, hz0, hz1, hz2⟩ := info_parts Try.objInfo
  obtain ⟨g2, cap2, hv, TOP⟩ := top_ok base p _ _ N (by omega) (by omega) (by omega) W hS
  obtain rfl : g2 = g := by injection hv with a b c; injection a with a; injection a with a; exact a.symm
  clear hv
  rw [hL, show M - N = d from by omega] at TOP
  obtain ⟨c0, f0, hown, hne, hp⟩ := id hS
  have hTOP := Lib.hid TOP
  clear TOP
  have en0 : ((N : Int) == 0) = false := beq_eq_false_iff_ne.2 (by omega)
  have en1 : (N : Int) - (jj : Int) = e := by omega
  have en2 : (e : Int) ≤ (N : Int) := by omega
  have en3 : (N : Int) ≤ 300 := by omega
  have en4 : (1 : Int) ≤ (N : Int) := by omega
  have en5 : (N : Int) ≠ 0 := by omega
  obtain ⟨hb0, hb1⟩ := hb
  have j0 : 1 ≤ (jj : Int) := by omega
  have j1 : (jj : Int) ≤ 300 := by omega
  have e0 : 1 ≤ (e : Int) := by omega
  have HN := Lib.hid hN
  have HM := Lib.hid hM
  clear hN hM
  have eNe : N - e = jj := by omega
  have eNf : ¬ (N = e) := by omega
  have we : IntKind.i64.wrap (e : Int) = e := IntWalk.i64_in _ (by omega)
  have T1 : ∀ w1, Grown W w1 → ∃ cur : Array Value, w1.heap[g2]? = some (.cells cur 38 (0, 0)) ∧ cur.size = cap * 6 ∧ M ≤ cap ∧ cur.toList.take (M * 6) = Pl.flat A ++ (Pl.flat B1 ++ Pl.flat B2) := by
    intro w1 g1
    have hx := own_fr (P := fun _ => False) hown (Fr.of_grown _ g1) (fun _ _ f => f)
    rcases hx.2 with ⟨hq, _⟩ | ⟨g3, cap3, cur, hq, _, hg3, hc3, _, hs3, ht3⟩
    · cases hq
    · injection hq with q1 q2 q3
      cases q1
      subst q3
      rw [hL] at ht3 hc3
      exact ⟨cur, hg3, hs3, hc3, by rw [ht3, Pl.flat_append, Pl.flat_append]⟩
  have T2 : ∀ w1, Grown W w1 → ∀ j u, (Pl.flat B1)[j]? = some u → w1.cell? ((⟨g2, d * 6, none⟩ : Addr).add j) = some u := by
    intro w1 g1 j u hu
    have hx := own_fr (P := fun _ => False) hown (Fr.of_grown _ g1) (fun _ _ f => f)
    have hj := (List.getElem?_eq_some_iff.1 hu).1
    rw [Pl.flat_len] at hj
    rw [show (⟨g2, d * 6, none⟩ : Addr).add j = ⟨g2, d * 6 + j, none⟩ from by simp [Addr.add]]
    rw [hL] at hx
    have hmn : M = d + N := HM.out
    rw [hx.cellAt _ (by omega), Pl.flat_append, Pl.flat_append, List.getElem?_append_right (by rw [Pl.flat_len]; omega), List.getElem?_append_left (by rw [Pl.flat_len, Pl.flat_len]; omega), Pl.flat_len, ← hu]
    congr 1; omega
  have T3 : ∀ w1, Grown W w1 → ∀ j u, (Pl.flat B2)[j]? = some u → w1.cell? ((⟨g2, d * 6 + e * 6, none⟩ : Addr).add j) = some u := by
    intro w1 g1 j u hu
    have hx := own_fr (P := fun _ => False) hown (Fr.of_grown _ g1) (fun _ _ f => f)
    have hj := (List.getElem?_eq_some_iff.1 hu).1
    rw [Pl.flat_len] at hj
    rw [show (⟨g2, d * 6 + e * 6, none⟩ : Addr).add j = ⟨g2, d * 6 + e * 6 + j, none⟩ from by simp [Addr.add]]
    rw [hL] at hx
    have hmn : M = d + N := HM.out
    rw [hx.cellAt _ (by omega), Pl.flat_append, Pl.flat_append, List.getElem?_append_right (by rw [Pl.flat_len]; omega), List.getElem?_append_right (by rw [Pl.flat_len, Pl.flat_len]; omega), Pl.flat_len, Pl.flat_len, ← hu]
    congr 1; omega
  have T4 : ∀ (w1 w' : World) (cur : Array Value), Grown W w1 → w1.grownBy w' none → cur.size = cap * 6 → M ≤ cap → w1.heap[g2]? = some (.cells cur 38 (0, 0)) → cur.toList.take (M * 6) = Pl.flat A ++ (Pl.flat B1 ++ Pl.flat B2) →
      StkV base p (.slice (some ⟨g2, 0, none⟩) M cap) (A ++ (B2 ++ B1)) (w'.setRow g2 (cur.toList.take (d * 6) ++ ((Pl.flat B2 ++ Pl.flat B1) ++ cur.toList.drop (d * 6 + (Pl.flat B2 ++ Pl.flat B1).length))).toArray) ∧
      Fr (fun c => c = g2) W (w'.setRow g2 (cur.toList.take (d * 6) ++ ((Pl.flat B2 ++ Pl.flat B1) ++ cur.toList.drop (d * 6 + (Pl.flat B2 ++ Pl.flat B1).length))).toArray) := by
    intro w1 w' cur g1 hgr hcs hcM hcur htk
    have hmn : M = d + N := HM.out
    have hnn : N = e + jj := HN.out
    have hgp : g2 ≠ p := fun q => hne (by rw [q]; rfl)
    have hgl := own_lt hown g2 rfl
    have hgl1 : g2 < w1.heap.size := Nat.lt_of_lt_of_le hgl g1.2.2
    have hF : Fr (fun c => c = g2) W (w'.setRow g2 (cur.toList.take (d * 6) ++ ((Pl.flat B2 ++ Pl.flat B1) ++ cur.toList.drop (d * 6 + (Pl.flat B2 ++ Pl.flat B1).length))).toArray) :=
      ((Fr.of_grown _ g1).trans (Fr.grown _ hgr (by intro k q; cases q))).trans (Fr.setRow _ _ _ _ rfl)
    refine ⟨⟨(hF.cell (a := ⟨p, 0, none⟩) hp (fun q => hgp q.symm)).trans c0, (hF.frozen (a := ⟨p, 0, none⟩) hp (fun q => hgp q.symm)).trans f0, ?_, hne, Nat.lt_of_lt_of_le hp hF.2.2.1⟩, hF⟩
    have hl2 : (A ++ (B2 ++ B1)).length = M := by simp [hA, h1, h2]; omega
    have hfl : (Pl.flat (A ++ (B2 ++ B1))) = Pl.flat A ++ (Pl.flat B2 ++ Pl.flat B1) := by rw [Pl.flat_append, Pl.flat_append]
    rw [hl2, hfl]
    have hlf : (Pl.flat A ++ (Pl.flat B2 ++ Pl.flat B1)).length = M * 6 := by simp [Pl.flat_len, hA, h1, h2]; omega
    refine ⟨hlf, .inr ?_⟩
    rcases hown.2 with ⟨hq, _⟩ | ⟨g3, cap3, cur3, hq, hb3, hg3, hc3, hc4, hs3, ht3⟩
    · cases hq
    · injection hq with q1 q2 q3
      cases q1
      subst q3
      have hta : cur.toList.take (d * 6) = Pl.flat A := by
        have : (cur.toList.take (M * 6)).take (d * 6) = Pl.flat A := by
          rw [htk, List.take_append_of_le_length (by rw [Pl.flat_len]; omega), List.take_of_length_le (by rw [Pl.flat_len]; omega)]
        rwa [List.take_take, Nat.min_eq_left (by omega)] at this
      refine ⟨g2, cap, _, rfl, hb3, setRow_heap w' g2 cur _ 38 (0, 0) ((hgr.block g2 hgl1 (by simp)).trans hcur), hcM, hc4, ?_, ?_⟩
      · simp [Pl.flat_len, h1, h2, hcs]; omega
      · rw [hta]
        show List.take (M * 6) (Pl.flat A ++ ((Pl.flat B2 ++ Pl.flat B1) ++ _)) = _
        rw [← List.append_assoc, List.take_append_of_le_length (by rw [hlf]; exact Nat.le_refl _), List.take_of_length_le (by rw [hlf]; exact Nat.le_refl _)]
  have HT := Lib.hid (And.intro T1 (And.intro T2 (And.intro T3 T4)))
  clear T1 T2 T3 T4 hown
  have hgl := own_lt hS.2.2.1 g2 rfl
  have HL1 : Hid ((Pl.flat B1).length = e * 6) := Lib.hid (by rw [Pl.flat_len, h1])
  have HL2 : Hid ((Pl.flat B2).length = jj * 6) := Lib.hid (by rw [Pl.flat_len, h2])
  have HD : Hid (jj + e = N) := Lib.hid (by omega)
  rcases hj with ⟨hj0, hj1⟩ | ⟨hj0, hj1⟩
  · rw [hj1] at hj0 hb0 hb1
    go_enter Try.func27, Try.ntmps27
    go_wp2_with fail
    refine hTOP.out.mono ?_
    rintro e' w1 ⟨rfl, g1⟩
    obtain ⟨cur, hcur, hcs, hcM, htk⟩ := HT.out.1 w1 g1
    have Hcur := Lib.hid (And.intro hcur (And.intro hcs (And.intro hcM htk)))
    clear hcur hcs hcM htk
    have G1 := Lib.hid g1
    go_wp2_with fail
    go_region_law first | (refine step_append_grows rfl (.tmp 37) (.tmp 42) 32 rfl 38 i0 _ 6 56 Try.underlying32 hi hz0 hz1 hz2 rfl (by decide) (some ⟨g2, d*6+e*6, none⟩) jj jj (Pl.flat B2) (by simp [Act.eval, Act.put]) (by intro q; cases q) HL2.out (by intro b q; cases q; exact HT.out.2.2.1 w1 G1.out) ⟨g2, d*6, none⟩ e N (Pl.flat B1) (by simp [Act.eval, Act.put]) HL1.out (HT.out.2.1 w1 G1.out) (Pl.flat_one B1) (by omega) (by unfold maxLen; omega) (by omega) ?_; intro v' w' hown' hgr; obtain ⟨g', cap', rfl, hg'⟩ := own_some' hown' (by omega); have Hown := Lib.hid hown'; have Hgr := Lib.hid hgr; clear hown' hgr) | (refine step_copy_wide rfl (.tmp 30) (.tmp 43) 32 32 rfl 38 6 Try.underlying32 (by rw [hi]; exact congrArg some hz1) g2 (d*6) N N ⟨g', 0, none⟩ (jj + e) cap' N (by simp [Act.eval]) (by simp [Act.eval]) cur 38 ((Hgr.out.block g2 (by have := G1.out.2.2; simp; omega) (by simp)).trans Hcur.out.1) (Pl.flat B2 ++ Pl.flat B1) (by rw [HD.out]; exact (Nat.min_self N).symm) (by rw [List.length_append, HL1.out, HL2.out, ← HD.out]; omega) (Hown.out.cells rfl) (by rw [List.length_append, HL1.out, HL2.out, Hcur.out.2.1]; have := Hcur.out.2.2.1; have := HM.out; have := HD.out; omega) (by intro u hu; rcases List.mem_append.1 hu with hu | hu; exact Pl.flat_one B2 u hu; exact Pl.flat_one B1 u hu) ?_)
    all_goals
      have t4 := HT.out.2.2.2 w1.drew w' cur (Grown.drew G1.out) Hgr.out Hcur.out.2.1 Hcur.out.2.2.1 Hcur.out.1 Hcur.out.2.2.2
      rw [List.append_assoc, List.length_append] at t4
      have T4 := Lib.hid t4
      clear t4
      go_wp2_with fail
      go_ret
      exact ⟨rfl, T4.out⟩
  · go_enter Try.func27, Try.ntmps27
    go_wp2_with fail
    refine hTOP.out.mono ?_
    rintro e' w1 ⟨rfl, g1⟩
    obtain ⟨cur, hcur, hcs, hcM, htk⟩ := HT.out.1 w1 g1
    have Hcur := Lib.hid (And.intro hcur (And.intro hcs (And.intro hcM htk)))
    clear hcur hcs hcM htk
    have G1 := Lib.hid g1
    go_wp2_with fail
    go_region_law first | (refine step_append_grows rfl (.tmp 37) (.tmp 42) 32 rfl 38 i0 _ 6 56 Try.underlying32 hi hz0 hz1 hz2 rfl (by decide) (some ⟨g2, d*6+e*6, none⟩) jj jj (Pl.flat B2) (by simp [Act.eval, Act.put]) (by intro q; cases q) HL2.out (by intro b q; cases q; exact HT.out.2.2.1 w1 G1.out) ⟨g2, d*6, none⟩ e N (Pl.flat B1) (by simp [Act.eval, Act.put]) HL1.out (HT.out.2.1 w1 G1.out) (Pl.flat_one B1) (by omega) (by unfold maxLen; omega) (by omega) ?_; intro v' w' hown' hgr; obtain ⟨g', cap', rfl, hg'⟩ := own_some' hown' (by omega); have Hown := Lib.hid hown'; have Hgr := Lib.hid hgr; clear hown' hgr) | (refine step_copy_wide rfl (.tmp 30) (.tmp 43) 32 32 rfl 38 6 Try.underlying32 (by rw [hi]; exact congrArg some hz1) g2 (d*6) N N ⟨g', 0, none⟩ (jj + e) cap' N (by simp [Act.eval]) (by simp [Act.eval]) cur 38 ((Hgr.out.block g2 (by have := G1.out.2.2; simp; omega) (by simp)).trans Hcur.out.1) (Pl.flat B2 ++ Pl.flat B1) (by rw [HD.out]; exact (Nat.min_self N).symm) (by rw [List.length_append, HL1.out, HL2.out, ← HD.out]; omega) (Hown.out.cells rfl) (by rw [List.length_append, HL1.out, HL2.out, Hcur.out.2.1]; have := Hcur.out.2.2.1; have := HM.out; have := HD.out; omega) (by intro u hu; rcases List.mem_append.1 hu with hu | hu; exact Pl.flat_one B2 u hu; exact Pl.flat_one B1 u hu) ?_)
    all_goals
      have t4 := HT.out.2.2.2 w1.drew w' cur (Grown.drew G1.out) Hgr.out Hcur.out.2.1 Hcur.out.2.2.1 Hcur.out.1 Hcur.out.2.2.2
      rw [List.append_assoc, List.length_append] at t4
      have T4 := Lib.hid t4
      clear t4
      go_wp2_with fail
      go_ret
      exact ⟨rfl, T4.out⟩
end Go.Proofs.Ytenmbkngkabonaa
