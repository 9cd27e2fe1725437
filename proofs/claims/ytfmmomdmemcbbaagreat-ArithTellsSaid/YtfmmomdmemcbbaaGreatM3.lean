/- The walk of (*stack.Stack).Roll. · top of none, below none,  -/
import Derived.Deep.RegionHeld3
import Derived.WalkKit
import Derived.Lib.Hide
import Derived.Test.YtfmmomdmemcbbaaGreatM2
import Derived.Test.YtfmmomdmemcbbaaGreatM1
import Derived.Test.YtfmmomdmemcbbaaGreatRows
set_option maxHeartbeats 2000000
set_option maxRecDepth 100000
namespace Go.Proofs.YtfmmomdmemcbbaaGreat
set_option linter.unusedVariables false
open Go.RowKit
theorem Pl.flat_len (L : List Pl.Ob) : (Pl.flat L).length = L.length * 6 := by
  induction L with
  | nil => rfl
  | cons o r ih => simp only [Pl.flat, List.length_append, ih, List.length_cons]; simp [Pl.oc]; omega
theorem Pl.flat_one : ∀ (L : List Pl.Ob), ∀ u ∈ Pl.flat L, u.oneCell' = true
  | [], u, hu => by simp [Pl.flat] at hu
  | o :: r, u, hu => by
    simp only [Pl.flat, List.mem_append] at hu
    rcases hu with hu | hu
    · simp [Pl.oc] at hu
      rcases hu with rfl | rfl | rfl | rfl | rfl | rfl <;> rfl
    · exact Pl.flat_one r u hu
theorem own_some' {w : World} {base : Nat} {e : TypeId} {size : Nat} {v : Value} {n : Nat} {xs : List Value} (h : w.ownsRow base e size v n xs) (hn : 0 < n) : ∃ g cap, v = .slice (some ⟨g, 0, none⟩) n cap ∧ base ≤ g := by
  rcases h.2 with ⟨_, h0⟩ | ⟨g, cap, cur, rfl, hb, _⟩
  · omega
  · exact ⟨g, cap, rfl, hb⟩
theorem roll_core (base p g cap : Nat) (A B1 B2 : List Pl.Ob) (d e jj N M : Nat) (j : Int) (hA : A.length = d) (h1 : B1.length = e) (h2 : B2.length = jj) (he : 1 ≤ e) (hjj : 1 ≤ jj) (hN : N = e + jj) (hM : M = d + N) (hlen : M ≤ 300)
    (hj : (0 ≤ j.tmod N ∧ j.tmod N = jj) ∨ (j.tmod N < 0 ∧ j.tmod N + N = jj)) (hb : -300 < j.tmod N ∧ j.tmod N < 300)
    (W : World) (hS : StkV base p (.slice (some ⟨g, 0, none⟩) M cap) (A ++ (B1 ++ B2)) W) :
    Calls Tryz.prog 37 #[.pointer (some ⟨p, 0, none⟩), .int .i64 (N : Int), .int .i64 j] W fun e' w' => e' = .returned (.int .i64 0) ∧
      StkV base p (.slice (some ⟨g, 0, none⟩) M cap) (A ++ (B2 ++ B1)) w' ∧ Fr (fun c => c = g) W w' := by
  have hL : (A ++ (B1 ++ B2)).length = M := by simp [hA, h1, h2]; omega
  obtain ⟨i0, hi, hz0, hz1, hz2⟩ := info_parts Tryz.objInfo
  obtain ⟨g2, cap2, hv, TOP⟩ := top_ok base p _ _ N (by omega) (by omega) (by omega) W hS
  obtain rfl : g2 = g := by injection hv with a b c; injection a with a; injection a with a; exact a.symm
  clear hv
  rw [hL, show M - N = d from by omega] at TOP
  obtain ⟨c0, f0, hown, hne, hp⟩ := id hS
  have hTOP := Lib.hid TOP
  clear TOP
  have en0 : ((N : Int) == 0) = false := beq_eq_false_iff_ne.2 (by omega)
  have en1 : (N : Int) - (jj : Int) = e := by omega
  have en2 : (e : Int) ≤ (N : Int) := by omega
  have en3 : (N : Int) ≤ 300 := by omega
  have en4 : (1 : Int) ≤ (N : Int) := by omega
  have en5 : (N : Int) ≠ 0 := by omega
  obtain ⟨hb0, hb1⟩ := hb
  have j0 : 1 ≤ (jj : Int) := by omega
  have j1 : (jj : Int) ≤ 300 := by omega
  have e0 : 1 ≤ (e : Int) := by omega
  have HN := Lib.hid hN
  have HM := Lib.hid hM
  clear hN hM
  have eNe : N - e = jj := by omega
  have eNf : ¬ (N = e) := by omega
  have we : IntKind.i64.wrap (e : Int) = e := IntWalk.i64_in _ (by omega)
  have T1 : ∀ w1, Grown W w1 → ∃ cur : Array Value, w1.heap[g2]? = some (.cells cur 25 (0, 0)) ∧ cur.size = cap * 6 ∧ M ≤ cap ∧ cur.toList.take (M * 6) = Pl.flat A ++ (Pl.flat B1 ++ Pl.flat B2) := by
    intro w1 g1
    have hx := own_fr (P := fun _ => False) hown (Fr.of_grown _ g1) (fun _ _ f => f)
    rcases hx.2 with ⟨hq, _⟩ | ⟨g3, cap3, cur, hq, _, hg3, hc3, _, hs3, ht3⟩
    · cases hq
    · injection hq with q1 q2 q3
      cases q1
      subst q3
      rw [hL] at ht3 hc3
      exact ⟨cur, hg3, hs3, hc3, by rw [ht3, Pl.flat_append, Pl.flat_append]⟩
  have T2 : ∀ w1, Grown W w1 → ∀ j u, (Pl.flat B1)[j]? = some u → w1.cell? ((⟨g2, d * 6, none⟩ : Addr).add j) = some u := by
    intro w1 g1 j u hu
    have hx := own_fr (P := fun _ => False) hown (Fr.of_grown _ g1) (fun _ _ f => f)
    have hj := (List.getElem?_eq_some_iff.1 hu).1
    rw [Pl.flat_len] at hj
    rw [show (⟨g2, d * 6, none⟩ : Addr).add j = ⟨g2, d * 6 + j, none⟩ from by simp [Addr.add]]
    rw [hL] at hx
    have hmn : M = d + N := HM.out
    rw [hx.cellAt _ (by omega), Pl.flat_append, Pl.flat_append, List.getElem?_append_right (by rw [Pl.flat_len]; omega), List.getElem?_append_left (by rw [Pl.flat_len, Pl.flat_len]; omega), Pl.flat_len, ← hu]
    congr 1; omega
  have T3 : ∀ w1, Grown W w1 → ∀ j u, (Pl.flat B2)[j]? = some u → w1.cell? ((⟨g2, d * 6 + e * 6, none⟩ : Addr).add j) = some u := by
    intro w1 g1 j u hu
    have hx := own_fr (P := fun _ => False) hown (Fr.of_grown _ g1) (fun _ _ f => f)
    have hj := (List.getElem?_eq_some_iff.1 hu).1
    rw [Pl.flat_len] at hj
    rw [show (⟨g2, d * 6 + e * 6, none⟩ : Addr).add j = ⟨g2, d * 6 + e * 6 + j, none⟩ from by simp [Addr.add]]
    rw [hL] at hx
    have hmn : M = d + N := HM.out
    rw [hx.cellAt _ (by omega), Pl.flat_append, Pl.flat_append, List.getElem?_append_right (by rw [Pl.flat_len]; omega), List.getElem?_append_right (by rw [Pl.flat_len, Pl.flat_len]; omega), Pl.flat_len, Pl.flat_len, ← hu]
    congr 1; omega
  have T4 : ∀ (w1 w' : World) (cur : Array Value), Grown W w1 → w1.grownBy w' none → cur.size = cap * 6 → M ≤ cap → w1.heap[g2]? = some (.cells cur 25 (0, 0)) → cur.toList.take (M * 6) = Pl.flat A ++ (Pl.flat B1 ++ Pl.flat B2) →
      StkV base p (.slice (some ⟨g2, 0, none⟩) M cap) (A ++ (B2 ++ B1)) (w'.setRow g2 (cur.toList.take (d * 6) ++ ((Pl.flat B2 ++ Pl.flat B1) ++ cur.toList.drop (d * 6 + (Pl.flat B2 ++ Pl.flat B1).length))).toArray) ∧
      Fr (fun c => c = g2) W (w'.setRow g2 (cur.toList.take (d * 6) ++ ((Pl.flat B2 ++ Pl.flat B1) ++ cur.toList.drop (d * 6 + (Pl.flat B2 ++ Pl.flat B1).length))).toArray) := by
    intro w1 w' cur g1 hgr hcs hcM hcur htk
    have hmn : M = d + N := HM.out
    have hnn : N = e + jj := HN.out
    have hgp : g2 ≠ p := fun q => hne (by rw [q]; rfl)
    have hgl := own_lt hown g2 rfl
    have hgl1 : g2 < w1.heap.size := Nat.lt_of_lt_of_le hgl g1.2.2
    have hF : Fr (fun c => c = g2) W (w'.setRow g2 (cur.toList.take (d * 6) ++ ((Pl.flat B2 ++ Pl.flat B1) ++ cur.toList.drop (d * 6 + (Pl.flat B2 ++ Pl.flat B1).length))).toArray) :=
      ((Fr.of_grown _ g1).trans (Fr.grown _ hgr (by intro k q; cases q))).trans (Fr.setRow _ _ _ _ rfl)
    refine ⟨⟨(hF.cell (a := ⟨p, 0, none⟩) hp (fun q => hgp q.symm)).trans c0, (hF.frozen (a := ⟨p, 0, none⟩) hp (fun q => hgp q.symm)).trans f0, ?_, hne, Nat.lt_of_lt_of_le hp hF.2.2.1⟩, hF⟩
    have hl2 : (A ++ (B2 ++ B1)).length = M := by simp [hA, h1, h2]; omega
    have hfl : (Pl.flat (A ++ (B2 ++ B1))) = Pl.flat A ++ (Pl.flat B2 ++ Pl.flat B1) := by rw [Pl.flat_append, Pl.flat_append]
    rw [hl2, hfl]
    have hlf : (Pl.flat A ++ (Pl.flat B2 ++ Pl.flat B1)).length = M * 6 := by simp [Pl.flat_len, hA, h1, h2]; omega
    refine ⟨hlf, .inr ?_⟩
    rcases hown.2 with ⟨hq, _⟩ | ⟨g3, cap3, cur3, hq, hb3, hg3, hc3, hc4, hs3, ht3⟩
    · cases hq
    · injection hq with q1 q2 q3
      cases q1
      subst q3
      have hta : cur.toList.take (d * 6) = Pl.flat A := by
        have : (cur.toList.take (M * 6)).take (d * 6) = Pl.flat A := by
          rw [htk, List.take_append_of_le_length (by rw [Pl.flat_len]; omega), List.take_of_length_le (by rw [Pl.flat_len]; omega)]
        rwa [List.take_take, Nat.min_eq_left (by omega)] at this
      refine ⟨g2, cap, _, rfl, hb3, setRow_heap w' g2 cur _ 25 (0, 0) ((hgr.block g2 hgl1 (by simp)).trans hcur), hcM, hc4, ?_, ?_⟩
      · simp [Pl.flat_len, h1, h2, hcs]; omega
      · rw [hta]
        show List.take (M * 6) (Pl.flat A ++ ((Pl.flat B2 ++ Pl.flat B1) ++ _)) = _
        rw [← List.append_assoc, List.take_append_of_le_length (by rw [hlf]; exact Nat.le_refl _), List.take_of_length_le (by rw [hlf]; exact Nat.le_refl _)]
  have HT := Lib.hid (And.intro T1 (And.intro T2 (And.intro T3 T4)))
  clear T1 T2 T3 T4 hown
  have hgl := own_lt hS.2.2.1 g2 rfl
  have HL1 : Hid ((Pl.flat B1).length = e * 6) := Lib.hid (by rw [Pl.flat_len, h1])
  have HL2 : Hid ((Pl.flat B2).length = jj * 6) := Lib.hid (by rw [Pl.flat_len, h2])
  have HD : Hid (jj + e = N) := Lib.hid (by omega)
  rcases hj with ⟨hj0, hj1⟩ | ⟨hj0, hj1⟩
  · rw [hj1] at hj0 hb0 hb1
    go_enter Tryz.func37, Tryz.ntmps37
    go_wp2_with fail
    refine hTOP.out.mono ?_
    rintro e' w1 ⟨rfl, g1⟩
    obtain ⟨cur, hcur, hcs, hcM, htk⟩ := HT.out.1 w1 g1
    have Hcur := Lib.hid (And.intro hcur (And.intro hcs (And.intro hcM htk)))
    clear hcur hcs hcM htk
    have G1 := Lib.hid g1
    go_wp2_with fail
    go_region_law first | (refine step_append_grows rfl (.tmp 37) (.tmp 42) 22 rfl 25 i0 _ 6 56 Tryz.underlying22 hi hz0 hz1 hz2 rfl (by decide) (some ⟨g2, d*6+e*6, none⟩) jj jj (Pl.flat B2) (by simp [Act.eval, Act.put]) (by intro q; cases q) HL2.out (by intro b q; cases q; exact HT.out.2.2.1 w1 G1.out) ⟨g2, d*6, none⟩ e N (Pl.flat B1) (by simp [Act.eval, Act.put]) HL1.out (HT.out.2.1 w1 G1.out) (Pl.flat_one B1) (by omega) (by unfold maxLen; omega) (by omega) ?_; intro v' w' hown' hgr; obtain ⟨g', cap', rfl, hg'⟩ := own_some' hown' (by omega); have Hown := Lib.hid hown'; have Hgr := Lib.hid hgr; clear hown' hgr) | (refine step_copy_wide rfl (.tmp 30) (.tmp 43) 22 22 rfl 25 6 Tryz.underlying22 (by rw [hi]; exact congrArg some hz1) g2 (d*6) N N ⟨g', 0, none⟩ (jj + e) cap' N (by simp [Act.eval]) (by simp [Act.eval]) cur 25 ((Hgr.out.block g2 (by have := G1.out.2.2; simp; omega) (by simp)).trans Hcur.out.1) (Pl.flat B2 ++ Pl.flat B1) (by rw [HD.out]; exact (Nat.min_self N).symm) (by rw [List.length_append, HL1.out, HL2.out, ← HD.out]; omega) (Hown.out.cells rfl) (by rw [List.length_append, HL1.out, HL2.out, Hcur.out.2.1]; have := Hcur.out.2.2.1; have := HM.out; have := HD.out; omega) (by intro u hu; rcases List.mem_append.1 hu with hu | hu; exact Pl.flat_one B2 u hu; exact Pl.flat_one B1 u hu) ?_)
    all_goals
      have t4 := HT.out.2.2.2 w1.drew w' cur (Grown.drew G1.out) Hgr.out Hcur.out.2.1 Hcur.out.2.2.1 Hcur.out.1 Hcur.out.2.2.2
      rw [List.append_assoc, List.length_append] at t4
      have T4 := Lib.hid t4
      clear t4
      go_wp2_with fail
      go_ret
      exact ⟨rfl, T4.out⟩
  · go_enter Tryz.func37, Tryz.ntmps37
    go_wp2_with fail
    refine hTOP.out.mono ?_
    rintro e' w1 ⟨rfl, g1⟩
    obtain ⟨cur, hcur, hcs, hcM, htk⟩ := HT.out.1 w1 g1
    have Hcur := Lib.hid (And.intro hcur (And.intro hcs (And.intro hcM htk)))
    clear hcur hcs hcM htk
    have G1 := Lib.hid g1
    go_wp2_with fail
    go_region_law first | (refine step_append_grows rfl (.tmp 37) (.tmp 42) 22 rfl 25 i0 _ 6 56 Tryz.underlying22 hi hz0 hz1 hz2 rfl (by decide) (some ⟨g2, d*6+e*6, none⟩) jj jj (Pl.flat B2) (by simp [Act.eval, Act.put]) (by intro q; cases q) HL2.out (by intro b q; cases q; exact HT.out.2.2.1 w1 G1.out) ⟨g2, d*6, none⟩ e N (Pl.flat B1) (by simp [Act.eval, Act.put]) HL1.out (HT.out.2.1 w1 G1.out) (Pl.flat_one B1) (by omega) (by unfold maxLen; omega) (by omega) ?_; intro v' w' hown' hgr; obtain ⟨g', cap', rfl, hg'⟩ := own_some' hown' (by omega); have Hown := Lib.hid hown'; have Hgr := Lib.hid hgr; clear hown' hgr) | (refine step_copy_wide rfl (.tmp 30) (.tmp 43) 22 22 rfl 25 6 Tryz.underlying22 (by rw [hi]; exact congrArg some hz1) g2 (d*6) N N ⟨g', 0, none⟩ (jj + e) cap' N (by simp [Act.eval]) (by simp [Act.eval]) cur 25 ((Hgr.out.block g2 (by have := G1.out.2.2; simp; omega) (by simp)).trans Hcur.out.1) (Pl.flat B2 ++ Pl.flat B1) (by rw [HD.out]; exact (Nat.min_self N).symm) (by rw [List.length_append, HL1.out, HL2.out, ← HD.out]; omega) (Hown.out.cells rfl) (by rw [List.length_append, HL1.out, HL2.out, Hcur.out.2.1]; have := Hcur.out.2.2.1; have := HM.out; have := HD.out; omega) (by intro u hu; rcases List.mem_append.1 hu with hu | hu; exact Pl.flat_one B2 u hu; exact Pl.flat_one B1 u hu) ?_)
    all_goals
      have t4 := HT.out.2.2.2 w1.drew w' cur (Grown.drew G1.out) Hgr.out Hcur.out.2.1 Hcur.out.2.2.1 Hcur.out.1 Hcur.out.2.2.2
      rw [List.append_assoc, List.length_append] at t4
      have T4 := Lib.hid t4
      clear t4
      go_wp2_with fail
      go_ret
      exact ⟨rfl, T4.out⟩
end Go.Proofs.YtfmmomdmemcbbaaGreat
namespace Go.Proofs.YtfmmomdmemcbbaaGreat
set_option linter.unusedVariables false
open Go.RowKit
theorem top_zero (base p : Nat) (v : Value) (L : List Pl.Ob) (hlen : L.length ≤ 300) (W : World) (hS : StkV base p v L W) :
    Calls Tryz.prog 70 #[.pointer (some ⟨p, 0, none⟩), .int .i64 0] W fun e w' => (∃ ao, e = .returned (.tuple #[.slice ao 0 0, .int .i64 0])) ∧ Grown W w' := by
  obtain ⟨ao, cap, rfl⟩ := hS.slice
  obtain ⟨h0, h1, hown, hne, hp⟩ := id hS
  have hcap : L.length ≤ cap := by
    rcases hown.2 with ⟨hq, h⟩ | ⟨g, cap', cur, hq, _, _, hc, _⟩
    · omega
    · injection hq with a b c; omega
  obtain ⟨M, hM⟩ : ∃ M, M = L.length := ⟨_, rfl⟩
  rw [← hM] at hlen h0 hcap
  clear hM hS hown hne
  have c1 : (0 : Int) ≤ (M : Int) := by omega
  have c2 : (M : Int) ≤ 300 := by omega
  have c3 : (M : Int) ≤ (cap : Int) := by omega
  have c4 : IntKind.i64.wrap (M : Int) = M := IntWalk.i64_in _ (by omega)
  go_enter Tryz.func70, Tryz.ntmps70
  go_wp2_with fail
  go_region
  all_goals
    go_wp2_with fail
    go_ret2
    refine ⟨⟨_, rfl⟩, by (repeat (first | exact Grown.refl _ | assumption | apply Grown.drew | apply Grown.alloc))⟩
theorem run_append_owned_zero {P : Program} (w : World) (base : Nat) (t ty e : TypeId) (i : TypeInfo) (size : Nat) (ht : P.underlying t = some (.slice e)) (hi : P.info? e = some i)
    (v : Value) (n : Nat) (xs : List Value) (hown : w.ownsRow base e size v n xs) (ao : Option Addr) (c : Nat) :
    (Builtin.append_ #[t, t] ty #[v, .slice ao 0 c]).run P w = .ok v w := by
  have hl : ∀ b : Addr, (Sem.run P (loadCells b 0) w) = .ok #[] w := fun b => run_loadCells_list (P := P) w b [] (by simp)
  rcases hown.2 with ⟨rfl, rfl⟩ | ⟨g, cap, cur, rfl, _, _, hnc, _⟩
  · cases ao <;> simp [Builtin.append_, run_underlying ht, sizeOf, typeInfo, hi, Builtin.lenOf, Builtin.firstCells, hl]
  · cases ao <;> simp [Builtin.append_, run_underlying ht, sizeOf, typeInfo, hi, Builtin.lenOf, Builtin.firstCells, hnc, storeCells, hl]
theorem roll_whole (base p g cap : Nat) (A B1 : List Pl.Ob) (d N M : Nat) (j : Int) (hA : A.length = d) (h1 : B1.length = N) (he : 1 ≤ N) (hM : M = d + N) (hlen : M ≤ 300)
    (hj : j.tmod N = 0) (W : World) (hS : StkV base p (.slice (some ⟨g, 0, none⟩) M cap) (A ++ B1) W) :
    Calls Tryz.prog 37 #[.pointer (some ⟨p, 0, none⟩), .int .i64 (N : Int), .int .i64 j] W fun e' w' => e' = .returned (.int .i64 0) ∧
      StkV base p (.slice (some ⟨g, 0, none⟩) M cap) (A ++ B1) w' ∧ Fr (fun c => c = g) W w' := by
  have hL : (A ++ B1).length = M := by simp [hA, h1]; omega
  obtain ⟨i0, hi, hz0, hz1, hz2⟩ := info_parts Tryz.objInfo
  obtain ⟨g2, cap2, hv, TOP⟩ := top_ok base p _ _ N (by omega) (by omega) (by omega) W hS
  obtain rfl : g2 = g := by injection hv with a b c; injection a with a; injection a with a; exact a.symm
  clear hv
  rw [hL, show M - N = d from by omega] at TOP
  obtain ⟨c0, f0, hown, hne, hp⟩ := id hS
  have hTOP := Lib.hid TOP
  clear TOP
  have en0 : ((N : Int) == 0) = false := beq_eq_false_iff_ne.2 (by omega)
  have en3 : (N : Int) ≤ 300 := by omega
  have en4 : (1 : Int) ≤ (N : Int) := by omega
  have en5 : (N : Int) ≠ 0 := by omega
  have HM := Lib.hid hM
  clear hM
  have we : IntKind.i64.wrap (N : Int) = N := IntWalk.i64_in _ (by omega)
  have T1 : ∀ w1, Grown W w1 → ∃ cur : Array Value, w1.heap[g2]? = some (.cells cur 25 (0, 0)) ∧ cur.size = cap * 6 ∧ M ≤ cap ∧ cur.toList.take (M * 6) = Pl.flat A ++ Pl.flat B1 := by
    intro w1 g1
    have hx := own_fr (P := fun _ => False) hown (Fr.of_grown _ g1) (fun _ _ f => f)
    rcases hx.2 with ⟨hq, _⟩ | ⟨g3, cap3, cur, hq, _, hg3, hc3, _, hs3, ht3⟩
    · cases hq
    · injection hq with q1 q2 q3
      cases q1
      subst q3
      rw [hL] at ht3 hc3
      exact ⟨cur, hg3, hs3, hc3, by rw [ht3, Pl.flat_append]⟩
  have T2 : ∀ w1, Grown W w1 → ∀ j u, (Pl.flat B1)[j]? = some u → w1.cell? ((⟨g2, d * 6, none⟩ : Addr).add j) = some u := by
    intro w1 g1 j u hu
    have hx := own_fr (P := fun _ => False) hown (Fr.of_grown _ g1) (fun _ _ f => f)
    have hj := (List.getElem?_eq_some_iff.1 hu).1
    rw [Pl.flat_len] at hj
    rw [show (⟨g2, d * 6, none⟩ : Addr).add j = ⟨g2, d * 6 + j, none⟩ from by simp [Addr.add]]
    rw [hL] at hx
    have hmn : M = d + N := HM.out
    rw [hx.cellAt _ (by omega), Pl.flat_append, List.getElem?_append_right (by rw [Pl.flat_len]; omega), Pl.flat_len, ← hu]
    congr 1; omega
  have T4 : ∀ (w1 w' : World) (cur : Array Value), Grown W w1 → w1.grownBy w' none → cur.size = cap * 6 → M ≤ cap → w1.heap[g2]? = some (.cells cur 25 (0, 0)) → cur.toList.take (M * 6) = Pl.flat A ++ Pl.flat B1 →
      StkV base p (.slice (some ⟨g2, 0, none⟩) M cap) (A ++ B1) (w'.setRow g2 (cur.toList.take (d * 6) ++ (Pl.flat B1 ++ cur.toList.drop (d * 6 + (Pl.flat B1).length))).toArray) ∧
      Fr (fun c => c = g2) W (w'.setRow g2 (cur.toList.take (d * 6) ++ (Pl.flat B1 ++ cur.toList.drop (d * 6 + (Pl.flat B1).length))).toArray) := by
    intro w1 w' cur g1 hgr hcs hcM hcur htk
    have hmn : M = d + N := HM.out
    have hgp : g2 ≠ p := fun q => hne (by rw [q]; rfl)
    have hgl := own_lt hown g2 rfl
    have hgl1 : g2 < w1.heap.size := Nat.lt_of_lt_of_le hgl g1.2.2
    have hF : Fr (fun c => c = g2) W (w'.setRow g2 (cur.toList.take (d * 6) ++ (Pl.flat B1 ++ cur.toList.drop (d * 6 + (Pl.flat B1).length))).toArray) :=
      ((Fr.of_grown _ g1).trans (Fr.grown _ hgr (by intro k q; cases q))).trans (Fr.setRow _ _ _ _ rfl)
    refine ⟨⟨(hF.cell (a := ⟨p, 0, none⟩) hp (fun q => hgp q.symm)).trans c0, (hF.frozen (a := ⟨p, 0, none⟩) hp (fun q => hgp q.symm)).trans f0, ?_, hne, Nat.lt_of_lt_of_le hp hF.2.2.1⟩, hF⟩
    rw [hL, Pl.flat_append]
    have hlf : (Pl.flat A ++ Pl.flat B1).length = M * 6 := by simp [Pl.flat_len, hA, h1]; omega
    refine ⟨hlf, .inr ?_⟩
    rcases hown.2 with ⟨hq, _⟩ | ⟨g3, cap3, cur3, hq, hb3, hg3, hc3, hc4, hs3, ht3⟩
    · cases hq
    · injection hq with q1 q2 q3
      cases q1
      subst q3
      have hta : cur.toList.take (d * 6) = Pl.flat A := by
        have : (cur.toList.take (M * 6)).take (d * 6) = Pl.flat A := by
          rw [htk, List.take_append_of_le_length (by rw [Pl.flat_len]; omega), List.take_of_length_le (by rw [Pl.flat_len]; omega)]
        rwa [List.take_take, Nat.min_eq_left (by omega)] at this
      refine ⟨g2, cap, _, rfl, hb3, setRow_heap w' g2 cur _ 25 (0, 0) ((hgr.block g2 hgl1 (by simp)).trans hcur), hcM, hc4, ?_, ?_⟩
      · simp [Pl.flat_len, h1, hcs]; omega
      · rw [hta]
        show List.take (M * 6) (Pl.flat A ++ (Pl.flat B1 ++ _)) = _
        rw [← List.append_assoc, List.take_append_of_le_length (by rw [hlf]; exact Nat.le_refl _), List.take_of_length_le (by rw [hlf]; exact Nat.le_refl _)]
  have HT := Lib.hid (And.intro T1 (And.intro T2 T4))
  clear T1 T2 T4 hown
  have hgl := own_lt hS.2.2.1 g2 rfl
  have HL1 : Hid ((Pl.flat B1).length = N * 6) := Lib.hid (by rw [Pl.flat_len, h1])
  go_enter Tryz.func37, Tryz.ntmps37
  go_wp2_with fail
  refine hTOP.out.mono ?_
  rintro e' w1 ⟨rfl, g1⟩
  obtain ⟨cur, hcur, hcs, hcM, htk⟩ := HT.out.1 w1 g1
  have Hcur := Lib.hid (And.intro hcur (And.intro hcs (And.intro hcM htk)))
  clear hcur hcs hcM htk
  have G1 := Lib.hid g1
  go_wp2_with fail
  go_region_law first | (refine step_append_grows rfl (.tmp 37) (.tmp 42) 22 rfl 25 i0 _ 6 56 Tryz.underlying22 hi hz0 hz1 hz2 rfl (by decide) (some ⟨g2, d*6, none⟩) 0 0 [] (by simp [Act.eval, Act.put]) (by intro q; cases q) rfl (by intro b q; cases q; intro j u hu; cases hu) ⟨g2, d*6, none⟩ N N (Pl.flat B1) (by simp [Act.eval, Act.put]) HL1.out (HT.out.2.1 w1 G1.out) (Pl.flat_one B1) (by omega) (by unfold maxLen; omega) (by omega) ?_; intro v' w' hown' hgr; obtain ⟨g', cap', rfl, hg'⟩ := own_some' hown' (by omega); have Hown := Lib.hid hown'; have Hgr := Lib.hid hgr; clear hown' hgr) | (refine step_copy_wide rfl (.tmp 30) (.tmp 43) 22 22 rfl 25 6 Tryz.underlying22 (by rw [hi]; exact congrArg some hz1) g2 (d*6) N N ⟨g', 0, none⟩ (0 + N) cap' N (by simp [Act.eval]) (by simp [Act.eval]) cur 25 ((Hgr.out.block g2 (by have := G1.out.2.2; simp; omega) (by simp)).trans Hcur.out.1) (Pl.flat B1) (by rw [Nat.zero_add]; exact (Nat.min_self N).symm) HL1.out (Hown.out.cells rfl) (by rw [HL1.out, Hcur.out.2.1]; have := Hcur.out.2.2.1; have := HM.out; omega) (Pl.flat_one B1) ?_)
  all_goals
    have T4 := Lib.hid (HT.out.2.2 w1.drew w' cur (Grown.drew G1.out) Hgr.out Hcur.out.2.1 Hcur.out.2.2.1 Hcur.out.1 Hcur.out.2.2.2)
    go_wp2_with fail
    go_ret
    exact ⟨rfl, T4.out⟩
end Go.Proofs.YtfmmomdmemcbbaaGreat
namespace Go.Proofs.YtfmmomdmemcbbaaGreat
set_option linter.unusedVariables false
open Go.RowKit
def Pl.rot (L : List Pl.Ob) (n : Nat) (j : Int) : List Pl.Ob :=
  L.take (L.length - n) ++ ((L.drop (L.length - n)).drop (n - (j % (n : Int)).toNat) ++ (L.drop (L.length - n)).take (n - (j % (n : Int)).toNat))
theorem Pl.rot_zero (L : List Pl.Ob) (j : Int) : Pl.rot L 0 j = L := by
  simp [Pl.rot]
theorem Pl.rot_len (L : List Pl.Ob) (n : Nat) (j : Int) (hn : n ≤ L.length) : (Pl.rot L n j).length = L.length := by
  simp [Pl.rot]; omega
theorem roll_none (base p : Nat) (v : Value) (L : List Pl.Ob) (hlen : L.length ≤ 300) (j : Int) (W : World) (hS : StkV base p v L W) :
    Calls Tryz.prog 37 #[.pointer (some ⟨p, 0, none⟩), .int .i64 0, .int .i64 j] W fun e w' => e = .returned (.int .i64 0) ∧ Grown W w' := by
  have CT := Lib.hid (top_zero base p v L hlen W hS)
  clear hS
  go_enter Tryz.func37, Tryz.ntmps37
  go_wp2_with fail
  refine CT.out.mono ?_
  rintro e w1 ⟨⟨ao, rfl⟩, g1⟩
  go_wp2_with fail
  go_ret
  exact ⟨rfl, g1⟩
theorem roll_ok (base p : Nat) (v : Value) (L : List Pl.Ob) (n : Nat) (j : Int) (hn : n ≤ L.length) (hlen : L.length ≤ 300) (W : World) (hS : StkV base p v L W) :
    Calls Tryz.prog 37 #[.pointer (some ⟨p, 0, none⟩), .int .i64 (n : Int), .int .i64 j] W fun e w' => e = .returned (.int .i64 0) ∧ StkV base p v (Pl.rot L n j) w' ∧ Fr (fun c => v.ownBlock = some c) W w' := by
  rcases Nat.eq_zero_or_pos n with rfl | hpos
  · refine (roll_none base p v L hlen j W hS).mono ?_
    rintro e w' ⟨rfl, g⟩
    rw [Pl.rot_zero]
    exact ⟨rfl, hS.fr (P := fun _ => False) (Fr.of_grown _ g) (fun f => f) (fun _ _ f => f), Fr.of_grown _ g⟩
  · obtain ⟨o, ho⟩ : ∃ o, L[0]? = some o := ⟨_, List.getElem?_eq_getElem (by omega)⟩
    obtain ⟨g, cap, rfl, hcap, _⟩ := hS.at 0 o ho
    have hA : (L.take (L.length - n)).length = L.length - n := by simp
    have hR : (L.drop (L.length - n)).length = n := by simp; omega
    have hk0 := Int.emod_nonneg j (show (n : Int) ≠ 0 by omega)
    have hk1 := Int.emod_lt_of_pos j (show (0 : Int) < n by omega)
    have hte : (0 ≤ j.tmod n ∧ j.tmod n = j % n) ∨ (j.tmod n < 0 ∧ j.tmod n + n = j % n ∧ 0 < j % n) := by
      rcases Int.lt_or_le j 0 with hj | hj
      · have e1 : j.tmod n = -((-j) % n) := by
          have := Int.neg_tmod (-j) n
          rw [Int.neg_neg] at this
          rw [this, Int.tmod_eq_emod_of_nonneg (by omega)]
        have h0 := Int.emod_nonneg (-j) (show (n : Int) ≠ 0 by omega)
        have h1 := Int.emod_lt_of_pos (-j) (show (0 : Int) < n by omega)
        by_cases hz : (-j) % n = 0
        · left
          refine ⟨by omega, ?_⟩
          rw [e1, hz]
          have : (n : Int) ∣ j := by
            have := Int.dvd_of_emod_eq_zero hz
            exact Int.dvd_neg.1 this
          rw [Int.emod_eq_zero_of_dvd this]; rfl
        · right
          refine ⟨by omega, ?_⟩
          suffices j.tmod n + n = j % n by omega
          obtain ⟨q, hq⟩ : ∃ q : Int, j = -((-j) % n) + n * q := ⟨-((-j) / n), by
            have h3 := Int.emod_add_mul_ediv (-j) n
            have h4 : (n : Int) * (-((-j) / n)) = -(n * ((-j) / n)) := Int.mul_neg _ _
            omega⟩
          rw [e1]
          generalize (-j) % (n : Int) = r at *
          rw [hq, Int.add_mul_emod_self_left, ← Int.add_emod_right, Int.emod_eq_of_lt (by omega) (by omega)]
      · left
        rw [Int.tmod_eq_emod_of_nonneg hj]
        exact ⟨hk0, rfl⟩
    have hLs : L = L.take (L.length - n) ++ L.drop (L.length - n) := (List.take_append_drop _ _).symm
    by_cases hz : j % (n : Int) = 0
    · have hS' : StkV base p (.slice (some ⟨g, 0, none⟩) L.length cap) (L.take (L.length - n) ++ L.drop (L.length - n)) W := by rw [← hLs]; exact hS
      refine (roll_whole base p g cap _ _ (L.length - n) n L.length j hA hR hpos (by omega) hlen (by omega) W hS').mono ?_
      rintro e w' ⟨rfl, h2, h3⟩
      have hr : Pl.rot L n j = L.take (L.length - n) ++ L.drop (L.length - n) := by
        unfold Pl.rot
        rw [hz, Int.toNat_zero, Nat.sub_zero, List.drop_of_length_le (Nat.le_of_eq hR), List.take_of_length_le (Nat.le_of_eq hR), List.nil_append]
      rw [hr]
      exact ⟨rfl, h2, ⟨h3.1, h3.2.1, h3.2.2.1, fun c hc hp => h3.2.2.2 c hc (fun q => hp (by rw [q]; rfl))⟩⟩
    · have hRs : L.drop (L.length - n) = (L.drop (L.length - n)).take (n - (j % (n : Int)).toNat) ++ (L.drop (L.length - n)).drop (n - (j % (n : Int)).toNat) := (List.take_append_drop _ _).symm
      have hS' : StkV base p (.slice (some ⟨g, 0, none⟩) L.length cap) (L.take (L.length - n) ++ ((L.drop (L.length - n)).take (n - (j % (n : Int)).toNat) ++ (L.drop (L.length - n)).drop (n - (j % (n : Int)).toNat))) W := by rw [← hRs, ← hLs]; exact hS
      refine (roll_core base p g cap _ _ _ (L.length - n) (n - (j % (n : Int)).toNat) (j % (n : Int)).toNat n L.length j hA (by rw [List.length_take, hR]; omega) (by rw [List.length_drop, hR]; omega) (by omega) (by omega) (by omega) (by omega) hlen (by omega) (by omega) W hS').mono ?_
      rintro e w' ⟨rfl, h2, h3⟩
      exact ⟨rfl, h2, ⟨h3.1, h3.2.1, h3.2.2.1, fun c hc hp => h3.2.2.2 c hc (fun q => hp (by rw [q]; rfl))⟩⟩
end Go.Proofs.YtfmmomdmemcbbaaGreat
namespace Go.Proofs.YtfmmomdmemcbbaaGreat
set_option linter.unusedVariables false
open Go.RowKit
theorem own_weaken {w : World} {b1 b2 : Nat} {e : TypeId} {size : Nat} {v : Value} {n : Nat} {xs : List Value} (h : w.ownsRow b1 e size v n xs) (hb : b2 ≤ b1) : w.ownsRow b2 e size v n xs := by
  refine ⟨h.1, ?_⟩
  rcases h.2 with h0 | ⟨g, cap, cur, hv, hb1, r⟩
  · exact .inl h0
  · exact .inr ⟨g, cap, cur, hv, Nat.le_trans hb hb1, r⟩
theorem own_base {w : World} {base : Nat} {e : TypeId} {size : Nat} {v : Value} {n : Nat} {xs : List Value} (h : w.ownsRow base e size v n xs) : ∀ g, v.ownBlock = some g → base ≤ g := by
  intro k hk
  rcases h.2 with ⟨rfl, _⟩ | ⟨g, cap, cur, rfl, hb, _⟩
  · cases hk
  · simp [Value.ownBlock] at hk
    subst hk
    exact hb
section
variable {P : Program} (w : World) (base : Nat) (t : TypeId) (e : TypeId) (i : TypeInfo) (z : Value) (size bytes : Nat) (ht : P.underlying t = some (.slice e)) (hi : P.info? e = some i) (hz : i.zero = some z)
    (hsize : i.size = size) (hby : i.bytes = bytes) (hzs : z.cells.size = size) (hsz : 0 < size)
    (v : Value) (n : Nat) (xs : List Value) (hown : w.ownsRow base e size v n xs)
    (ao : Option Addr) (m c : Nat) (news : List Value) (hnone : ao = none → m = 0) (hl : news.length = m * size) (hnews : ∀ ad, ao = some ad → ∀ j u, news[j]? = some u → w.cell? (ad.add j) = some u) (h1 : ∀ u ∈ news, u.oneCell' = true)
    (h63 : n + m ≤ maxLen) (hbytes : (n + m) * bytes ≤ 140737488355328) (hbase : base ≤ w.heap.size)
include ht hi hz hsize hby hzs hsz hown hnone hl hnews h1 h63 hbytes hbase
theorem run_append_all (ty : TypeId) : ∃ v' w', (Builtin.append_ #[t, t] ty #[v, .slice ao m c]).run P w = .ok v' w' ∧ w'.ownsRow base e size v' (n + m) (xs ++ news) ∧ w.grownBy w' v.ownBlock ∧ ∀ g, v'.ownBlock = some g → v.ownBlock = some g ∨ w.heap.size ≤ g := by
  cases ao with
  | none =>
    obtain rfl := hnone rfl
    obtain rfl : news = [] := List.eq_nil_of_length_eq_zero (by simpa using hl)
    exact ⟨v, w, run_append_owned_zero (P := P) w base t ty e i size ht hi v n xs hown none c, by simpa using hown, World.grownBy.refl _ _, fun g h => .inl h⟩
  | some ad =>
    rcases hown.2 with ⟨rfl, rfl⟩ | ⟨g, cap, cur, rfl, hb, hg, hnc, _⟩
    · obtain rfl : xs = [] := List.eq_nil_of_length_eq_zero (by simpa using hown.1)
      obtain ⟨v', w', r1, r2, r3, _⟩ := run_append_own (P := P) w w.heap.size t ty e i z size bytes ht hi hz hsize hby hzs hsz (.slice none 0 0) 0 [] (World.ownsRow_nil w _ e size) ad m c news hl (hnews ad rfl) h1 h63 hbytes (Nat.le_refl _)
      exact ⟨v', w', r1, own_weaken r2 hbase, r3, fun g h => .inr (own_base r2 g h)⟩
    · by_cases hroom : n + m ≤ cap
      · obtain ⟨w', r1, r2, r3⟩ := run_append_own_spare (P := P) w base t ty e i size ht hi hsize g n cap xs hown ad m c news hl (hnews ad rfl) h1 hroom
        exact ⟨_, w', r1, r2, r3, fun g2 h => .inl h⟩
      · obtain ⟨v', w', r1, r2, r3⟩ := run_append_arg_grows (P := P) w t ty e i z size bytes ht hi hz hsize hby hzs hsz ⟨g, 0, none⟩ n cap xs hown.1 (hown.cells rfl) ad m c news hl (hnews ad rfl) (by omega) h63 hbytes
        exact ⟨v', w', r1, own_weaken r2 hbase, ⟨r3.1, r3.2, r3.3, r3.4, fun k hk _ => r3.5 k hk (by simp)⟩, fun g2 h => .inr (own_base r2 g2 h)⟩
theorem wp_append_all {o : Oper} {a : Act} {K : Act → World → Prop} {Q : Exit → Act → World → Prop} (s x : Operand) (ho : o.op = .call { callee := .builtin .append, args := #[s, x], argTypes := #[t, t] })
    (hs : a.eval s = v) (hx : a.eval x = .slice ao m c)
    (h : ∀ v' w', w'.ownsRow base e size v' (n + m) (xs ++ news) → w.grownBy w' v.ownBlock → (∀ g, v'.ownBlock = some g → v.ownBlock = some g ∨ w.heap.size ≤ g) → K (a.put o.dst v') w') : o.wp P a w K Q := by
  obtain ⟨v', w', hr, h2, h3, h4⟩ := run_append_all (P := P) w base t e i z size bytes ht hi hz hsize hby hzs hsz v n xs hown ao m c news hnone hl hnews h1 h63 hbytes hbase o.type
  unfold Oper.wp execOp
  simp only [ho, resolve, invoke, builtin, Sem.run_bind, Sem.run_pure, Result.andThen_ok, List.map_toArray, List.map_cons, List.map_nil, hs, hx, hr]
  exact h v' w' h2 h3 h4
theorem wpList_append_all {ops : Array Oper} {rest : List Oper} {o : Oper} {a : Act} {Q : Exit → Act → World → Prop} (hgd : o.guard = none) (s x : Operand) (ho : o.op = .call { callee := .builtin .append, args := #[s, x], argTypes := #[t, t] })
    (hs : a.eval s = v) (hx : a.eval x = .slice ao m c)
    (h : ∀ v' w', w'.ownsRow base e size v' (n + m) (xs ++ news) → w.grownBy w' v.ownBlock → (∀ g, v'.ownBlock = some g → v.ownBlock = some g ∨ w.heap.size ≤ g) → wpList P ops Q rest (a.put o.dst v') w') : wpList P ops Q (o :: rest) a w :=
  wpList_plain hgd fun _ hK => wp_append_all w base t e i z size bytes ht hi hz hsize hby hzs hsz v n xs hown ao m c news hnone hl hnews h1 h63 hbytes hbase s x ho hs hx fun v' w' h2 h3 h4 => hK _ _ (h v' w' h2 h3 h4)
theorem step_append_all {ops : Array Oper} {o : Oper} {a : Act} {K : Act → World → Prop} {Q : Exit → Act → World → Prop} {E : Prop} (hgd : o.guard = none) (s x : Operand) (ho : o.op = .call { callee := .builtin .append, args := #[s, x], argTypes := #[t, t] })
    (hs : a.eval s = v) (hx : a.eval x = .slice ao m c)
    (h : ∀ v' w', w'.ownsRow base e size v' (n + m) (xs ++ news) → w.grownBy w' v.ownBlock → (∀ g, v'.ownBlock = some g → v.ownBlock = some g ∨ w.heap.size ≤ g) → K (a.put o.dst v') w') :
    if Region.wanted o (yielded ops a.tmps) = true then Oper.wp P o a w K Q else E := by
  have hw : Region.wanted o (yielded ops a.tmps) = true := by simp [Region.wanted, hgd]
  rw [if_pos hw]
  exact wp_append_all w base t e i z size bytes ht hi hz hsize hby hzs hsz v n xs hown ao m c news hnone hl hnews h1 h63 hbytes hbase s x ho hs hx h
end
theorem own_src {w : World} {base : Nat} {e : TypeId} {size : Nat} {ao : Option Addr} {n m cap : Nat} {xs : List Value} (h : w.ownsRow base e size (.slice ao m cap) n xs) : (ao = none → n = 0) ∧ ∀ ad, ao = some ad → ∀ j u, xs[j]? = some u → w.cell? (ad.add j) = some u := by
  rcases h.2 with ⟨hv, h0⟩ | ⟨g, cap, cur, hv, hb, hg, hc, r⟩
  · injection hv with hv1 _ _
    subst hv1
    exact ⟨fun _ => h0, fun ad q => by cases q⟩
  · injection hv with hv1 _ _
    subst hv1
    exact ⟨fun q => (by cases q), fun ad q => (by cases q; exact h.cells rfl)⟩
theorem items_any (base p : Nat) (v : Value) (L : List Pl.Ob) (hlen : L.length ≤ 300) (W : World) (hS : StkV base p v L W) :
    Calls Tryz.prog 12 #[.pointer (some ⟨p, 0, none⟩)] W fun e w' => ∃ vi, e = .returned vi ∧ w'.ownsRow W.heap.size 25 6 vi L.length (Pl.flat L) ∧ Fr (fun _ => False) W w' := by
  obtain ⟨i0, hi, hz0, hz1, hz2⟩ := info_parts Tryz.objInfo
  obtain ⟨ao, cap, rfl⟩ := hS.slice
  obtain ⟨h0, h1, hown, hne, hp⟩ := id hS
  obtain ⟨M, hM⟩ : ∃ M, M = L.length := ⟨_, rfl⟩
  rw [← hM] at hlen h0 hown
  rw [← hM]
  have HFL : Hid ((Pl.flat L).length = M * 6) := Lib.hid (by rw [Pl.flat_len, hM])
  have HO := Lib.hid (own_src hown)
  have HF := Lib.hid (Pl.flat_one L)
  clear hM hS hown hne
  go_enter Tryz.func12, Tryz.ntmps12
  go_wp2_with (at_builtin; refine wpList_append_all _ W.heap.size 22 25 i0 _ 6 56 Tryz.underlying22 hi hz0 hz1 hz2 rfl (by decide) (.slice none 0 0) 0 [] (World.ownsRow_nil _ _ _ _) ao M cap (Pl.flat L) HO.out.1 HFL.out HO.out.2 HF.out (by unfold maxLen; omega) (by omega) ?hbase (hgd := rfl) (.const (.slice none 0 0)) (.tmp 8) rfl (by simp [Act.eval]) (by simp [Act.eval]) ?hnext)
  case hbase => exact Nat.le_refl _
  case hnext =>
    intro v' w' hown' hgr hbl
    have Hown := Lib.hid hown'
    have Hgr := Lib.hid hgr
    clear hown' hgr
    go_wp2_with fail
    go_ret
    exact ⟨_, rfl, Hown.out, Fr.grown _ Hgr.out (by intro k q; cases q)⟩
theorem clear_any (base p : Nat) (v : Value) (L : List Pl.Ob) (W : World) (hS : StkV base p v L W) :
    Calls Tryz.prog 38 #[.pointer (some ⟨p, 0, none⟩)] W fun e w' => e = .returned (.tuple #[]) ∧ StkV base p (.slice none 0 0) [] w' ∧ Fr (fun c => c = p) W w' := by
  obtain ⟨h0, h1, hown, hne, hp⟩ := id hS
  clear hS
  go_enter Tryz.func38, Tryz.ntmps38
  go_wp2_with fail
  all_goals
    go_end0
    exact ⟨rfl, ⟨World.cell?_setCell_same' _ _ _ (by rw [h0]; rfl), by simpa using h1, World.ownsRow_nil _ _ _ _, by simp [Value.ownBlock], by simpa using hp⟩, Fr.setCell _ _ _ _ rfl⟩
end Go.Proofs.YtfmmomdmemcbbaaGreat
namespace Go.Proofs.YtfmmomdmemcbbaaGreat
set_option linter.unusedVariables false
open Go.RowKit
theorem some_setCell {w : World} {p q : Addr} {x : Value} (h : (w.cell? q).isSome = true) : ((w.setCell p x).cell? q).isSome = true := by
  obtain ⟨u, hu⟩ := Option.isSome_iff_exists.1 h
  obtain ⟨u', hu'⟩ := cell?_setCell_some (p := p) (x := x) hu
  rw [hu']
  rfl
theorem obs_set (Z : World) (b : Nat) (h : ∀ o, o < 6 → (Z.cell? ⟨b, o, none⟩).isSome = true) (k : Int) (x : Bool) (n a l : Int) (s : ByteArray) (Y : World) (hY : Y = ((((((Z.setCell ⟨b, 0, none⟩ (.int .i64 k)).setCell ⟨b, 1, none⟩ (.bool x)).setCell ⟨b, 2, none⟩ (.int .i64 n)).setCell ⟨b, 3, none⟩ (.int .i64 a)).setCell ⟨b, 4, none⟩ (.int .i64 l)).setCell ⟨b, 5, none⟩ (.string s))) :
    Y.cell? ⟨b, 0, none⟩ = some (.int .i64 k) ∧ Y.cell? ⟨b, 1, none⟩ = some (.bool x) ∧ Y.cell? ⟨b, 2, none⟩ = some (.int .i64 n) ∧ Y.cell? ⟨b, 3, none⟩ = some (.int .i64 a) ∧ Y.cell? ⟨b, 4, none⟩ = some (.int .i64 l) ∧ Y.cell? ⟨b, 5, none⟩ = some (.string s) := by
  subst hY
  have h0 := h 0 (by omega)
  have h1 := h 1 (by omega)
  have h2 := h 2 (by omega)
  have h3 := h 3 (by omega)
  have h4 := h 4 (by omega)
  have h5 := h 5 (by omega)
  refine ⟨?_, ?_, ?_, ?_, ?_, ?_⟩ <;> simp [World.cell?_setCell_other, World.cell?_setCell_same', h0, h1, h2, h3, h4, h5]
theorem own_shrink {w : World} {base : Nat} {e : TypeId} {size g N cap : Nat} {xs : List Value} (h : w.ownsRow base e size (.slice (some ⟨g, 0, none⟩) N cap) N xs) (m : Nat) (hm : m ≤ N) (ys : List Value) (hy : ys = xs.take (m * size)) : w.ownsRow base e size (.slice (some ⟨g, 0, none⟩) m cap) m ys := by
  have hl := h.1
  have hms : m * size ≤ N * size := Nat.mul_le_mul_right _ hm
  rcases h.2 with ⟨hq, _⟩ | ⟨g2, cap2, cur, hq, hb, hg, hc, hc2, hs, ht⟩
  · cases hq
  · injection hq with q1 q2 q3
    cases q1
    subst q3
    refine ⟨by rw [hy, List.length_take]; omega, .inr ⟨g, cap, cur, rfl, hb, hg, by omega, hc2, hs, ?_⟩⟩
    rw [hy, ← ht, List.take_take, Nat.min_eq_left hms]
theorem pop_ok (base p : Nat) (v : Value) (L : List Pl.Ob) (k : Int) (x : Bool) (n a l : Int) (s : ByteArray) (hlen : L.length ≤ 299) (W : World) (hS : StkV base p v (L ++ [(k, x, n, a, l, s)]) W) :
    Calls Tryz.prog 58 #[.pointer (some ⟨p, 0, none⟩)] W fun e w' => e = .returned (.tuple #[obv k x n a l s, .int .i64 0]) ∧ (∃ v', StkV base p v' L w' ∧ v'.ownBlock = v.ownBlock) ∧ Fr (fun c => c = p) W w' := by
  have hl : (L ++ [(k, x, n, a, l, s)]).length = L.length + 1 := by simp
  have CP := Lib.hid (peek_ok base p v (L ++ [(k, x, n, a, l, s)]) 0 L.length k x n a l s (by omega) (by simp) (by omega) _ (hS.fr (Fr.alloc (fun _ => False) W (.cells #[.int .i64 0, .bool false, .int .i64 0, .int .i64 0, .int .i64 0, .string ⟨#[]⟩] 25)) (fun h => h) (fun _ _ h => h)))
  obtain ⟨g, cap, rfl, hcap, -, -, -, -, -, -⟩ := hS.at L.length (k, x, n, a, l, s) (by simp)
  obtain ⟨h0, h1, hown, hne, hp⟩ := id hS
  rw [hl] at h0 hcap hown
  go_enter Tryz.func58, Tryz.ntmps58
  go_wp2_with fail
  refine (CP.out).mono ?_
  rintro e w1 ⟨rfl, g1⟩
  clear hS
  have hp1 : w1.cell? ⟨p, 0, none⟩ = some (.slice (some ⟨g, 0, none⟩) (L.length + 1) cap) := grown_cell g1 ((World.cell?_alloc_past _ _ _ hp).trans h0)
  have hf1 : w1.frozen? ⟨p, 0, none⟩ = false := by rw [g1.2.1, frozen?_alloc_cells]; exact h1
  have hO : ObS W W.heap.size 0 false 0 0 0 ⟨#[]⟩ w1 := ObS.grow (by exact ⟨by simp [go_sem], by simp [go_sem], by simp [go_sem], by simp [go_sem], by simp [go_sem], by simp [go_sem], by (repeat (first | exact Grown.refl _ | assumption | apply Grown.drew | apply Grown.alloc))⟩) g1
  have hf2 : ∀ o, w1.frozen? ⟨W.heap.size, o, none⟩ = false := by intro o; rw [g1.2.1, frozen?_alloc_cells]; simp [World.frozen?]
  have hsz := g1.2.2
  obtain ⟨o0, o1, o2, o3, o4, o5, og⟩ := id hO
  have hpn : ¬ p = W.heap.size := by omega
  have hpn' : ¬ W.heap.size = p := by omega
  have hex : ∀ o, o < 6 → ((((((((w1.setCell ⟨W.heap.size, 0, none⟩ (.int .i64 k)).setCell ⟨W.heap.size, 1, none⟩ (.bool x)).setCell ⟨W.heap.size, 2, none⟩ (.int .i64 n)).setCell ⟨W.heap.size, 3, none⟩ (.int .i64 a)).setCell ⟨W.heap.size, 4, none⟩ (.int .i64 l)).setCell ⟨W.heap.size, 5, none⟩ (.string s)).setCell ⟨p, 0, none⟩ (.slice (some ⟨g, 0, none⟩) L.length cap)).cell? ⟨W.heap.size, o, none⟩).isSome = true := by
    intro o ho
    have : (w1.cell? ⟨W.heap.size, o, none⟩).isSome = true := by
      rcases (show o = 0 ∨ o = 1 ∨ o = 2 ∨ o = 3 ∨ o = 4 ∨ o = 5 by omega) with rfl | rfl | rfl | rfl | rfl | rfl
      · rw [o0]; rfl
      · rw [o1]; rfl
      · rw [o2]; rfl
      · rw [o3]; rfl
      · rw [o4]; rfl
      · rw [o5]; rfl
    exact some_setCell (some_setCell (some_setCell (some_setCell (some_setCell (some_setCell (some_setCell this))))))
  have HEX := Lib.hid hex
  clear hex
  have e1 : ((L.length + 1 : Nat) : Int) - 1 = L.length := by omega
  have e2 : (L.length : Int) ≤ 299 := by omega
  have e3 : (0 : Int) ≤ L.length := by omega
  have e4 : (L.length : Int) ≤ (cap : Int) := by omega
  go_wp2_with fail
  go_region
  all_goals
    go_wp2_with fail
    obtain ⟨y0, y1, y2, y3, y4, y5⟩ := obs_set (((((((w1.setCell ⟨W.heap.size, 0, none⟩ (.int .i64 k)).setCell ⟨W.heap.size, 1, none⟩ (.bool x)).setCell ⟨W.heap.size, 2, none⟩ (.int .i64 n)).setCell ⟨W.heap.size, 3, none⟩ (.int .i64 a)).setCell ⟨W.heap.size, 4, none⟩ (.int .i64 l)).setCell ⟨W.heap.size, 5, none⟩ (.string s)).setCell ⟨p, 0, none⟩ (.slice (some ⟨g, 0, none⟩) L.length cap)) W.heap.size HEX.out k x n a l s _ rfl
    refine bodyPost_ret (v := .tuple #[obv k x n a l s, .int .i64 0]) (by simp [results, Tryz.results58, go_sem, y0, y1, y2, y3, y4, y5]) rfl ?_
    have hgp : ¬ g = p := fun e => hne (by rw [e]; rfl)
    have hF : Fr (fun c => c = p) W w1 := (Fr.alloc _ W _).trans (Fr.of_grown _ g1)
    have hF2 : ∀ (Z : World) (o : Nat) (u : Value), Fr (fun c => c = p) W Z → Fr (fun c => c = p) W (Z.setCell ⟨W.heap.size, o, none⟩ u) := fun Z o u h => h.trans' (Fr.setCell (fun c => c = W.heap.size) Z ⟨W.heap.size, o, none⟩ u rfl) (fun i q => .inr (by omega))
    have key : ∀ Z : World, Fr (fun c => c = p) W Z → Z.cell? ⟨p, 0, none⟩ = some (.slice (some ⟨g, 0, none⟩) L.length cap) → Z.frozen? ⟨p, 0, none⟩ = false → (∃ v', StkV base p v' L Z ∧ v'.ownBlock = (Value.slice (some ⟨g, 0, none⟩) (L.length + 1) cap).ownBlock) ∧ Fr (fun c => c = p) W Z :=
      fun Z hFF hc hf => ⟨⟨.slice (some ⟨g, 0, none⟩) L.length cap, ⟨hc, hf, own_fr (own_shrink hown L.length (by omega) _ (by simp [Pl.flat_append, Pl.flat_len])) hFF (fun g2 q h => hgp ((Option.some.inj q).trans h)), hne, Nat.lt_of_lt_of_le hp hFF.2.2.1⟩, rfl⟩, hFF⟩
    refine ⟨rfl, key _ ?_ ?_ ?_⟩
    · exact Fr.drew (hF2 _ _ _ (hF2 _ _ _ (hF2 _ _ _ (hF2 _ _ _ (hF2 _ _ _ (hF2 _ _ _ ((hF2 _ _ _ (hF2 _ _ _ (hF2 _ _ _ (hF2 _ _ _ (hF2 _ _ _ (hF2 _ _ _ hF)))))).trans (Fr.setCell _ _ ⟨p, 0, none⟩ (.slice (some ⟨g, 0, none⟩) L.length cap) rfl))))))))
    · simp [go_sem, hp1]
    · simp [hf1]
theorem pop_none (base p : Nat) (v : Value) (W : World) (hS : StkV base p v [] W) :
    Calls Tryz.prog 58 #[.pointer (some ⟨p, 0, none⟩)] W fun e w' => e = .returned (.tuple #[obv 0 false 0 0 0 ⟨#[]⟩, .int .i64 7]) ∧ Grown W w' := by
  have CP := Lib.hid (peek_under base p v [] 0 (by omega) (by simp) _ (hS.fr (Fr.alloc (fun _ => False) W (.cells #[.int .i64 0, .bool false, .int .i64 0, .int .i64 0, .int .i64 0, .string ⟨#[]⟩] 25)) (fun h => h) (fun _ _ h => h)))
  clear hS
  go_enter Tryz.func58, Tryz.ntmps58
  go_wp2_with fail
  refine (CP.out).mono ?_
  rintro e w1 ⟨rfl, g1⟩
  have hO : ObS W W.heap.size 0 false 0 0 0 ⟨#[]⟩ w1 := ObS.grow (by exact ⟨by simp [go_sem], by simp [go_sem], by simp [go_sem], by simp [go_sem], by simp [go_sem], by simp [go_sem], by (repeat (first | exact Grown.refl _ | assumption | apply Grown.drew | apply Grown.alloc))⟩) g1
  have hf2 : ∀ o, w1.frozen? ⟨W.heap.size, o, none⟩ = false := by intro o; rw [g1.2.1, frozen?_alloc_cells]; simp [World.frozen?]
  have hsz := g1.2.2
  obtain ⟨o0, o1, o2, o3, o4, o5, og⟩ := id hO
  have hex : ∀ o, o < 6 → (((((((w1.setCell ⟨W.heap.size, 0, none⟩ (.int .i64 0)).setCell ⟨W.heap.size, 1, none⟩ (.bool false)).setCell ⟨W.heap.size, 2, none⟩ (.int .i64 0)).setCell ⟨W.heap.size, 3, none⟩ (.int .i64 0)).setCell ⟨W.heap.size, 4, none⟩ (.int .i64 0)).setCell ⟨W.heap.size, 5, none⟩ (.string ⟨#[]⟩)).cell? ⟨W.heap.size, o, none⟩).isSome = true := by
    intro o ho
    have : (w1.cell? ⟨W.heap.size, o, none⟩).isSome = true := by
      rcases (show o = 0 ∨ o = 1 ∨ o = 2 ∨ o = 3 ∨ o = 4 ∨ o = 5 by omega) with rfl | rfl | rfl | rfl | rfl | rfl
      · rw [o0]; rfl
      · rw [o1]; rfl
      · rw [o2]; rfl
      · rw [o3]; rfl
      · rw [o4]; rfl
      · rw [o5]; rfl
    exact some_setCell (some_setCell (some_setCell (some_setCell (some_setCell (some_setCell this)))))
  have HEX := Lib.hid hex
  clear hex
  go_wp2_with fail
  obtain ⟨y0, y1, y2, y3, y4, y5⟩ := obs_set ((((((w1.setCell ⟨W.heap.size, 0, none⟩ (.int .i64 0)).setCell ⟨W.heap.size, 1, none⟩ (.bool false)).setCell ⟨W.heap.size, 2, none⟩ (.int .i64 0)).setCell ⟨W.heap.size, 3, none⟩ (.int .i64 0)).setCell ⟨W.heap.size, 4, none⟩ (.int .i64 0)).setCell ⟨W.heap.size, 5, none⟩ (.string ⟨#[]⟩)) W.heap.size HEX.out 0 false 0 0 0 ⟨#[]⟩ _ rfl
  have hG2 : ∀ (Z : World) (o : Nat) (u : Value), Grown W Z → Grown W (Z.setCell ⟨W.heap.size, o, none⟩ u) := fun Z o u h => Grown.setCell h (by simp) _
  refine bodyPost_ret (v := .tuple #[obv 0 false 0 0 0 ⟨#[]⟩, .int .i64 7]) (by simp [results, Tryz.results58, go_sem, y0, y1, y2, y3, y4, y5]) rfl ⟨rfl, hG2 _ _ _ (hG2 _ _ _ (hG2 _ _ _ (hG2 _ _ _ (hG2 _ _ _ (hG2 _ _ _ (hG2 _ _ _ (hG2 _ _ _ (hG2 _ _ _ (hG2 _ _ _ (hG2 _ _ _ (hG2 _ _ _ (og))))))))))))⟩
end Go.Proofs.YtfmmomdmemcbbaaGreat
namespace Go.Proofs.YtfmmomdmemcbbaaGreat
set_option linter.unusedVariables false
open Go.RowKit
theorem own_slice {w : World} {base : Nat} {e : TypeId} {size : Nat} {v : Value} {n : Nat} {xs : List Value} (h : w.ownsRow base e size v n xs) : ∃ ao cap, v = .slice ao n cap := by
  rcases h.2 with ⟨rfl, h0⟩ | ⟨g, cap, cur, rfl, _⟩
  · exact ⟨none, 0, by rw [h0]⟩
  · exact ⟨_, _, rfl⟩
end Go.Proofs.YtfmmomdmemcbbaaGreat
namespace Go.Proofs.YtfmmomdmemcbbaaGreat
set_option linter.unusedVariables false
open Go.RowKit
def RowV (W : World) (v : Value) (L : List Pl.Ob) : Prop :=
  ∃ ao cap, v = .slice ao L.length cap ∧ (L = [] ∨ ∃ g o, ao = some ⟨g, o, none⟩ ∧ g < W.heap.size ∧ ∀ j u, (Pl.flat L)[j]? = some u → W.cell? ⟨g, o + j, none⟩ = some u)
theorem RowV.fr {P : Nat → Prop} {W W' : World} {ao : Option Addr} {m cap : Nat} {L : List Pl.Ob} (h : RowV W (.slice ao m cap) L) (k : Fr P W W') (hp : ∀ a, ao = some a → ¬ P a.block) : RowV W' (.slice ao m cap) L := by
  obtain ⟨ao2, cap2, hv, h⟩ := h
  injection hv with q1 q2 q3
  subst q1
  refine ⟨ao, cap2, by rw [q2, q3], ?_⟩
  rcases h with h | ⟨g, o, rfl, hg, h⟩
  · exact .inl h
  · exact .inr ⟨g, o, rfl, Nat.lt_of_lt_of_le hg k.2.2.1, fun j u hu => (k.cell (a := ⟨g, o + j, none⟩) hg (hp ⟨g, o, none⟩ rfl)).trans (h j u hu)⟩
theorem RowV.grown {W W' : World} {v : Value} {L : List Pl.Ob} (h : RowV W v L) (k : Grown W W') : RowV W' v L := by
  obtain ⟨ao, cap, rfl, _⟩ := id h
  exact h.fr (P := fun _ => False) (Fr.of_grown _ k) (fun _ _ f => f)
theorem own_row {base : Nat} {v : Value} {L : List Pl.Ob} {W : World} (c : W.ownsRow base 25 6 v L.length (Pl.flat L)) : RowV W v L := by
  have hl := own_lt c
  rcases c.2 with ⟨rfl, h0⟩ | ⟨g, cap, cur, rfl, hb, hg, hc, r⟩
  · exact ⟨none, 0, by rw [h0], .inl (List.eq_nil_of_length_eq_zero h0)⟩
  · refine ⟨_, cap, rfl, .inr ⟨g, 0, rfl, hl g rfl, fun j u hu => ?_⟩⟩
    have hj := (List.getElem?_eq_some_iff.1 hu).1
    rw [Pl.flat_len] at hj
    rw [Nat.zero_add, c.cellAt _ hj, hu]
theorem RowV.at {W : World} {v : Value} {L : List Pl.Ob} (h : RowV W v L) (j : Nat) (q : Pl.Ob) (hj : L[j]? = some q) : ∃ g o cap, v = .slice (some ⟨g, o, none⟩) L.length cap ∧ g < W.heap.size ∧
    W.cell? ⟨g, o + j * 6, none⟩ = some (.int .i64 q.1) ∧ W.cell? ⟨g, o + j * 6 + 1, none⟩ = some (.bool q.2.1) ∧ W.cell? ⟨g, o + j * 6 + 2, none⟩ = some (.int .i64 q.2.2.1) ∧ W.cell? ⟨g, o + j * 6 + 3, none⟩ = some (.int .i64 q.2.2.2.1) ∧
    W.cell? ⟨g, o + j * 6 + 4, none⟩ = some (.int .i64 q.2.2.2.2.1) ∧ W.cell? ⟨g, o + j * 6 + 5, none⟩ = some (.string q.2.2.2.2.2) := by
  have hl : j < L.length := (List.getElem?_eq_some_iff.1 hj).1
  obtain ⟨ao, cap, rfl, h | ⟨g, o, rfl, hg, h⟩⟩ := h
  · rw [h] at hl; simp at hl
  · refine ⟨g, o, cap, rfl, hg, ?_, ?_, ?_, ?_, ?_, ?_⟩
    · exact h (j * 6) _ ((Pl.flat_get L j q hj 0 (by omega)).trans rfl)
    · rw [Nat.add_assoc]; exact h (j * 6 + 1) _ ((Pl.flat_get L j q hj 1 (by omega)).trans rfl)
    · rw [Nat.add_assoc]; exact h (j * 6 + 2) _ ((Pl.flat_get L j q hj 2 (by omega)).trans rfl)
    · rw [Nat.add_assoc]; exact h (j * 6 + 3) _ ((Pl.flat_get L j q hj 3 (by omega)).trans rfl)
    · rw [Nat.add_assoc]; exact h (j * 6 + 4) _ ((Pl.flat_get L j q hj 4 (by omega)).trans rfl)
    · rw [Nat.add_assoc]; exact h (j * 6 + 5) _ ((Pl.flat_get L j q hj 5 (by omega)).trans rfl)
end Go.Proofs.YtfmmomdmemcbbaaGreat
namespace Go.Proofs.YtfmmomdmemcbbaaGreat
set_option linter.unusedVariables false
open Go.RowKit
theorem Pl.fd_none : ∀ (R : List Pl.Ob), (∀ (i : Nat) (q : Pl.Ob), i < R.length → R[i]? = some q → q.1 ≠ 6) → R.findIdx? (fun q => q.1 == 6) = none := by
  intro R h
  rw [List.findIdx?_eq_none_iff]
  intro q hq
  obtain ⟨i, hi⟩ := List.getElem?_of_mem hq
  simpa using h i q (List.getElem?_eq_some_iff.1 hi).1 hi
theorem Pl.fd_some (R : List Pl.Ob) (k : Nat) (q : Pl.Ob) (hk : R[k]? = some q) (hq : q.1 = 6) (h : ∀ (i : Nat) (q : Pl.Ob), i < k → R[i]? = some q → q.1 ≠ 6) : R.findIdx? (fun q => q.1 == 6) = some k := by
  obtain ⟨hl, he⟩ := List.getElem?_eq_some_iff.1 hk
  rw [List.findIdx?_eq_some_iff_getElem]
  refine ⟨hl, by rw [he]; simpa using hq, fun j hj => ?_⟩
  simpa using h j _ hj (List.getElem?_eq_getElem (by omega))
def Pl.toMark (L : List Pl.Ob) : Int × Int := match L.reverse.findIdx? (fun q => q.1 == 6) with | some i => ((i : Int), 0) | none => (0, 10)
theorem Pl.rev_at (L : List Pl.Ob) (k : Nat) (hk : k < L.length) : ∃ q, L.reverse[k]? = some q ∧ L[L.length - 1 - k]? = some q := by
  refine ⟨L[L.length - 1 - k]'(by omega), ?_, List.getElem?_eq_getElem _⟩
  rw [List.getElem?_reverse hk]
  exact List.getElem?_eq_getElem _
theorem tomark_any (base p : Nat) (v : Value) (L : List Pl.Ob) (hlen : L.length ≤ 300) (W : World) (hS : StkV base p v L W) :
    Calls Tryz.prog 40 #[.pointer (some ⟨p, 0, none⟩)] W fun e w' => e = .returned (.tuple #[.int .i64 (Pl.toMark L).1, .int .i64 (Pl.toMark L).2]) ∧ Grown W w' := by
  have HS := Lib.hid hS
  obtain ⟨ao, cap, rfl⟩ := hS.slice
  have h0 := hS.1
  obtain ⟨M, hM⟩ : ∃ M, M = L.length := ⟨_, rfl⟩
  rw [← hM] at h0
  have HM := Lib.hid hM
  have e1 : (M : Int) ≤ 300 := by omega
  have hlen' := hlen
  have HL := Lib.hid hlen'
  clear hS hM hlen hlen'
  go_enter Tryz.func40, Tryz.ntmps40
  go_wp2_with fail
  go_loopw [14] (fun i wr => ∃ k : Nat, i = .int .i64 (k : Int) ∧ k ≤ M ∧ Grown W wr ∧ Hid (∀ (i : Nat) (q : Pl.Ob), i < k → L.reverse[i]? = some q → q.1 ≠ 6)) (fun i _ => ((M : Int) - intOf i).toNat)
  case atStart => exact ⟨0, rfl, by omega, Grown.refl W, Lib.hid (fun i q h => absurd h (by omega))⟩
  case round =>
    obtain ⟨k, rfl, hk, g1, hall⟩ := hrel
    go_wp2_with fail
    · obtain ⟨⟨kk, x, n, a, l, s⟩, hq1, hq2⟩ := Pl.rev_at L k (by have := HM.out; omega)
      have CP := Lib.hid (peek_ok base p _ L k (L.length - 1 - k) kk x n a l s (by have := HM.out; omega) hq2 HL.out wr (HS.out.fr (P := fun _ => False) (Fr.of_grown _ g1) (fun f => f) (fun _ _ f => f)))
      have HQ := Lib.hid hq1
      clear hq1 hq2
      refine CP.out.mono ?_
      rintro e w1 ⟨rfl, g2⟩
      go_wp2_with fail
      · rename_i hkk
        go_ret2
        refine ⟨?_, (grown_trans g1 g2).alloc _ _⟩
        rw [Pl.toMark, Pl.fd_some L.reverse k _ HQ.out (by simpa using hkk) hall.out]
        rfl
      · rename_i hkk
        refine ⟨⟨k + 1, by simp, by omega, (grown_trans g1 g2).alloc _ _, Lib.hid ?_⟩, by simp [intOf] <;> omega⟩
        intro i q hi hq
        rcases Nat.lt_succ_iff_lt_or_eq.1 hi with h | rfl
        · exact hall.out i q h hq
        · rw [HQ.out] at hq
          injection hq with hq
          rw [← hq]
          simpa using hkk
    · go_ret2
      refine ⟨?_, g1⟩
      rw [Pl.toMark, Pl.fd_none L.reverse (fun i q hi hq => hall.out i q (by rw [List.length_reverse] at hi; have := HM.out; omega) hq)]
      rfl
end Go.Proofs.YtfmmomdmemcbbaaGreat
namespace Go.Proofs.YtfmmomdmemcbbaaGreat
set_option linter.unusedVariables false
open Go.RowKit
def Pl.mayO (o : Pl.Ob) : Prop := Pl.may o.1 o.2.2.1 o.2.2.2.1 o.2.2.2.2.1 o.2.2.2.2.2
theorem RowV.src {W : World} {ao : Option Addr} {m cap : Nat} {L : List Pl.Ob} (h : RowV W (.slice ao m cap) L) : (ao = none → L.length = 0) ∧ ∀ ad, ao = some ad → ∀ j u, (Pl.flat L)[j]? = some u → W.cell? (ad.add j) = some u := by
  obtain ⟨ao2, cap2, hv, h⟩ := h
  injection hv with q1 q2 q3
  subst q1
  rcases h with rfl | ⟨g, o, rfl, hg, h⟩
  · exact ⟨fun _ => rfl, fun ad _ j u hu => by simp [Pl.flat] at hu⟩
  · refine ⟨fun q => (by cases q), fun ad q j u hu => ?_⟩
    cases q
    rw [show (⟨g, o, none⟩ : Addr).add j = ⟨g, o + j, none⟩ from by simp [Addr.add]]
    exact h j u hu
theorem become_bad (p : Nat) (v : Value) (L : List Pl.Ob) (hlen : L.length ≤ 300) (j : Nat) (o : Pl.Ob) (hj : L[j]? = some o) (ho : ¬ Pl.mayO o) (W : World) (hR : RowV W v L) :
    Calls Tryz.prog 7 #[.pointer (some ⟨p, 0, none⟩), v] W fun e w' => e = .returned (.int .i64 1) ∧ Grown W w' := by
  obtain ⟨ao, cap, rfl, -⟩ := id hR
  have HR := Lib.hid hR
  have hjl := (List.getElem?_eq_some_iff.1 hj).1
  obtain ⟨M, hM⟩ : ∃ M, M = L.length := ⟨_, rfl⟩
  have HM := Lib.hid hM
  have HJ := Lib.hid hj
  have HO := Lib.hid ho
  rw [← hM] at hlen hjl
  rw [← hM]
  clear hR hM hj ho
  go_enter Tryz.func7, Tryz.ntmps7
  go_wp2_with fail
  go_loopw [11] (fun i wr => ∃ k : Nat, i = .int .i64 (k : Int) ∧ k ≤ j ∧ Grown W wr) (fun i _ => ((M : Int) - intOf i).toNat)
  case atStart => exact ⟨0, rfl, by omega, Grown.refl W⟩
  case round =>
    obtain ⟨k, rfl, hk, g1⟩ := hrel
    obtain ⟨⟨kk, x, n, a, l, s⟩, hq⟩ : ∃ q, L[k]? = some q := ⟨_, List.getElem?_eq_getElem (by have := HM.out; omega)⟩
    obtain ⟨ga, oa, ca, hva, hga, a0, a1, a2, a3, a4, a5⟩ := (HR.out.grown g1).at k _ hq
    injection hva with q1 q2 q3
    subst q1
    clear q2 q3
    have HQ := Lib.hid hq
    clear hq
    have hkM : (k : Int) < (M : Int) := by omega
    by_cases hm : Pl.may kk n a l s
    · have CM := Lib.hid (fun W => may_yes kk x n a l s hm W)
      have hkj : k < j := by
        rcases Nat.lt_or_ge k j with h | h
        · exact h
        · obtain rfl : k = j := by omega
          have := HQ.out
          rw [HJ.out] at this
          injection this with this
          exact absurd (by rw [this]; exact hm) HO.out
      clear hm
      go_wp2_with fail
      refine (CM.out _).mono ?_
      rintro e w1 ⟨rfl, g2⟩
      go_wp2_with fail
      exact ⟨⟨k + 1, by simp, by omega, grown_trans (g1.alloc _ _) g2⟩, by simp [intOf] <;> omega⟩
    · have CM := Lib.hid (fun W => may_no kk x n a l s hm W)
      clear hm
      go_wp2_with fail
      refine (CM.out _).mono ?_
      rintro e w1 ⟨rfl, g2⟩
      go_wp2_with fail
      go_ret
      exact ⟨rfl, grown_trans (g1.alloc _ _) g2⟩
theorem become_over (base p : Nat) (v v0 : Value) (L : List Pl.Ob) (hlen : 200 < L.length ∧ L.length ≤ 400) (hall : ∀ (j : Nat) (o : Pl.Ob), L[j]? = some o → Pl.mayO o) (W : World) (hR : RowV W v L) (h0 : W.cell? ⟨p, 0, none⟩ = some v0) (h1 : W.frozen? ⟨p, 0, none⟩ = false) (hp : p < W.heap.size) (hb : base ≤ W.heap.size) :
    Calls Tryz.prog 7 #[.pointer (some ⟨p, 0, none⟩), v] W fun e w' => e = .returned (.int .i64 8) ∧ Grown W w' := by
  obtain ⟨i0, hi, hz0, hz1, hz2⟩ := info_parts Tryz.objInfo
  obtain ⟨ao, cap, rfl, -⟩ := id hR
  have HR := Lib.hid hR
  obtain ⟨M, hM⟩ : ∃ M, M = L.length := ⟨_, rfl⟩
  have HM := Lib.hid hM
  have HA := Lib.hid hall
  have HFL : Hid ((Pl.flat L).length = M * 6) := Lib.hid (by rw [Pl.flat_len, hM])
  have HF := Lib.hid (Pl.flat_one L)
  rw [← hM] at hlen
  rw [← hM]
  clear hR hM hall
  go_enter Tryz.func7, Tryz.ntmps7
  go_wp2_with fail
  go_loopw [11] (fun i wr => ∃ k : Nat, i = .int .i64 (k : Int) ∧ k ≤ M ∧ Grown W wr) (fun i _ => ((M : Int) - intOf i).toNat)
  case atStart => exact ⟨0, rfl, by omega, Grown.refl W⟩
  case round =>
    obtain ⟨k, rfl, hk, g1⟩ := hrel
    rcases Nat.lt_or_eq_of_le hk with hkm | hkm
    · obtain ⟨⟨kk, x, n, a, l, s⟩, hq⟩ : ∃ q, L[k]? = some q := ⟨_, List.getElem?_eq_getElem (by have := HM.out; omega)⟩
      obtain ⟨ga, oa, ca, hva, hga, a0, a1, a2, a3, a4, a5⟩ := (HR.out.grown g1).at k _ hq
      injection hva with q1 q2 q3
      subst q1
      clear q2 q3
      have CM := Lib.hid (fun W => may_yes kk x n a l s (HA.out _ _ hq) W)
      clear hq
      have hkM : (k : Int) < (M : Int) := by omega
      go_wp2_with fail
      refine (CM.out _).mono ?_
      rintro e w1 ⟨rfl, g2⟩
      go_wp2_with fail
      exact ⟨⟨k + 1, by simp, by omega, grown_trans (g1.alloc _ _) g2⟩, by simp [intOf] <;> omega⟩
    · subst hkm
      have hsz := g1.2.2
      have f1 : wr.frozen? ⟨p, 0, none⟩ = false := by rw [g1.2.1]; exact h1
      have c1 := grown_cell g1 h0
      have HS1 := Lib.hid (HR.out.grown g1).src
      have hsz1 : W.heap.size ≤ wr.heap.size := hsz
      go_wp2_with fail
      go_ret
      exact ⟨rfl, g1⟩
theorem become_ok (base p : Nat) (v v0 : Value) (L : List Pl.Ob) (hlen : L.length ≤ 200) (hall : ∀ (j : Nat) (o : Pl.Ob), L[j]? = some o → Pl.mayO o) (W : World) (hR : RowV W v L) (h0 : W.cell? ⟨p, 0, none⟩ = some v0) (h1 : W.frozen? ⟨p, 0, none⟩ = false) (hp : p < W.heap.size) (hb : base ≤ W.heap.size) :
    Calls Tryz.prog 7 #[.pointer (some ⟨p, 0, none⟩), v] W fun e w' => e = .returned (.int .i64 0) ∧
      (∃ v', StkV base p v' L w' ∧ ∀ g, v'.ownBlock = some g → W.heap.size ≤ g) ∧ Fr (fun c => c = p) W w' := by
  obtain ⟨i0, hi, hz0, hz1, hz2⟩ := info_parts Tryz.objInfo
  obtain ⟨ao, cap, rfl, -⟩ := id hR
  have HR := Lib.hid hR
  obtain ⟨M, hM⟩ : ∃ M, M = L.length := ⟨_, rfl⟩
  have HM := Lib.hid hM
  have HA := Lib.hid hall
  have HFL : Hid ((Pl.flat L).length = M * 6) := Lib.hid (by rw [Pl.flat_len, hM])
  have HF := Lib.hid (Pl.flat_one L)
  rw [← hM] at hlen
  rw [← hM]
  clear hR hM hall
  go_enter Tryz.func7, Tryz.ntmps7
  go_wp2_with fail
  go_loopw [11] (fun i wr => ∃ k : Nat, i = .int .i64 (k : Int) ∧ k ≤ M ∧ Grown W wr) (fun i _ => ((M : Int) - intOf i).toNat)
  case atStart => exact ⟨0, rfl, by omega, Grown.refl W⟩
  case round =>
    obtain ⟨k, rfl, hk, g1⟩ := hrel
    rcases Nat.lt_or_eq_of_le hk with hkm | hkm
    · obtain ⟨⟨kk, x, n, a, l, s⟩, hq⟩ : ∃ q, L[k]? = some q := ⟨_, List.getElem?_eq_getElem (by have := HM.out; omega)⟩
      obtain ⟨ga, oa, ca, hva, hga, a0, a1, a2, a3, a4, a5⟩ := (HR.out.grown g1).at k _ hq
      injection hva with q1 q2 q3
      subst q1
      clear q2 q3
      have CM := Lib.hid (fun W => may_yes kk x n a l s (HA.out _ _ hq) W)
      clear hq
      have hkM : (k : Int) < (M : Int) := by omega
      go_wp2_with fail
      refine (CM.out _).mono ?_
      rintro e w1 ⟨rfl, g2⟩
      go_wp2_with fail
      exact ⟨⟨k + 1, by simp, by omega, grown_trans (g1.alloc _ _) g2⟩, by simp [intOf] <;> omega⟩
    · subst hkm
      have hsz := g1.2.2
      have f1 : wr.frozen? ⟨p, 0, none⟩ = false := by rw [g1.2.1]; exact h1
      have c1 := grown_cell g1 h0
      have HS1 := Lib.hid (HR.out.grown g1).src
      have hsz1 : W.heap.size ≤ wr.heap.size := hsz
      go_wp2_with (at_builtin; refine wpList_append_all _ base 22 25 i0 _ 6 56 Tryz.underlying22 hi hz0 hz1 hz2 rfl (by decide) (.slice none 0 0) 0 [] (World.ownsRow_nil _ _ _ _) ao k cap (Pl.flat L) (by rw [HM.out]; exact HS1.out.1) HFL.out HS1.out.2 HF.out (by unfold maxLen; omega) (by omega) (by omega) (hgd := rfl) (.const (.slice none 0 0)) (.tmp 23) rfl (by simp [Act.eval]) (by simp [Act.eval]) ?hnext)
      case hnext =>
        intro v' w' hown' hgr hbl
        obtain ⟨ao', cap', rfl⟩ := own_slice hown'
        have hne' : ∀ g, (Value.slice ao' k cap').ownBlock = some g → W.heap.size ≤ g := fun g q => (hbl g q).elim (fun h => by simp [Value.ownBlock] at h) (fun h => by omega)
        have Hown := Lib.hid hown'
        have Hgr := Lib.hid hgr
        have Hne := Lib.hid hne'
        have cp := Hgr.out.cell c1 (by simp [Value.ownBlock])
        have fp : w'.frozen? ⟨p, 0, none⟩ = false := (World.frozen?_of_block (a := ⟨p, 0, none⟩) (Hgr.out.block p (by omega) (by simp [Value.ownBlock]))).trans f1
        clear hown' hgr hbl hne'
        go_wp2_with fail
        go_ret
        have hF : Fr (fun c => c = p) W (w'.setCell ⟨p, 0, none⟩ (.slice ao' k cap')) :=
          ((Fr.of_grown _ g1).trans (Fr.grown _ Hgr.out (fun k q => (by simp [Value.ownBlock] at q)))).trans (Fr.setCell _ _ _ _ rfl)
        refine ⟨rfl, ⟨.slice ao' k cap', ⟨World.cell?_setCell_same' _ _ _ (by rw [cp]; rfl), by simpa using fp, ?_, fun q => by have := Hne.out p q; omega, Nat.lt_of_lt_of_le hp hF.2.2.1⟩, fun g q => Hne.out g q⟩, hF⟩
        have h := Hown.out
        rw [← HM.out]
        exact own_fr (P := fun c => c = p) h (Fr.setCell _ _ _ _ rfl) (fun g q h => by have := Hne.out g q; omega)
end Go.Proofs.YtfmmomdmemcbbaaGreat
namespace Go.Proofs.YtfmmomdmemcbbaaGreat
set_option linter.unusedVariables false
open Go.RowKit
abbrev Pl.ov (o : Pl.Ob) : Value := obv o.1 o.2.1 o.2.2.1 o.2.2.2.1 o.2.2.2.2.1 o.2.2.2.2.2
theorem Fr.weaken {P Q : Nat → Prop} {W W' : World} (h : Fr P W W') (hq : ∀ c, P c → Q c) : Fr Q W W' := ⟨h.1, h.2.1, h.2.2.1, fun c hc hn => h.2.2.2 c hc (fun q => hn (hq c q))⟩
def Stk (W0 : World) (Pr : Nat → Prop) (p : Nat) (L : List Pl.Ob) (W : World) : Prop :=
  ∃ v, StkV W0.heap.size p v L W ∧ W0.heap.size ≤ p ∧ Kept W0 W ∧ ¬ Pr p ∧ (∀ g, v.ownBlock = some g → ¬ Pr g) ∧ ∀ c, Pr c → c < W.heap.size
abbrev FrS (W0 : World) (Pr : Nat → Prop) (W W' : World) : Prop := Fr (fun c => ¬ Pr c ∧ W0.heap.size ≤ c) W W'
theorem stk_step {W0 : World} {Pr : Nat → Prop} {p : Nat} {L L' : List Pl.Ob} {v v' : Value} {W w' : World} (hS : StkV W0.heap.size p v L W) (hp : W0.heap.size ≤ p) (hK : Kept W0 W) (hPp : ¬ Pr p) (hPv : ∀ g, v.ownBlock = some g → ¬ Pr g) (hPl : ∀ c, Pr c → c < W.heap.size)
    (hS' : StkV W0.heap.size p v' L' w') (hv : ∀ g, v'.ownBlock = some g → v.ownBlock = some g ∨ W.heap.size ≤ g) (hF : Fr (fun c => c = p ∨ v.ownBlock = some c) W w') : Stk W0 Pr p L' w' ∧ FrS W0 Pr W w' := by
  have hb := own_base hS.2.2.1
  refine ⟨⟨v', hS', hp, hK.fr hF ?_, hPp, fun g q h => ?_, fun c q => Nat.lt_of_lt_of_le (hPl c q) hF.2.2.1⟩, hF.weaken ?_⟩
  · rintro c (rfl | q)
    · exact hp
    · exact hb c q
  · rcases hv g q with h2 | h2
    · exact hPv g h2 h
    · have := hPl g h
      omega
  · rintro c (rfl | q)
    · exact ⟨hPp, hp⟩
    · exact ⟨hPv c q, hb c q⟩
theorem Stk.grown {W0 : World} {Pr : Nat → Prop} {p : Nat} {L : List Pl.Ob} {W W' : World} (h : Stk W0 Pr p L W) (g : Grown W W') : Stk W0 Pr p L W' := by
  obtain ⟨v, hS, h1, h2, h3, h4, h5⟩ := h
  exact ⟨v, hS.fr (P := fun _ => False) (Fr.of_grown _ g) (fun f => f) (fun _ _ f => f), h1, h2.trans (Kept.of_grown g), h3, h4, fun c q => Nat.lt_of_lt_of_le (h5 c q) g.2.2⟩
theorem Stk.protect {W0 : World} {Pr Qr : Nat → Prop} {p : Nat} {L : List Pl.Ob} {W W' : World} (h : Stk W0 Pr p L W) (k : Fr (fun _ => False) W W') (hq : ∀ c, Qr c → c < W.heap.size → Pr c) (hq' : ∀ c, Qr c → c < W'.heap.size) : Stk W0 Qr p L W' := by
  obtain ⟨v, hS, h1, h2, h3, h4, h5⟩ := h
  have hl := own_lt hS.2.2.1
  exact ⟨v, hS.fr (P := fun _ => False) k (fun f => f) (fun _ _ f => f), h1, h2.fr k (fun c f => f.elim), fun q => h3 (hq _ q hS.2.2.2.2), fun g q r => h4 g q (hq _ r (hl g q)), hq'⟩
theorem Stk.box {W0 : World} {Pr : Nat → Prop} {p : Nat} {L : List Pl.Ob} {W : World} (h : Stk W0 Pr p L W) (o : Obj) : Stk W0 (fun c => Pr c ∨ c = W.heap.size) p L (W.alloc o) := by
  obtain ⟨v, hS, h1, h2, h3, h4, h5⟩ := id h
  refine h.protect (Fr.alloc _ W o) (fun c q hc => q.elim id (fun e => by omega)) (fun c q => ?_)
  rcases q with q | q
  · have := h5 c q; simp; omega
  · simp; omega
abbrev ObC (b : Nat) (k : Int) (x : Bool) (n a l : Int) (s : ByteArray) (W : World) : Prop :=
  W.cell? ⟨b, 0, none⟩ = some (.int .i64 k) ∧ W.cell? ⟨b, 1, none⟩ = some (.bool x) ∧ W.cell? ⟨b, 2, none⟩ = some (.int .i64 n) ∧ W.cell? ⟨b, 3, none⟩ = some (.int .i64 a) ∧ W.cell? ⟨b, 4, none⟩ = some (.int .i64 l) ∧ W.cell? ⟨b, 5, none⟩ = some (.string s)
theorem ObC.grown {W W' : World} {b : Nat} {k : Int} {x : Bool} {n a l : Int} {s : ByteArray} (h : ObC b k x n a l s W) (hg : Grown W W') : ObC b k x n a l s W' :=
  ⟨grown_cell hg h.1, grown_cell hg h.2.1, grown_cell hg h.2.2.1, grown_cell hg h.2.2.2.1, grown_cell hg h.2.2.2.2.1, grown_cell hg h.2.2.2.2.2⟩
theorem ObC.fr {W0 W W' : World} {Pr : Nat → Prop} {b : Nat} {k : Int} {x : Bool} {n a l : Int} {s : ByteArray} (h : ObC b k x n a l s W) (hg : FrS W0 Pr W W') (hb : Pr b) : ObC b k x n a l s W' := by
  have hl : b < W.heap.size := block_lt_of_cell h.1
  have e : ∀ o, W'.cell? ⟨b, o, none⟩ = W.cell? ⟨b, o, none⟩ := fun o => hg.cell (a := ⟨b, o, none⟩) hl (fun q => q.1 hb)
  exact ⟨(e 0).trans h.1, (e 1).trans h.2.1, (e 2).trans h.2.2.1, (e 3).trans h.2.2.2.1, (e 4).trans h.2.2.2.2.1, (e 5).trans h.2.2.2.2.2⟩
theorem ObC.kept {W W' : World} {b : Nat} {k : Int} {x : Bool} {n a l : Int} {s : ByteArray} (h : ObC b k x n a l s W) (hg : Kept W W') : ObC b k x n a l s W' := by
  have hl : b < W.heap.size := block_lt_of_cell h.1
  have e : ∀ o, W'.cell? ⟨b, o, none⟩ = W.cell? ⟨b, o, none⟩ := fun o => hg.1.cell hl (fun q => q)
  exact ⟨(e 0).trans h.1, (e 1).trans h.2.1, (e 2).trans h.2.2.1, (e 3).trans h.2.2.2.1, (e 4).trans h.2.2.2.2.1, (e 5).trans h.2.2.2.2.2⟩
theorem ObC.new (W : World) (k : Int) (x : Bool) (n a l : Int) (s : ByteArray) : ObC W.heap.size k x n a l s (W.alloc (.cells #[.int .i64 k, .bool x, .int .i64 n, .int .i64 a, .int .i64 l, .string s] 25)) :=
  ⟨by simp [go_sem], by simp [go_sem], by simp [go_sem], by simp [go_sem], by simp [go_sem], by simp [go_sem]⟩
def RowP (Pr : Nat → Prop) (W : World) (v : Value) (L : List Pl.Ob) : Prop := RowV W v L ∧ ∀ ao m c, v = .slice ao m c → ∀ a, ao = some a → L ≠ [] → Pr a.block
theorem RowP.fr {W0 : World} {Pr : Nat → Prop} {W W' : World} {v : Value} {L : List Pl.Ob} (h : RowP Pr W v L) (k : FrS W0 Pr W W') : RowP Pr W' v L := by
  refine ⟨?_, h.2⟩
  obtain ⟨⟨ao, cap, rfl, h1⟩, h2⟩ := h
  rcases h1 with rfl | ⟨g, o, rfl, hg, h1⟩
  · exact ⟨ao, cap, rfl, .inl rfl⟩
  · by_cases hL : L = []
    · exact ⟨_, cap, rfl, .inl hL⟩
    · exact RowV.fr ⟨_, cap, rfl, .inr ⟨g, o, rfl, hg, h1⟩⟩ k (fun a q r => r.1 (h2 _ _ _ rfl a q hL))
theorem RowP.grown {Pr : Nat → Prop} {W W' : World} {v : Value} {L : List Pl.Ob} (h : RowP Pr W v L) (k : Grown W W') : RowP Pr W' v L := ⟨h.1.grown k, h.2⟩
theorem RowP.weaken {Pr Qr : Nat → Prop} {W : World} {v : Value} {L : List Pl.Ob} (h : RowP Pr W v L) (k : ∀ c, Pr c → Qr c) : RowP Qr W v L := ⟨h.1, fun ao m c hv a ha hL => k _ (h.2 ao m c hv a ha hL)⟩
def OwnForm (v : Value) (n : Nat) : Prop := (v = .slice none n n ∧ n = 0) ∨ ∃ g cap, v = .slice (some ⟨g, 0, none⟩) n cap ∧ n ≤ cap
theorem own_form {w : World} {base : Nat} {e : TypeId} {size : Nat} {v : Value} {n : Nat} {xs : List Value} (h : w.ownsRow base e size v n xs) : OwnForm v n := by
  rcases h.2 with ⟨rfl, h0⟩ | ⟨g, cap, cur, rfl, _, _, hc, _⟩
  · exact .inl ⟨by rw [h0], h0⟩
  · exact .inr ⟨g, cap, rfl, hc⟩
theorem stk_new (W0 : World) (Pr : Nat → Prop) (W : World) (hK : Kept W0 W) (hPr : ∀ c, Pr c → c < W.heap.size) :
    Calls Tryz.prog 6 #[] W fun e w' => e = .returned (.pointer (some ⟨W.heap.size, 0, none⟩)) ∧ Stk W0 Pr W.heap.size [] w' ∧ FrS W0 Pr W w' := by
  refine (new_any W).mono ?_
  rintro e w' ⟨rfl, rfl⟩
  have hb : W0.heap.size ≤ W.heap.size := hK.2.2
  have h := new_stk W
  refine ⟨rfl, ⟨_, ⟨h.1, h.2.1, World.ownsRow_nil _ _ _ _, h.2.2.2.1, h.2.2.2.2⟩, hb, hK.fr (Fr.alloc (fun _ => False) W _) (fun c f => f.elim), fun q => by have := hPr _ q; omega, fun g q => by simp [Value.ownBlock] at q, fun c q => by have := hPr c q; simp; omega⟩, Fr.alloc _ _ _⟩
section
variable (W0 : World) (Pr : Nat → Prop) (p : Nat) (L : List Pl.Ob) (W : World) (h : Stk W0 Pr p L W)
include h
theorem stk_push (o : Pl.Ob) (hm : Pl.mayO o) (hn : L.length < 200) :
    Calls Tryz.prog 59 #[.pointer (some ⟨p, 0, none⟩), Pl.ov o] W fun e w' => e = .returned (.int .i64 0) ∧ Stk W0 Pr p (L ++ [o]) w' ∧ FrS W0 Pr W w' := by
  obtain ⟨v, hS, h1, h2, h3, h4, h5⟩ := h
  refine (push_ok W0.heap.size p v L o.1 o.2.1 o.2.2.1 o.2.2.2.1 o.2.2.2.2.1 o.2.2.2.2.2 hm hn W hS h2.2.2).mono ?_
  rintro e w' ⟨rfl, ⟨v', hS', hv'⟩, hF⟩
  exact ⟨rfl, stk_step hS h1 h2 h3 h4 h5 hS' hv' hF⟩
theorem stk_push_bad (o : Pl.Ob) (hm : ¬ Pl.mayO o) :
    Calls Tryz.prog 59 #[.pointer (some ⟨p, 0, none⟩), Pl.ov o] W fun e w' => e = .returned (.int .i64 1) ∧ Stk W0 Pr p L w' ∧ Grown W w' := by
  obtain ⟨v, hS, h1, h2, h3, h4, h5⟩ := id h
  refine (push_bad W0.heap.size p v L o.1 o.2.1 o.2.2.1 o.2.2.2.1 o.2.2.2.2.1 o.2.2.2.2.2 hm W hS).mono ?_
  rintro e w' ⟨rfl, g⟩
  exact ⟨rfl, h.grown g, g⟩
theorem stk_push_full (o : Pl.Ob) (hm : Pl.mayO o) (hn : 200 ≤ L.length) (hlen : L.length ≤ 300) :
    Calls Tryz.prog 59 #[.pointer (some ⟨p, 0, none⟩), Pl.ov o] W fun e w' => e = .returned (.int .i64 8) ∧ Stk W0 Pr p L w' ∧ Grown W w' := by
  obtain ⟨v, hS, h1, h2, h3, h4, h5⟩ := id h
  refine (push_full W0.heap.size p v L o.1 o.2.1 o.2.2.1 o.2.2.2.1 o.2.2.2.2.1 o.2.2.2.2.2 hm hn W hS).mono ?_
  rintro e w' ⟨rfl, g⟩
  exact ⟨rfl, h.grown g, g⟩
theorem stk_len :
    Calls Tryz.prog 36 #[.pointer (some ⟨p, 0, none⟩)] W fun e w' => e = .returned (.int .i64 (L.length : Int)) ∧ w' = W := by
  obtain ⟨v, hS, h1, h2, h3, h4, h5⟩ := h
  exact len_any W0.heap.size p v L W hS
theorem stk_peek (i : Nat) (o : Pl.Ob) (ho : L.reverse[i]? = some o) (hlen : L.length ≤ 300) :
    Calls Tryz.prog 35 #[.pointer (some ⟨p, 0, none⟩), .int .i64 (i : Int)] W fun e w' => e = .returned (.tuple #[Pl.ov o, .int .i64 0]) ∧ Stk W0 Pr p L w' ∧ Grown W w' := by
  obtain ⟨v, hS, h1, h2, h3, h4, h5⟩ := id h
  have hl := (List.getElem?_eq_some_iff.1 ho).1
  rw [List.length_reverse] at hl
  rw [List.getElem?_reverse hl] at ho
  refine (peek_ok W0.heap.size p v L i (L.length - 1 - i) o.1 o.2.1 o.2.2.1 o.2.2.2.1 o.2.2.2.2.1 o.2.2.2.2.2 (by omega) ho hlen W hS).mono ?_
  rintro e w' ⟨rfl, g⟩
  exact ⟨rfl, h.grown g, g⟩
theorem stk_peek_low (i : Int) (hi : i < 0) :
    Calls Tryz.prog 35 #[.pointer (some ⟨p, 0, none⟩), .int .i64 i] W fun e w' => e = .returned (.tuple #[obv 0 false 0 0 0 ⟨#[]⟩, .int .i64 2]) ∧ Stk W0 Pr p L w' ∧ Grown W w' := by
  obtain ⟨v, hS, h1, h2, h3, h4, h5⟩ := id h
  refine (peek_low W0.heap.size p v L i hi W hS).mono ?_
  rintro e w' ⟨rfl, g⟩
  exact ⟨rfl, h.grown g, g⟩
theorem stk_peek_under (i : Int) (hi0 : 0 ≤ i) (hi : (L.length : Int) ≤ i) :
    Calls Tryz.prog 35 #[.pointer (some ⟨p, 0, none⟩), .int .i64 i] W fun e w' => e = .returned (.tuple #[obv 0 false 0 0 0 ⟨#[]⟩, .int .i64 7]) ∧ Stk W0 Pr p L w' ∧ Grown W w' := by
  obtain ⟨v, hS, h1, h2, h3, h4, h5⟩ := id h
  refine (peek_under W0.heap.size p v L i hi0 hi W hS).mono ?_
  rintro e w' ⟨rfl, g⟩
  exact ⟨rfl, h.grown g, g⟩
theorem stk_pop (A : List Pl.Ob) (o : Pl.Ob) (hL : L = A ++ [o]) (hlen : A.length ≤ 299) :
    Calls Tryz.prog 58 #[.pointer (some ⟨p, 0, none⟩)] W fun e w' => e = .returned (.tuple #[Pl.ov o, .int .i64 0]) ∧ Stk W0 Pr p A w' ∧ FrS W0 Pr W w' := by
  subst hL
  obtain ⟨v, hS, h1, h2, h3, h4, h5⟩ := id h
  refine (pop_ok W0.heap.size p v A o.1 o.2.1 o.2.2.1 o.2.2.2.1 o.2.2.2.2.1 o.2.2.2.2.2 hlen W hS).mono ?_
  rintro e w' ⟨rfl, ⟨v', hS', hv'⟩, hF⟩
  exact ⟨rfl, stk_step hS h1 h2 h3 h4 h5 hS' (fun g q => .inl (by rw [← hv']; exact q)) (hF.weaken (fun c q => .inl q))⟩
theorem stk_pop_none (hL : L = []) :
    Calls Tryz.prog 58 #[.pointer (some ⟨p, 0, none⟩)] W fun e w' => e = .returned (.tuple #[obv 0 false 0 0 0 ⟨#[]⟩, .int .i64 7]) ∧ Stk W0 Pr p L w' ∧ Grown W w' := by
  subst hL
  obtain ⟨v, hS, h1, h2, h3, h4, h5⟩ := id h
  refine (pop_none W0.heap.size p v W hS).mono ?_
  rintro e w' ⟨rfl, g⟩
  exact ⟨rfl, h.grown g, g⟩
theorem stk_roll (n : Nat) (j : Int) (hn : n ≤ L.length) (hlen : L.length ≤ 300) :
    Calls Tryz.prog 37 #[.pointer (some ⟨p, 0, none⟩), .int .i64 (n : Int), .int .i64 j] W fun e w' => e = .returned (.int .i64 0) ∧ Stk W0 Pr p (Pl.rot L n j) w' ∧ FrS W0 Pr W w' := by
  obtain ⟨v, hS, h1, h2, h3, h4, h5⟩ := h
  refine (roll_ok W0.heap.size p v L n j hn hlen W hS).mono ?_
  rintro e w' ⟨rfl, hS', hF⟩
  exact ⟨rfl, stk_step hS h1 h2 h3 h4 h5 hS' (fun g q => .inl q) (hF.weaken (fun c q => .inr q))⟩
theorem stk_tomark (hlen : L.length ≤ 300) :
    Calls Tryz.prog 40 #[.pointer (some ⟨p, 0, none⟩)] W fun e w' => e = .returned (.tuple #[.int .i64 (Pl.toMark L).1, .int .i64 (Pl.toMark L).2]) ∧ Stk W0 Pr p L w' ∧ Grown W w' := by
  obtain ⟨v, hS, h1, h2, h3, h4, h5⟩ := id h
  refine (tomark_any W0.heap.size p v L hlen W hS).mono ?_
  rintro e w' ⟨rfl, g⟩
  exact ⟨rfl, h.grown g, g⟩
theorem stk_clear :
    Calls Tryz.prog 38 #[.pointer (some ⟨p, 0, none⟩)] W fun e w' => e = .returned (.tuple #[]) ∧ Stk W0 Pr p [] w' ∧ FrS W0 Pr W w' := by
  obtain ⟨v, hS, h1, h2, h3, h4, h5⟩ := id h
  refine (clear_any W0.heap.size p v L W hS).mono ?_
  rintro e w' ⟨rfl, hS', hF⟩
  exact ⟨rfl, stk_step hS h1 h2 h3 h4 h5 hS' (fun g q => by simp [Value.ownBlock] at q) (hF.weaken (fun c q => .inl q))⟩
theorem stk_items (hlen : L.length ≤ 300) :
    Calls Tryz.prog 12 #[.pointer (some ⟨p, 0, none⟩)] W fun e w' => ∃ vi, e = .returned vi ∧ RowP (fun c => Pr c ∨ vi.ownBlock = some c) w' vi L ∧ Stk W0 (fun c => Pr c ∨ vi.ownBlock = some c) p L w' ∧ FrS W0 Pr W w' ∧ OwnForm vi L.length := by
  obtain ⟨v, hS, h1, h2, h3, h4, h5⟩ := id h
  refine (items_any W0.heap.size p v L hlen W hS).mono ?_
  rintro e w' ⟨vi, rfl, hown, hF⟩
  have hl := own_lt hown
  have hb := own_base hown
  refine ⟨vi, rfl, ⟨own_row hown, ?_⟩, h.protect hF ?_ ?_, hF.weaken (fun c f => f.elim), own_form hown⟩
  · intro ao m c hv a ha hL
    refine .inr ?_
    rcases hown.2 with ⟨hv0, h0⟩ | ⟨g, cap, cur, hv0, _⟩
    · exact absurd (List.eq_nil_of_length_eq_zero h0) hL
    · rw [hv0] at hv
      injection hv with q1 q2 q3
      rw [ha] at q1
      injection q1 with q1
      rw [hv0, ← q1]
      rfl
  · rintro c (q | q) hc
    · exact q
    · have := hb c q
      omega
  · rintro c (q | q)
    · exact Nat.lt_of_lt_of_le (h5 c q) hF.2.2.1
    · exact hl c q
theorem stk_become (v1 : Value) (A : List Pl.Ob) (hR : RowV W v1 A) (hall : ∀ (j : Nat) (o : Pl.Ob), A[j]? = some o → Pl.mayO o) (hlen : A.length ≤ 200) :
    Calls Tryz.prog 7 #[.pointer (some ⟨p, 0, none⟩), v1] W fun e w' => e = .returned (.int .i64 0) ∧ Stk W0 Pr p A w' ∧ FrS W0 Pr W w' := by
  obtain ⟨v, hS, h1, h2, h3, h4, h5⟩ := id h
  refine (become_ok W0.heap.size p v1 v A hlen hall W hR hS.1 hS.2.1 hS.2.2.2.2 h2.2.2).mono ?_
  rintro e w' ⟨rfl, ⟨v', hS', hv'⟩, hF⟩
  exact ⟨rfl, stk_step hS h1 h2 h3 h4 h5 hS' (fun g q => .inr (hv' g q)) (hF.weaken (fun c q => .inl q))⟩
theorem stk_become_over (v1 : Value) (A : List Pl.Ob) (hR : RowV W v1 A) (hall : ∀ (j : Nat) (o : Pl.Ob), A[j]? = some o → Pl.mayO o) (hlen : 200 < A.length ∧ A.length ≤ 400) :
    Calls Tryz.prog 7 #[.pointer (some ⟨p, 0, none⟩), v1] W fun e w' => e = .returned (.int .i64 8) ∧ Stk W0 Pr p L w' ∧ Grown W w' := by
  obtain ⟨v, hS, h1, h2, h3, h4, h5⟩ := id h
  refine (become_over W0.heap.size p v1 v A hlen hall W hR hS.1 hS.2.1 hS.2.2.2.2 h2.2.2).mono ?_
  rintro e w' ⟨rfl, g⟩
  exact ⟨rfl, h.grown g, g⟩
theorem stk_become_bad (v1 : Value) (A : List Pl.Ob) (hR : RowV W v1 A) (hlen : A.length ≤ 300) (j : Nat) (o : Pl.Ob) (hj : A[j]? = some o) (ho : ¬ Pl.mayO o) :
    Calls Tryz.prog 7 #[.pointer (some ⟨p, 0, none⟩), v1] W fun e w' => e = .returned (.int .i64 1) ∧ Stk W0 Pr p L w' ∧ Grown W w' := by
  refine (become_bad p v1 A hlen j o hj ho W hR).mono ?_
  rintro e w' ⟨rfl, g⟩
  exact ⟨rfl, h.grown g, g⟩
end
end Go.Proofs.YtfmmomdmemcbbaaGreat
namespace Go.Proofs.YtfmmomdmemcbbaaGreat
set_option linter.unusedVariables false
open Go.RowKit
end Go.Proofs.YtfmmomdmemcbbaaGreat
namespace Go.Proofs.YtfmmomdmemcbbaaGreat
set_option linter.unusedVariables false
open Go.RowKit
def Pl.zer : Pl.Ob := (0, false, 0, 0, 0, ⟨#[]⟩)
theorem make_one (w : World) : (Instr.makeSlice 22 (.int .i64 1) (.int .i64 1)).run Tryz.prog w = .ok (.slice (some ⟨w.heap.size, 0, none⟩) 1 1) (w.alloc (.cells #[.int .i64 0, .bool false, .int .i64 0, .int .i64 0, .int .i64 0, .string ⟨#[]⟩] 25)) := by
  obtain ⟨i0, hi, hz0, hz1, hz2⟩ := info_parts Tryz.objInfo
  have h := run_make (P := Tryz.prog) w 22 25 i0 _ Tryz.underlying22 hi hz0 .i64 .i64 1 1 (by omega) (by omega) (by rw [hz2]; omega) (by omega)
  rw [hz1] at h
  have hm : madeCells (obv 0 false 0 0 0 ⟨#[]⟩).cells 6 = #[.int .i64 0, .bool false, .int .i64 0, .int .i64 0, .int .i64 0, .string ⟨#[]⟩] := by
    apply Array.ext_getElem?
    intro j
    rcases Nat.lt_or_ge j 6 with hj | hj
    · rcases (show j = 0 ∨ j = 1 ∨ j = 2 ∨ j = 3 ∨ j = 4 ∨ j = 5 by omega) with rfl | rfl | rfl | rfl | rfl | rfl <;> simp [madeCells, Value.cells]
    · rw [Array.getElem?_eq_none (by rw [size_madeCells]; exact hj), Array.getElem?_eq_none (by exact hj)]
  rw [show (1 : Int).toNat * 6 = 6 from rfl, hm] at h
  exact h
end Go.Proofs.YtfmmomdmemcbbaaGreat
namespace Go.Proofs.YtfmmomdmemcbbaaGreat
set_option linter.unusedVariables false
open Go.RowKit
end Go.Proofs.YtfmmomdmemcbbaaGreat
namespace Go.Proofs.YtfmmomdmemcbbaaGreat.Pl
set_option linter.unusedVariables false
def mag (v : Int) : Int := if v < 0 then -v else v
theorem mag_nn (v : Int) : 0 ≤ mag v := by unfold mag; split <;> omega
theorem mag_le (v : Int) (h0 : -9223372036854775808 ≤ v) (h1 : v ≤ 9223372036854775807) : mag v ≤ 9223372036854775808 := by unfold mag; split <;> omega
theorem prod_parts (a b mid : Int)
    (hm : mid = (a % 4294967296) * (b % 4294967296) / 4294967296 + (a / 4294967296) * (b % 4294967296) % 4294967296 + (a % 4294967296) * (b / 4294967296) % 4294967296) :
    (a / 4294967296) * (b / 4294967296) + (a / 4294967296) * (b % 4294967296) / 4294967296 + (a % 4294967296) * (b / 4294967296) / 4294967296 + mid / 4294967296 = a * b / 18446744073709551616
    ∧ mid % 4294967296 * 4294967296 + (a % 4294967296) * (b % 4294967296) % 4294967296 = a * b % 18446744073709551616 := by
  have e : a * b = (a / 4294967296) * (b / 4294967296) * 18446744073709551616 + ((a / 4294967296) * (b % 4294967296) + (a % 4294967296) * (b / 4294967296)) * 4294967296 + (a % 4294967296) * (b % 4294967296) := by
    have h1 : a = 4294967296 * (a / 4294967296) + a % 4294967296 := (Int.mul_ediv_add_emod a 4294967296).symm
    have h2 : b = 4294967296 * (b / 4294967296) + b % 4294967296 := (Int.mul_ediv_add_emod b 4294967296).symm
    generalize a / 4294967296 = x at *
    generalize a % 4294967296 = y at *
    generalize b / 4294967296 = z at *
    generalize b % 4294967296 = u at *
    rw [h1, h2]
    rw [Int.add_mul, Int.mul_add, Int.mul_add]
    have g1 : 4294967296 * x * (4294967296 * z) = 18446744073709551616 * (x * z) := by
      rw [Int.mul_assoc, ← Int.mul_assoc x, Int.mul_comm x 4294967296, Int.mul_assoc 4294967296 x z, ← Int.mul_assoc]; rfl
    have g2 : 4294967296 * x * u = 4294967296 * (x * u) := Int.mul_assoc _ _ _
    have g3 : y * (4294967296 * z) = 4294967296 * (y * z) := by rw [← Int.mul_assoc, Int.mul_comm y, Int.mul_assoc]
    rw [g1, g2, g3]
    omega
  rw [e, hm]
  generalize (a / 4294967296) * (b / 4294967296) = p3
  generalize (a / 4294967296) * (b % 4294967296) = p1
  generalize (a % 4294967296) * (b / 4294967296) = p2
  generalize (a % 4294967296) * (b % 4294967296) = p0
  omega
theorem mul_lt32 (x y : Int) (hx : 0 ≤ x) (hx' : x < 4294967296) (hy : 0 ≤ y) (hy' : y < 4294967296) : 0 ≤ x * y ∧ x * y ≤ 18446744065119617025 := by
  refine ⟨Int.mul_nonneg hx hy, ?_⟩
  have h1 : x * y ≤ 4294967295 * y := Int.mul_le_mul_of_nonneg_right (by omega) hy
  omega
theorem mag_pos {v : Int} (h : 0 ≤ v) : mag v = v := by unfold mag; rw [if_neg (by omega)]
theorem mag_neg {v : Int} (h : v < 0) : mag v = -v := by unfold mag; rw [if_pos h]
theorem mul_le126 (A B : Int) (a0 : 0 ≤ A) (a1 : A ≤ 9223372036854775808) (b0 : 0 ≤ B) (b1 : B ≤ 9223372036854775808) : 0 ≤ A * B ∧ A * B ≤ 85070591730234615865843651857942052864 := by
  refine ⟨Int.mul_nonneg a0 b0, ?_⟩
  have h1 : A * B ≤ 9223372036854775808 * B := Int.mul_le_mul_of_nonneg_right a1 b0
  omega
theorem bit_step (P : Int) (m : Nat) (hm : m ≤ 63) : P / 2 ^ m = 2 * (P / 2 ^ (m + 1)) + P % 18446744073709551616 / 2 ^ m % 2 := by
  have hp : (0 : Int) < 2 ^ m := Int.pow_pos (by decide)
  have e1 : P / 2 ^ (m + 1) = P / 2 ^ m / 2 := by
    rw [Int.pow_succ, Int.ediv_ediv_of_nonneg (by omega)]
  have e2 : P % 18446744073709551616 / 2 ^ m % 2 = P / 2 ^ m % 2 := by
    have e3 : (18446744073709551616 : Int) = 2 ^ m * 2 ^ (64 - m) := by
      rw [← Int.pow_add, show m + (64 - m) = 64 by omega]; decide
    have e4 : (2 : Int) ^ (64 - m) = 2 * 2 ^ (63 - m) := by
      rw [show 64 - m = (63 - m) + 1 by omega, Int.pow_succ]; omega
    have h1 : P % 18446744073709551616 = P - 2 ^ m * (2 * 2 ^ (63 - m) * (P / 18446744073709551616)) := by
      have := Int.emod_def P 18446744073709551616
      rw [this]
      conv => lhs; rhs; lhs; rw [e3, e4]
      rw [Int.mul_assoc]
    rw [h1, Int.sub_eq_add_neg, ← Int.mul_neg, Int.add_mul_ediv_left _ _ (by omega)]
    generalize P / 2 ^ m = x
    rw [Int.mul_assoc, ← Int.mul_neg]
    omega
  rw [e1, e2]
  omega
theorem share_lt (P D Q R : Int) (m : Nat) (hQ : 0 ≤ Q) (hR : 0 ≤ R) (h : P / 2 ^ m = Q * D + R) (hD : 0 < D) (hlt : P / 18446744073709551616 < D) : Q * 2 ^ m < 18446744073709551616 := by
  have hp : (0 : Int) < 2 ^ m := Int.pow_pos (by decide)
  have h1 : P < D * 18446744073709551616 := by omega
  have h2 : 2 ^ m * (P / 2 ^ m) ≤ P := Int.mul_ediv_self_le (by omega)
  have h3 : Q * 2 ^ m * D ≤ P := by
    have : 2 ^ m * (Q * D) ≤ 2 ^ m * (P / 2 ^ m) := Int.mul_le_mul_of_nonneg_left (by omega) (by omega)
    have e : Q * 2 ^ m * D = 2 ^ m * (Q * D) := by rw [Int.mul_comm Q, Int.mul_assoc]
    omega
  have h4 : Q * 2 ^ m * D < 18446744073709551616 * D := by omega
  exact Int.lt_of_mul_lt_mul_right h4 (by omega)
theorem pow_lt64 (m : Nat) (hm : m ≤ 63) : (0 : Int) < 2 ^ m ∧ (2 : Int) ^ m ≤ 9223372036854775808 := by
  have := Nat.pow_le_pow_right (n := 2) (by decide) hm
  have h : (2 : Int) ^ m ≤ 2 ^ 63 := by exact_mod_cast this
  have e : (2 : Int) ^ 63 = 9223372036854775808 := by decide
  exact ⟨Int.pow_pos (by decide), by omega⟩
def sgn3 (a b d : Int) : Bool := (decide (a < 0) != decide (b < 0)) != decide (d < 0)
def near (N D : Int) : Int := if D - N % D < N % D ∨ (N % D = D - N % D ∧ N / D % 2 = 1) then N / D + 1 else N / D
def share (a b d : Int) : Int := if sgn3 a b d = true then -near (mag a * mag b) (mag d) else near (mag a * mag b) (mag d)
def i64 (v : Int) : Prop := -9223372036854775808 ≤ v ∧ v ≤ 9223372036854775807
instance (v : Int) : Decidable (i64 v) := by unfold i64; exact inferInstance
theorem near_bd (N D : Int) (hN : 0 ≤ N) (hD : 0 < D) : N / D ≤ near N D ∧ near N D ≤ N / D + 1 ∧ 0 ≤ N / D := by
  have : 0 ≤ N / D := Int.ediv_nonneg hN (by omega)
  unfold near
  split <;> omega
theorem share_fits (a b d : Int) (ha : i64 a) (hb : i64 b) (hd : i64 d) (h0 : d ≠ 0) (h : i64 (share a b d)) : mag a * mag b / 18446744073709551616 < mag d := by
  have hN : 0 ≤ mag a * mag b := Int.mul_nonneg (mag_nn a) (mag_nn b)
  have hD : 0 < mag d := by unfold mag; split <;> omega
  have hn := near_bd _ _ hN hD
  unfold i64 share at h
  have hq : mag a * mag b / mag d < 18446744073709551616 := by split at h <;> omega
  have h1 : mag a * mag b < 18446744073709551616 * mag d := (Int.ediv_lt_iff_lt_mul hD).1 hq
  omega
theorem mag_lt (d : Int) (h0 : d ≠ 0) : 0 < mag d := by unfold mag; split <;> omega
end Go.Proofs.YtfmmomdmemcbbaaGreat.Pl
namespace Go.Proofs.YtfmmomdmemcbbaaGreat.Pl
set_option linter.unusedVariables false
def fx (a : Int) : Prop := -1073741823 ≤ a ∧ a ≤ 1073741823
instance (v : Int) : Decidable (fx v) := by unfold fx; exact inferInstance
def clamp (a : Int) : Int := if a < -1073741823 then -1073741823 else if 1073741823 < a then 1073741823 else a
theorem clamp_fx {a : Int} (h : fx a) : clamp a = a := by unfold fx at h; unfold clamp; rw [if_neg (by omega), if_neg (by omega)]
theorem clamp_bd (a : Int) : -1073741823 ≤ clamp a ∧ clamp a ≤ 1073741823 := by unfold clamp; (repeat' split) <;> omega
def fwhole (a : Int) : Int := clamp a / 65536
def ffloor (a : Int) : Int := clamp a / 65536 * 65536
def fceil (a : Int) : Int := -(-clamp a / 65536 * 65536)
def fround (a : Int) : Int := if 32768 < clamp a - ffloor a ∨ (clamp a - ffloor a = 32768 ∧ fwhole a % 2 = 1) then ffloor a + 65536 else ffloor a
def ftrunc (a : Int) : Int := if a < 0 then fceil a else ffloor a
theorem place_eq (v n : Int) (hn : 0 < n) : (if v.tmod n < 0 then v.tmod n + n else v.tmod n) = v % n := by
  by_cases hv : 0 ≤ v
  · rw [if_neg (by have := Int.tmod_nonneg n hv; omega), Int.tmod_eq_emod_of_nonneg hv]
  · have h3 : v.tmod n = -((-v) % n) := by
      rw [← Int.neg_neg v, Int.neg_tmod, Int.tmod_eq_emod_of_nonneg (by omega)]; simp
    have h1 := Int.emod_nonneg (-v) (show n ≠ 0 by omega)
    have h2 := Int.emod_lt_of_pos (-v) hn
    by_cases e : (-v) % n = 0
    · rw [h3, e]
      simp
      have := Int.dvd_of_emod_eq_zero e
      exact (Int.emod_eq_zero_of_dvd ((Int.dvd_neg).1 this)).symm
    · rw [if_pos (by omega), h3]
      rw [Int.neg_emod] at e ⊢
      by_cases hd : n ∣ v
      · rw [if_pos hd] at e; exact absurd rfl e
      · rw [if_neg hd]
        have hnn : (n.natAbs : Int) = n := by omega
        omega
end Go.Proofs.YtfmmomdmemcbbaaGreat.Pl
namespace Go.Proofs.YtfmmomdmemcbbaaGreat
set_option linter.unusedVariables false
open Go.RowKit
namespace Pl
end Pl
end Go.Proofs.YtfmmomdmemcbbaaGreat
namespace Go.Proofs.YtfmmomdmemcbbaaGreat
set_option linter.unusedVariables false
open Go.RowKit
theorem RowV.take {W : World} {g o m cap : Nat} {A B : List Pl.Ob} (h : RowV W (.slice (some ⟨g, o, none⟩) m cap) (A ++ B)) (cap' : Nat) : RowV W (.slice (some ⟨g, o, none⟩) A.length cap') A := by
  obtain ⟨ao, c, hv, h⟩ := h
  injection hv with q1 q2 q3
  refine ⟨_, cap', rfl, ?_⟩
  rcases h with h | ⟨g2, o2, hq, hg, h⟩
  · exact .inl (List.append_eq_nil_iff.1 h).1
  · rw [hq] at q1
    injection q1 with q1
    injection q1 with q1 q4 q5
    subst q1
    subst q4
    refine .inr ⟨g, o, rfl, hg, fun j u hu => h j u ?_⟩
    rw [Pl.flat_append, List.getElem?_append_left (List.getElem?_eq_some_iff.1 hu).1]
    exact hu
theorem RowV.drop {W : World} {g o m cap : Nat} {A B : List Pl.Ob} (h : RowV W (.slice (some ⟨g, o, none⟩) m cap) (A ++ B)) (cap' : Nat) (ao : Option Addr) (ha : B ≠ [] → ao = some ⟨g, o + A.length * 6, none⟩) : RowV W (.slice ao B.length cap') B := by
  obtain ⟨ao2, c, hv, h⟩ := h
  injection hv with q1 q2 q3
  refine ⟨_, cap', rfl, ?_⟩
  by_cases hB : B = []
  · exact .inl hB
  rcases h with h | ⟨g2, o2, hq, hg, h⟩
  · exact .inl (List.append_eq_nil_iff.1 h).2
  · rw [hq] at q1
    injection q1 with q1
    injection q1 with q1 q4 q5
    subst q1
    subst q4
    refine .inr ⟨g, _, ha hB, hg, fun j u hu => ?_⟩
    have := h (A.length * 6 + j) u (by rw [Pl.flat_append, List.getElem?_append_right (by rw [Pl.flat_len]; omega), Pl.flat_len, Nat.add_sub_cancel_left]; exact hu)
    rwa [← Nat.add_assoc] at this
end Go.Proofs.YtfmmomdmemcbbaaGreat
namespace Go.Proofs.YtfmmomdmemcbbaaGreat
set_option linter.unusedVariables false
open Go.RowKit
end Go.Proofs.YtfmmomdmemcbbaaGreat
namespace Go.Proofs.YtfmmomdmemcbbaaGreat
set_option linter.unusedVariables false
open Go.RowKit
end Go.Proofs.YtfmmomdmemcbbaaGreat
namespace Go.Proofs.YtfmmomdmemcbbaaGreat
set_option linter.unusedVariables false
open Go.RowKit
end Go.Proofs.YtfmmomdmemcbbaaGreat
namespace Go.Proofs.YtfmmomdmemcbbaaGreat.Pl
set_option linter.unusedVariables false
open Go
theorem toNat_ofInt64 (x : Int) : ((BitVec.ofInt 64 x).toNat : Int) = x % 18446744073709551616 := by
  rw [BitVec.toNat_ofInt]; omega
theorem and_mask_u64 (k : Nat) (hk : k ≤ 63) (x : Int) : bits .and .u64 x (2 ^ k - 1) = x % 2 ^ k := by
  have hp : (2 : Int) ^ k ≤ 2 ^ 63 := by
    have := Nat.pow_le_pow_right (n := 2) (by decide) hk
    exact_mod_cast this
  have hp0 : (0 : Int) < 2 ^ k := Int.pow_pos (by decide)
  have hn : ((2 : Nat) ^ k : Nat) = ((2 : Int) ^ k).toNat := by
    have : ((2 ^ k : Nat) : Int) = (2 : Int) ^ k := by simp
    omega
  have h1 : (BitVec.ofInt 64 ((2 : Int) ^ k - 1)).toNat = 2 ^ k - 1 := by
    have := toNat_ofInt64 ((2 : Int) ^ k - 1)
    have e2 : ((2 : Int) ^ k - 1) % 18446744073709551616 = 2 ^ k - 1 := Int.emod_eq_of_lt (by omega) (by omega)
    rw [e2] at this
    have : ((2 ^ k : Nat) : Int) = (2 : Int) ^ k := by simp
    have hpos : 0 < (2:Nat) ^ k := Nat.pow_pos (by decide)
    omega
  show IntKind.u64.wrap ((BitVec.ofInt 64 x &&& BitVec.ofInt 64 ((2 : Int) ^ k - 1)).toNat : Int) = _
  rw [BitVec.toNat_and, h1, Nat.and_two_pow_sub_one_eq_mod, IntKind.wrap_u64]
  have h2 := toNat_ofInt64 x
  have h3 : (((BitVec.ofInt 64 x).toNat % 2 ^ k : Nat) : Int) = x % 2 ^ k := by
    rw [Int.natCast_emod, h2]
    have : ((2 ^ k : Nat) : Int) = (2 : Int) ^ k := by simp
    rw [this]
    exact Int.emod_emod_of_dvd x (by
      have : (18446744073709551616 : Int) = 2 ^ k * 2 ^ (64 - k) := by
        rw [← Int.pow_add, show k + (64 - k) = 64 by omega]; decide
      rw [this]; exact Int.dvd_mul_right _ _)
  rw [h3]
  have := Int.emod_nonneg x (show (2 : Int) ^ k ≠ 0 by omega)
  have := Int.emod_lt_of_pos x hp0
  omega
theorem and_32_u64 (x : Int) : bits .and .u64 x 4294967295 = x % 4294967296 := and_mask_u64 32 (by decide) x
theorem and_1_u64 (x : Int) : bits .and .u64 x 1 = x % 2 := and_mask_u64 1 (by decide) x
theorem xor_max_u64 (x : Int) : bits .xor .u64 IntKind.u64.max x = 18446744073709551615 - x % 18446744073709551616 := by
  have h1 := toNat_ofInt64 x
  show IntKind.u64.wrap ((BitVec.ofInt 64 IntKind.u64.max ^^^ BitVec.ofInt 64 x).toNat : Int) = _
  have e : BitVec.ofInt 64 IntKind.u64.max = BitVec.allOnes 64 := by decide
  rw [e, BitVec.allOnes_xor, BitVec.toNat_not, IntKind.wrap_u64]
  have := (BitVec.ofInt 64 x).isLt
  omega
theorem u64_signed : IntKind.u64.signed = false := rfl
theorem or_shifted_u64 (k : Nat) (x y : Int) (hy0 : 0 ≤ y) (hy : y < 2 ^ k) (hx0 : 0 ≤ x) (hx : x * 2 ^ k + y < 18446744073709551616) :
    bits .or .u64 (x * 2 ^ k) y = x * 2 ^ k + y := by
  have hp0 : (0 : Int) < 2 ^ k := Int.pow_pos (by decide)
  have hxp : 0 ≤ x * 2 ^ k := Int.mul_nonneg hx0 (by omega)
  obtain ⟨X, rfl⟩ := Int.eq_ofNat_of_zero_le hx0
  obtain ⟨Y, rfl⟩ := Int.eq_ofNat_of_zero_le hy0
  have e : ((X : Int) * 2 ^ k) = ((X * 2 ^ k : Nat) : Int) := by simp
  have hY : Y < 2 ^ k := by
    have : ((2 ^ k : Nat) : Int) = (2 : Int) ^ k := by simp
    omega
  rw [e] at hx hxp ⊢
  rw [bits_or_u64_nat _ _ (by omega) (by omega), Nat.mul_comm, ← Nat.two_pow_add_eq_or_of_lt hY]
  simp
attribute [go_sem] and_32_u64 and_1_u64 xor_max_u64 u64_signed
end Go.Proofs.YtfmmomdmemcbbaaGreat.Pl
namespace Go.Proofs.YtfmmomdmemcbbaaGreat
set_option linter.unusedVariables false
open Go.RowKit
theorem size_any (v : Int) (hv : -9223372036854775808 ≤ v ∧ v ≤ 9223372036854775807) (w : World) :
    Calls Tryz.prog 140 #[.int .i64 v] w fun e w' => e = .returned (.int .u64 (Pl.mag v)) ∧ w = w' := by
  by_cases h : v < 0
  · go_enter Tryz.func140, Tryz.ntmps140
    go_wp2
    go_ret
    exact ⟨ret_int (by unfold Pl.mag; rw [if_pos h]; omega), rfl⟩
  · go_enter Tryz.func140, Tryz.ntmps140
    go_wp2
    go_ret
    exact ⟨ret_int (by unfold Pl.mag; rw [if_neg (by omega)]), rfl⟩
theorem product_any (a b : Int) (ha : 0 ≤ a ∧ a ≤ 18446744073709551615) (hb : 0 ≤ b ∧ b ≤ 18446744073709551615) (w : World) :
    Calls Tryz.prog 139 #[.int .u64 a, .int .u64 b] w fun e w' => e = .returned (.tuple #[.int .u64 (a * b / 18446744073709551616), .int .u64 (a * b % 18446744073709551616)]) ∧ Grown w w' := by
  have hm := Pl.and_32_u64
  have p0 := Pl.mul_lt32 (a % 4294967296) (b % 4294967296) (by omega) (by omega) (by omega) (by omega)
  have p1 := Pl.mul_lt32 (a / 4294967296) (b % 4294967296) (by omega) (by omega) (by omega) (by omega)
  have p2 := Pl.mul_lt32 (a % 4294967296) (b / 4294967296) (by omega) (by omega) (by omega) (by omega)
  have p3 := Pl.mul_lt32 (a / 4294967296) (b / 4294967296) (by omega) (by omega) (by omega) (by omega)
  go_enter Tryz.func139, Tryz.ntmps139
  go_wp2
  go_quiet (fail)
  go_wp2
  go_ret2
  clear hm
  refine ⟨ret2_int ?_ ?_, grown_drewN ((Grown.refl w).alloc _ _) _⟩
  · exact (Pl.prod_parts a b _ rfl).1
  · rw [← (Pl.prod_parts a b _ rfl).2]
    rw [IntKind.wrap_u64]
    generalize a % 4294967296 * (b % 4294967296) = q0
    generalize (q0 / 4294967296 + a / 4294967296 * (b % 4294967296) % 4294967296 + a % 4294967296 * (b / 4294967296) % 4294967296) = m
    have e : m * 4294967296 % 18446744073709551616 = (m % 4294967296) * 2 ^ 32 := by omega
    rw [e]
    exact Pl.or_shifted_u64 32 _ _ (by omega) (by omega) (by omega) (by omega)
end Go.Proofs.YtfmmomdmemcbbaaGreat
namespace Go.Proofs.YtfmmomdmemcbbaaGreat.Pl
set_option linter.unusedVariables false
def rootTo (n : Int) : Nat → Int
  | 0 => 0
  | k + 1 => if (rootTo n k + 2 ^ (31 - k)) * (rootTo n k + 2 ^ (31 - k)) ≤ n then rootTo n k + 2 ^ (31 - k) else rootTo n k
def root (n : Int) : Int := rootTo n 32
theorem rootTo_spec (n : Int) (h0 : 0 ≤ n) (h1 : n < 18446744073709551616) (k : Nat) (hk : k ≤ 32) :
    ∃ R : Int, rootTo n k = R * 2 ^ (32 - k) ∧ 0 ≤ R ∧ R < 2 ^ k ∧ rootTo n k * rootTo n k ≤ n ∧ n < (rootTo n k + 2 ^ (32 - k)) * (rootTo n k + 2 ^ (32 - k)) := by
  induction k with
  | zero => exact ⟨0, by simp [rootTo], by omega, by simp, by simpa [rootTo] using h0, by simp [rootTo]; omega⟩
  | succ k ih =>
    obtain ⟨R, e, r0, r1, h2, h3⟩ := ih (by omega)
    have ep : (2 : Int) ^ (32 - k) = 2 * 2 ^ (31 - k) := by rw [show 32 - k = (31 - k) + 1 by omega, Int.pow_succ]; omega
    have e32 : 32 - (k + 1) = 31 - k := by omega
    have ek : (2 : Int) ^ (k + 1) = 2 * 2 ^ k := by rw [Int.pow_succ]; omega
    have hp : (0 : Int) < 2 ^ (31 - k) := Int.pow_pos (by decide)
    by_cases c : (rootTo n k + 2 ^ (31 - k)) * (rootTo n k + 2 ^ (31 - k)) ≤ n
    · have er : rootTo n (k + 1) = rootTo n k + 2 ^ (31 - k) := by show (if _ then _ else _) = _; rw [if_pos c]
      refine ⟨2 * R + 1, ?_, by omega, by omega, by rw [er]; exact c, ?_⟩
      · rw [er, e, ep, e32, Int.add_mul, Int.mul_comm 2 R, Int.mul_assoc]; omega
      · rw [er, e32]
        rw [ep] at h3
        have : rootTo n k + 2 ^ (31 - k) + 2 ^ (31 - k) = rootTo n k + 2 * 2 ^ (31 - k) := by omega
        rw [this]; exact h3
    · have er : rootTo n (k + 1) = rootTo n k := by show (if _ then _ else _) = _; rw [if_neg c]
      refine ⟨2 * R, ?_, by omega, by omega, by rw [er]; exact h2, ?_⟩
      · rw [er, e, ep, e32, Int.mul_comm 2 R, Int.mul_assoc]
      · rw [er, e32]; omega
theorem rootTo_bd (n : Int) (h0 : 0 ≤ n) (h1 : n < 18446744073709551616) (k : Nat) (hk : k ≤ 31) :
    0 ≤ rootTo n k ∧ rootTo n k + 2 ^ (31 - k) ≤ 4294967295 ∧ 0 ≤ (rootTo n k + 2 ^ (31 - k)) * (rootTo n k + 2 ^ (31 - k)) ∧ (rootTo n k + 2 ^ (31 - k)) * (rootTo n k + 2 ^ (31 - k)) ≤ 18446744065119617025 := by
  obtain ⟨R, e, r0, r1, _, _⟩ := rootTo_spec n h0 h1 k (by omega)
  have hp : (0 : Int) < 2 ^ (31 - k) := Int.pow_pos (by decide)
  have hp' : (0 : Int) < 2 ^ (32 - k) := Int.pow_pos (by decide)
  have ep : (2 : Int) ^ (32 - k) = 2 * 2 ^ (31 - k) := by rw [show 32 - k = (31 - k) + 1 by omega, Int.pow_succ]; omega
  have hr : 0 ≤ rootTo n k := by rw [e]; exact Int.mul_nonneg r0 (by omega)
  have h32 : (2 : Int) ^ k * 2 ^ (32 - k) = 4294967296 := by rw [← Int.pow_add, show k + (32 - k) = 32 by omega]; decide
  have hle : rootTo n k + 2 ^ (32 - k) ≤ 4294967296 := by
    have : (R + 1) * 2 ^ (32 - k) ≤ 2 ^ k * 2 ^ (32 - k) := Int.mul_le_mul_of_nonneg_right (by omega) (by omega)
    rw [Int.add_mul, Int.one_mul, h32] at this
    rw [e]; exact this
  have ht : rootTo n k + 2 ^ (31 - k) ≤ 4294967295 := by omega
  refine ⟨hr, ht, Int.mul_nonneg (by omega) (by omega), ?_⟩
  have h2 : (rootTo n k + 2 ^ (31 - k)) * (rootTo n k + 2 ^ (31 - k)) ≤ 4294967295 * (rootTo n k + 2 ^ (31 - k)) := Int.mul_le_mul_of_nonneg_right ht (by omega)
  omega
theorem root_spec (n : Int) (h0 : 0 ≤ n) (h1 : n < 18446744073709551616) : 0 ≤ root n ∧ root n ≤ 4294967295 ∧ root n * root n ≤ n ∧ n < (root n + 1) * (root n + 1) := by
  obtain ⟨R, e, r0, r1, h2, h3⟩ := rootTo_spec n h0 h1 32 (by omega)
  rw [show 32 - 32 = 0 by omega, Int.pow_zero] at e h3
  have e2 : root n = rootTo n 32 := rfl
  rw [e2]
  have : (2 : Int) ^ 32 = 4294967296 := by decide
  exact ⟨by omega, by omega, h2, h3⟩
theorem tmod_bd (x m : Int) (hm : 0 < m) : -m < x.tmod m ∧ x.tmod m < m := by
  by_cases h : 0 ≤ x
  · have h1 := Int.tmod_nonneg m h
    have h2 := Int.tmod_lt_of_pos x hm
    omega
  · have h1 := Int.tmod_nonneg m (show 0 ≤ -x by omega)
    have h2 := Int.tmod_lt_of_pos (-x) hm
    rw [Int.neg_tmod] at h1 h2
    omega
theorem mag_mul (x y : Int) : mag (x * y) = mag x * mag y := by
  have hx := mag_nn x
  have hy := mag_nn y
  have h0 : 0 ≤ mag x * mag y := Int.mul_nonneg hx hy
  have e : x * y = mag x * mag y ∨ x * y = -(mag x * mag y) := by
    unfold mag
    split <;> split <;> simp [Int.neg_mul, Int.mul_neg]
  rcases e with e | e
  · rw [e, mag_pos h0]
  · rw [e]
    by_cases z : mag x * mag y = 0
    · rw [z]; rfl
    · rw [mag_neg (by omega), Int.neg_neg]
end Go.Proofs.YtfmmomdmemcbbaaGreat.Pl
namespace Go.Proofs.YtfmmomdmemcbbaaGreat
set_option linter.unusedVariables false
open Go.RowKit
theorem root_floor (n : Int) (hn : 0 ≤ n ∧ n ≤ 18446744073709551615) (w : World) :
    Calls Tryz.prog 80 #[.int .u64 n] w fun e w' => e = .returned (.int .u64 (Pl.root n)) ∧ w = w' := by
  go_enter Tryz.func80, Tryz.ntmps80
  go_wp2
  go_loop [3, 6] (fun r i => ∃ k : Nat, k ≤ 32 ∧ i = .int .i64 (k : Int) ∧ r = .int .u64 (Pl.rootTo n k)) (fun _ i => (32 - intOf i).toNat)
  case atStart => exact ⟨0, by omega, rfl, rfl⟩
  case round =>
    obtain ⟨k, hk, rfl, rfl⟩ := hrel
    by_cases hlt : k < 32
    · have hb := Pl.rootTo_bd n hn.1 (by omega) k (by omega)
      have hw := Pl.pow_lt64 (31 - k) (by omega)
      have he : (31 - (k : Int)).toNat = 31 - k := by omega
      have hor : bits .or .u64 (Pl.rootTo n k) (2 ^ (31 - k)) = Pl.rootTo n k + 2 ^ (31 - k) := by
        obtain ⟨R, e, r0, r1, _, _⟩ := Pl.rootTo_spec n hn.1 (by omega) k (by omega)
        have ep : (2 : Int) ^ (32 - k) = 2 * 2 ^ (31 - k) := by rw [show 32 - k = (31 - k) + 1 by omega, Int.pow_succ]; omega
        rw [e] at hb ⊢
        exact Pl.or_shifted_u64 (32 - k) R _ (by omega) (by omega) r0 (by omega)
      have hs : Pl.rootTo n (k + 1) = if (Pl.rootTo n k + 2 ^ (31 - k)) * (Pl.rootTo n k + 2 ^ (31 - k)) ≤ n then Pl.rootTo n k + 2 ^ (31 - k) else Pl.rootTo n k := rfl
      have HS := Lib.hid hs; clear hs
      by_cases c : (Pl.rootTo n k + 2 ^ (31 - k)) * (Pl.rootTo n k + 2 ^ (31 - k)) ≤ n
      · go_wp2
        go_round
        case rel => exact ⟨k + 1, by omega, by go_num, by rw [HS.out, if_pos (by assumption)]⟩
        case measure => simp [intOf] <;> omega
      · go_wp2
        go_round
        case rel => exact ⟨k + 1, by omega, by go_num, by rw [HS.out, if_neg (by omega)]⟩
        case measure => simp [intOf] <;> omega
    · obtain rfl : k = 32 := by omega
      go_wp2
      go_ret
      exact ⟨rfl, rfl⟩
end Go.Proofs.YtfmmomdmemcbbaaGreat
namespace Go.Proofs.YtfmmomdmemcbbaaGreat
set_option linter.unusedVariables false
open Go.RowKit
theorem parts_core (a b d P D : Int) (ha : -9223372036854775808 ≤ a ∧ a ≤ 9223372036854775807) (hb : -9223372036854775808 ≤ b ∧ b ≤ 9223372036854775807)
    (hd : -9223372036854775808 ≤ d ∧ d ≤ 9223372036854775807) (HP : Hid (Pl.mag a * Pl.mag b = P)) (HD : Hid (Pl.mag d = D)) (hlt : P / 18446744073709551616 < D) (w : World) :
    Calls Tryz.prog 131 #[.int .i64 a, .int .i64 b, .int .i64 d] w fun e w' =>
      e = .returned (.tuple #[.int .u64 (P / D), .int .u64 (P % D), .int .u64 D, .bool true]) ∧ Grown w w' := by
  have ma := Pl.mag_nn a
  have mb := Pl.mag_nn b
  have ma' := Pl.mag_le a ha.1 ha.2
  have mb' := Pl.mag_le b hb.1 hb.2
  have hP := Pl.mul_le126 _ _ ma ma' mb mb'
  rw [HP.out] at hP
  have md := Pl.mag_nn d
  have md' := Pl.mag_le d hd.1 hd.2
  rw [HD.out] at md md'
  go_enter Tryz.func131, Tryz.ntmps131
  go_wp2_with fail
  refine (size_any a ha _).mono ?_
  rintro e w1 ⟨rfl, rfl⟩
  go_wp2_with fail
  refine (size_any b hb _).mono ?_
  rintro e w1 ⟨rfl, rfl⟩
  go_wp2_with fail
  refine (product_any _ _ (by omega) (by omega) _).mono ?_
  rintro e w1 ⟨rfl, g1⟩
  rw [HP.out]
  go_wp2_with fail
  refine (size_any d hd _).mono ?_
  rintro e w2 ⟨rfl, rfl⟩
  rw [HD.out]
  clear ma mb ma' mb'
  go_wp2
  go_loop [6, 7, 11] (fun q r i => ∃ (j : Nat) (Q R : Int), j ≤ 64 ∧ 0 ≤ Q ∧ 0 ≤ R ∧ R < D ∧ Hid (P / 2 ^ j = Q * D + R) ∧ i = .int .i64 ((j : Int) - 1) ∧ q = .int .u64 (Q * 2 ^ j) ∧ r = .int .u64 R)
    (fun _ _ i => (intOf i + 1).toNat)
  case atStart => exact ⟨64, 0, P / 18446744073709551616, by omega, by omega, by omega, hlt, (by show P / 18446744073709551616 = 0 * D + _; omega), rfl, rfl, rfl⟩
  case round =>
    obtain ⟨j, Q, R, hj, hQ, hR, hRD, HI, rfl, rfl, rfl⟩ := hrel
    by_cases h0 : 1 ≤ j
    · obtain ⟨m, rfl⟩ : ∃ m, j = m + 1 := ⟨j - 1, by omega⟩
      rw [show (((m + 1 : Nat) : Int) - 1) = (m : Int) from by omega]
      have hbit := Pl.bit_step P m (by omega)
      have hb0 : 0 ≤ P % 18446744073709551616 / 2 ^ m % 2 ∧ P % 18446744073709551616 / 2 ^ m % 2 ≤ 1 := by omega
      have hor : bits .or .u64 (R * 2) (P % 18446744073709551616 / 2 ^ m % 2) = R * 2 + P % 18446744073709551616 / 2 ^ m % 2 :=
        Pl.or_shifted_u64 1 R _ (by omega) (by omega) (by omega) (by omega)
      have HB := Lib.hid hbit; clear hbit
      have ht : (R / 9223372036854775808 == 1) = false := by rw [beq_eq_false_iff_ne]; omega
      by_cases hge : D ≤ R * 2 + P % 18446744073709551616 / 2 ^ m % 2
      · have hI : P / 2 ^ m = (2 * Q + 1) * D + (R * 2 + P % 18446744073709551616 / 2 ^ m % 2 - D) := by
          rw [HB.out, HI.out, Int.add_mul, Int.mul_assoc]; omega
        have hQ' := Pl.share_lt P D (2 * Q + 1) _ m (by omega) (by omega) hI (by omega) hlt
        have hp := Pl.pow_lt64 m (by omega)
        have eQ : Q * 2 ^ (m + 1) + 2 ^ m = (2 * Q + 1) * 2 ^ m := by rw [Int.pow_succ, Int.add_mul, Int.mul_comm (2 : Int) Q, Int.mul_assoc, Int.mul_comm (2 ^ m : Int) 2]; omega
        have hqor : bits .or .u64 (Q * 2 ^ (m + 1)) (IntKind.u64.wrap (2 ^ m)) = (2 * Q + 1) * 2 ^ m := by
          have hw : IntKind.u64.wrap (2 ^ m) = 2 ^ m := by rw [IntKind.wrap_u64]; omega
          rw [hw, Pl.or_shifted_u64 (m + 1) Q (2 ^ m) (by omega) (by rw [Int.pow_succ]; omega) hQ (by omega)]
          exact eQ
        have HI' := Lib.hid hI; clear hI eQ hp hQ'
        go_wp2
        go_round
        case rel => exact ⟨m, 2 * Q + 1, _, by omega, by omega, by omega, by omega, HI', rfl, rfl, rfl⟩
        case measure => simp [intOf] <;> omega
      · have hI : P / 2 ^ m = (2 * Q) * D + (R * 2 + P % 18446744073709551616 / 2 ^ m % 2) := by
          rw [HB.out, HI.out, Int.mul_assoc]; omega
        have HI' := Lib.hid hI; clear hI
        have eQ : Q * 2 ^ (m + 1) = 2 * Q * 2 ^ m := by rw [Int.pow_succ, Int.mul_comm (2 : Int) Q, Int.mul_assoc, Int.mul_comm (2 ^ m : Int) 2]
        have EQ := Lib.hid eQ; clear eQ
        go_wp2
        go_round
        case rel => exact ⟨m, 2 * Q, _, by omega, by omega, by omega, by omega, HI', rfl, by rw [EQ.out], rfl⟩
        case measure => simp [intOf] <;> omega
    · obtain rfl : j = 0 := by omega
      have hI := HI.out
      rw [Int.pow_zero, Int.ediv_one] at hI
      have e1 : P / D = Q := by rw [hI, Int.mul_comm, Int.mul_add_ediv_left _ _ (by omega), Int.ediv_eq_zero_of_lt hR hRD]; omega
      have e2 : P % D = R := by rw [hI, Int.mul_comm, Int.mul_add_emod_self_left, Int.emod_eq_of_lt hR hRD]
      have E1 := Lib.hid e1
      have E2 := Lib.hid e2
      clear e1 e2 hI
      go_wp2
      refine bodyPost_ret (v := .tuple #[.int .u64 Q, .int .u64 R, .int .u64 D, .bool true]) (by simp [results, Tryz.results131, go_sem]) rfl ⟨by rw [E1.out, E2.out], g1⟩
theorem parts_no (a b d P D : Int) (ha : -9223372036854775808 ≤ a ∧ a ≤ 9223372036854775807) (hb : -9223372036854775808 ≤ b ∧ b ≤ 9223372036854775807)
    (hd : -9223372036854775808 ≤ d ∧ d ≤ 9223372036854775807) (HP : Hid (Pl.mag a * Pl.mag b = P)) (HD : Hid (Pl.mag d = D)) (hlt : D ≤ P / 18446744073709551616) (w : World) :
    Calls Tryz.prog 131 #[.int .i64 a, .int .i64 b, .int .i64 d] w fun e w' =>
      e = .returned (.tuple #[.int .u64 0, .int .u64 0, .int .u64 0, .bool false]) ∧ Grown w w' := by
  have ma := Pl.mag_nn a
  have mb := Pl.mag_nn b
  have ma' := Pl.mag_le a ha.1 ha.2
  have mb' := Pl.mag_le b hb.1 hb.2
  go_enter Tryz.func131, Tryz.ntmps131
  go_wp2_with fail
  refine (size_any a ha _).mono ?_
  rintro e w1 ⟨rfl, rfl⟩
  go_wp2_with fail
  refine (size_any b hb _).mono ?_
  rintro e w1 ⟨rfl, rfl⟩
  go_wp2_with fail
  refine (product_any _ _ (by omega) (by omega) _).mono ?_
  rintro e w1 ⟨rfl, g1⟩
  rw [HP.out]
  go_wp2_with fail
  refine (size_any d hd _).mono ?_
  rintro e w2 ⟨rfl, rfl⟩
  rw [HD.out]
  go_wp2
  exact bodyPost_ret (v := .tuple #[.int .u64 0, .int .u64 0, .int .u64 0, .bool false]) (by simp [results, Tryz.results131, go_sem]) rfl ⟨rfl, g1⟩
end Go.Proofs.YtfmmomdmemcbbaaGreat
