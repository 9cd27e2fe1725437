/- top of none, below none, of too many; Roll of these. -/
import Derived.Test.YtenmbkngkabonaaT6
namespace Go.Proofs.Ytenmbkngkabonaa
set_option linter.unusedVariables false
open Go.RowKit

theorem top_low (base p : Nat) (v : Value) (L : List Pl.Ob) (n : Int) (hn : n < 0) (W : World) (hS : StkV base p v L W) :
    Calls Try.prog 65 #[.pointer (some ⟨p, 0, none⟩), .int .i64 n] W fun e w' => e = .returned (.tuple #[.slice none 0 0, .int .i64 2]) ∧ Grown W w' := by
  clear hS
  go_enter Try.func65, Try.ntmps65
  go_wp2_with fail
  go_ret2
  exact ⟨rfl, by (repeat (first | exact Grown.refl _ | assumption | apply Grown.drew | apply Grown.alloc))⟩
theorem top_under (base p : Nat) (v : Value) (L : List Pl.Ob) (n : Int) (hn : (L.length : Int) < n) (W : World) (hS : StkV base p v L W) :
    Calls Try.prog 65 #[.pointer (some ⟨p, 0, none⟩), .int .i64 n] W fun e w' => e = .returned (.tuple #[.slice none 0 0, .int .i64 7]) ∧ Grown W w' := by
  obtain ⟨ao, cap, rfl⟩ := hS.slice
  obtain ⟨h0, h1, hown, hne, hp⟩ := id hS
  have h2 : 0 ≤ n := by omega
  clear hS hown hne
  go_enter Try.func65, Try.ntmps65
  go_wp2_with fail
  go_ret2
  exact ⟨rfl, by (repeat (first | exact Grown.refl _ | assumption | apply Grown.drew | apply Grown.alloc))⟩
theorem top_zero (base p : Nat) (v : Value) (L : List Pl.Ob) (hlen : L.length ≤ 300) (W : World) (hS : StkV base p v L W) :
    Calls Try.prog 65 #[.pointer (some ⟨p, 0, none⟩), .int .i64 0] W fun e w' => (∃ ao, e = .returned (.tuple #[.slice ao 0 0, .int .i64 0])) ∧ Grown W w' := by
  obtain ⟨ao, cap, rfl⟩ := hS.slice
  obtain ⟨h0, h1, hown, hne, hp⟩ := id hS
  have hcap : L.length ≤ cap := by
    rcases hown.2 with ⟨hq, h⟩ | ⟨g, cap', cur, hq, _, _, hc, _⟩
    · omega
    · injection hq with a b c; omega
  obtain ⟨M, hM⟩ : ∃ M, M = L.length := ⟨_, rfl⟩
  rw [← hM] at hlen h0 hcap
  clear hM hS hown hne
  have c1 : (0 : Int) ≤ (M : Int) := by omega
  have c2 : (M : Int) ≤ 300 := by omega
  have c3 : (M : Int) ≤ (cap : Int) := by omega
  have c4 : IntKind.i64.wrap (M : Int) = M := IntWalk.i64_in _ (by omega)
  go_enter Try.func65, Try.ntmps65
  go_wp2_with fail
  go_region
  all_goals
    go_wp2_with fail
    go_ret2
    refine ⟨⟨_, rfl⟩, by (repeat (first | exact Grown.refl _ | assumption | apply Grown.drew | apply Grown.alloc))⟩

theorem run_append_owned_zero {P : Program} (w : World) (base : Nat) (t ty e : TypeId) (i : TypeInfo) (size : Nat) (ht : P.underlying t = some (.slice e)) (hi : P.info? e = some i)
    (v : Value) (n : Nat) (xs : List Value) (hown : w.ownsRow base e size v n xs) (ao : Option Addr) (c : Nat) :
    (Builtin.append_ #[t, t] ty #[v, .slice ao 0 c]).run P w = .ok v w := by
  have hl : ∀ b : Addr, (Sem.run P (loadCells b 0) w) = .ok #[] w := fun b => run_loadCells_list (P := P) w b [] (by simp)
  rcases hown.2 with ⟨rfl, rfl⟩ | ⟨g, cap, cur, rfl, _, _, hnc, _⟩
  · cases ao <;> simp [Builtin.append_, run_underlying ht, sizeOf, typeInfo, hi, Builtin.lenOf, Builtin.firstCells, hl]
  · cases ao <;> simp [Builtin.append_, run_underlying ht, sizeOf, typeInfo, hi, Builtin.lenOf, Builtin.firstCells, hnc, storeCells, hl]
/-- nothing is appended -/
theorem step_append_zero {P : Program} {ops : Array Oper} {o : Oper} {a : Act} {w : World} {K : Act → World → Prop} {Q : Exit → Act → World → Prop} {E : Prop}
    (hg : o.guard = none) (s x : Operand) (t : TypeId) (ho : o.op = .call { callee := .builtin .append, args := #[s, x], argTypes := #[t, t] })
    (base : Nat) (e : TypeId) (i : TypeInfo) (size : Nat) (ht : P.underlying t = some (.slice e)) (hi : P.info? e = some i)
    (v : Value) (n : Nat) (xs : List Value) (hs : a.eval s = v) (hown : w.ownsRow base e size v n xs) (ao : Option Addr) (c : Nat) (hx : a.eval x = .slice ao 0 c)
    (hK : K (a.put o.dst v) w) :
    if Region.wanted o (yielded ops a.tmps) = true then Oper.wp P o a w K Q else E := by
  have hw : Region.wanted o (yielded ops a.tmps) = true := by simp [Region.wanted, hg]
  rw [if_pos hw]
  have hrun := run_append_owned_zero (P := P) w base t o.type e i size ht hi v n xs hown ao c
  unfold Oper.wp
  simp [execOp, ho, resolve, invoke, builtin, hs, hx, hrun, Result.andThen]
  exact hK

set_option maxHeartbeats 2000000 in
set_option maxRecDepth 100000 in
theorem roll_whole (base p g cap : Nat) (A B1 : List Pl.Ob) (d N M : Nat) (j : Int) (hA : A.length = d) (h1 : B1.length = N) (he : 1 ≤ N) (hM : M = d + N) (hlen : M ≤ 300)
    (hj : j.tmod N = 0) (W : World) (hS : StkV base p (.slice (some ⟨g, 0, none⟩) M cap) (A ++ B1) W) :
    Calls Try.prog 27 #[.pointer (some ⟨p, 0, none⟩), .int .i64 (N : Int), .int .i64 j] W fun e' w' => e' = .returned (.int .i64 0) ∧
      StkV base p (.slice (some ⟨g, 0, none⟩) M cap) (A ++ B1) w' ∧ Fr (fun c => c = g) W w' := by
  have hL : (A ++ B1).length = M := by simp [hA, h1]; omega
  obtain ⟨i0, hi, hz0, hz1, hz2⟩ := info_parts Try.objInfo
  obtain ⟨g2, cap2, hv, TOP⟩ := top_ok base p _ _ N (by omega) (by omega) (by omega) W hS
  obtain rfl : g2 = g := by injection hv with a b c; injection a with a; injection a with a; exact a.symm
  clear hv
  rw [hL, show M - N = d from by omega] at TOP
  obtain ⟨c0, f0, hown, hne, hp⟩ := id hS
  have hTOP := Lib.hid TOP
  clear TOP
  have en0 : ((N : Int) == 0) = false := beq_eq_false_iff_ne.2 (by omega)
  have en3 : (N : Int) ≤ 300 := by omega
  have en4 : (1 : Int) ≤ (N : Int) := by omega
  have en5 : (N : Int) ≠ 0 := by omega
  have HM := Lib.hid hM
  clear hM
  have we : IntKind.i64.wrap (N : Int) = N := IntWalk.i64_in _ (by omega)
  have T1 : ∀ w1, Grown W w1 → ∃ cur : Array Value, w1.heap[g2]? = some (.cells cur 38 (0, 0)) ∧ cur.size = cap * 6 ∧ M ≤ cap ∧ cur.toList.take (M * 6) = Pl.flat A ++ Pl.flat B1 := by
    intro w1 g1
    have hx := own_fr (P := fun _ => False) hown (Fr.of_grown _ g1) (fun _ _ f => f)
    rcases hx.2 with ⟨hq, _⟩ | ⟨g3, cap3, cur, hq, _, hg3, hc3, _, hs3, ht3⟩
    · cases hq
    · injection hq with q1 q2 q3
      cases q1
      subst q3
      rw [hL] at ht3 hc3
      exact ⟨cur, hg3, hs3, hc3, by rw [ht3, Pl.flat_append]⟩
  have T2 : ∀ w1, Grown W w1 → ∀ j u, (Pl.flat B1)[j]? = some u → w1.cell? ((⟨g2, d * 6, none⟩ : Addr).add j) = some u := by
    intro w1 g1 j u hu
    have hx := own_fr (P := fun _ => False) hown (Fr.of_grown _ g1) (fun _ _ f => f)
    have hj := (List.getElem?_eq_some_iff.1 hu).1
    rw [Pl.flat_len] at hj
    rw [show (⟨g2, d * 6, none⟩ : Addr).add j = ⟨g2, d * 6 + j, none⟩ from by simp [Addr.add]]
    rw [hL] at hx
    have hmn : M = d + N := HM.out
    rw [hx.cellAt _ (by omega), Pl.flat_append, List.getElem?_append_right (by rw [Pl.flat_len]; omega), Pl.flat_len, ← hu]
    congr 1; omega
  have T4 : ∀ (w1 w' : World) (cur : Array Value), Grown W w1 → w1.grownBy w' none → cur.size = cap * 6 → M ≤ cap → w1.heap[g2]? = some (.cells cur 38 (0, 0)) → cur.toList.take (M * 6) = Pl.flat A ++ Pl.flat B1 →
      StkV base p (.slice (some ⟨g2, 0, none⟩) M cap) (A ++ B1) (w'.setRow g2 (cur.toList.take (d * 6) ++ (Pl.flat B1 ++ cur.toList.drop (d * 6 + (Pl.flat B1).length))).toArray) ∧
      Fr (fun c => c = g2) W (w'.setRow g2 (cur.toList.take (d * 6) ++ (Pl.flat B1 ++ cur.toList.drop (d * 6 + (Pl.flat B1).length))).toArray) := by
    intro w1 w' cur g1 hgr hcs hcM hcur htk
    have hmn : M = d + N := HM.out
    have hgp : g2 ≠ p := fun q => hne (by rw [q]; rfl)
    have hgl := own_lt hown g2 rfl
    have hgl1 : g2 < w1.heap.size := Nat.lt_of_lt_of_le hgl g1.2.2
    have hF : Fr (fun c => c = g2) W (w'.setRow g2 (cur.toList.take (d * 6) ++ (Pl.flat B1 ++ cur.toList.drop (d * 6 + (Pl.flat B1).length))).toArray) :=
      ((Fr.of_grown _ g1).trans (Fr.grown _ hgr (by intro k q; cases q))).trans (Fr.setRow _ _ _ _ rfl)
    refine ⟨⟨(hF.cell (a := ⟨p, 0, none⟩) hp (fun q => hgp q.symm)).trans c0, (hF.frozen (a := ⟨p, 0, none⟩) hp (fun q => hgp q.symm)).trans f0, ?_, hne, Nat.lt_of_lt_of_le hp hF.2.2.1⟩, hF⟩
    rw [hL, Pl.flat_append]
    have hlf : (Pl.flat A ++ Pl.flat B1).length = M * 6 := by simp [Pl.flat_len, hA, h1]; omega
    refine ⟨hlf, .inr ?_⟩
    rcases hown.2 with ⟨hq, _⟩ | ⟨g3, cap3, cur3, hq, hb3, hg3, hc3, hc4, hs3, ht3⟩
    · cases hq
    · injection hq with q1 q2 q3
      cases q1
      subst q3
      have hta : cur.toList.take (d * 6) = Pl.flat A := by
        have : (cur.toList.take (M * 6)).take (d * 6) = Pl.flat A := by
          rw [htk, List.take_append_of_le_length (by rw [Pl.flat_len]; omega), List.take_of_length_le (by rw [Pl.flat_len]; omega)]
        rwa [List.take_take, Nat.min_eq_left (by omega)] at this
      refine ⟨g2, cap, _, rfl, hb3, setRow_heap w' g2 cur _ 38 (0, 0) ((hgr.block g2 hgl1 (by simp)).trans hcur), hcM, hc4, ?_, ?_⟩
      · simp [Pl.flat_len, h1, hcs]; omega
      · rw [hta]
        show List.take (M * 6) (Pl.flat A ++ (Pl.flat B1 ++ _)) = _
        rw [← List.append_assoc, List.take_append_of_le_length (by rw [hlf]; exact Nat.le_refl _), List.take_of_length_le (by rw [hlf]; exact Nat.le_refl _)]
  have HT := Lib.hid (And.intro T1 (And.intro T2 T4))
  clear T1 T2 T4 hown
  have hgl := own_lt hS.2.2.1 g2 rfl
  have HL1 : Hid ((Pl.flat B1).length = N * 6) := Lib.hid (by rw [Pl.flat_len, h1])
  go_enter Try.func27, Try.ntmps27
  go_wp2_with fail
  refine hTOP.out.mono ?_
  rintro e' w1 ⟨rfl, g1⟩
  obtain ⟨cur, hcur, hcs, hcM, htk⟩ := HT.out.1 w1 g1
  have Hcur := Lib.hid (And.intro hcur (And.intro hcs (And.intro hcM htk)))
  clear hcur hcs hcM htk
  have G1 := Lib.hid g1
  go_wp2_with fail
  go_region_law first | (refine step_append_grows rfl (.tmp 37) (.tmp 42) 32 rfl 38 i0 _ 6 56 Try.underlying32 hi hz0 hz1 hz2 rfl (by decide) (some ⟨g2, d*6, none⟩) 0 0 [] (by simp [Act.eval, Act.put]) (by intro q; cases q) rfl (by intro b q; cases q; intro j u hu; cases hu) ⟨g2, d*6, none⟩ N N (Pl.flat B1) (by simp [Act.eval, Act.put]) HL1.out (HT.out.2.1 w1 G1.out) (Pl.flat_one B1) (by omega) (by unfold maxLen; omega) (by omega) ?_; intro v' w' hown' hgr; obtain ⟨g', cap', rfl, hg'⟩ := own_some' hown' (by omega); have Hown := Lib.hid hown'; have Hgr := Lib.hid hgr; clear hown' hgr) | (refine step_copy_wide rfl (.tmp 30) (.tmp 43) 32 32 rfl 38 6 Try.underlying32 (by rw [hi]; exact congrArg some hz1) g2 (d*6) N N ⟨g', 0, none⟩ (0 + N) cap' N (by simp [Act.eval]) (by simp [Act.eval]) cur 38 ((Hgr.out.block g2 (by have := G1.out.2.2; simp; omega) (by simp)).trans Hcur.out.1) (Pl.flat B1) (by rw [Nat.zero_add]; exact (Nat.min_self N).symm) HL1.out (Hown.out.cells rfl) (by rw [HL1.out, Hcur.out.2.1]; have := Hcur.out.2.2.1; have := HM.out; omega) (Pl.flat_one B1) ?_)
  all_goals
    have T4 := Lib.hid (HT.out.2.2 w1.drew w' cur (Grown.drew G1.out) Hgr.out Hcur.out.2.1 Hcur.out.2.2.1 Hcur.out.1 Hcur.out.2.2.2)
    go_wp2_with fail
    go_ret
    exact ⟨rfl, T4.out⟩
end Go.Proofs.Ytenmbkngkabonaa
