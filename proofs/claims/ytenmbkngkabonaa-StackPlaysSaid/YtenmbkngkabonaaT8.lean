/- The walk of (*stack.Stack).Roll. · top of none, below none, of too many; Roll of these. · Roll of any number within; Items, Clear, Pop, tympanhelp.Same of rows of objects. -/
import Derived.Test.YtenmbkngkabonaaT5
namespace Go.Proofs.Ytenmbkngkabonaa
set_option linter.unusedVariables false
open Go.RowKit

theorem Pl.flat_len (L : List Pl.Ob) : (Pl.flat L).length = L.length * 6 := by
  induction L with
  | nil => rfl
  | cons o r ih => simp only [Pl.flat, List.length_append, ih, List.length_cons]; simp [Pl.oc]; omega
theorem Pl.flat_one : ∀ (L : List Pl.Ob), ∀ u ∈ Pl.flat L, u.oneCell' = true
  | [], u, hu => by simp [Pl.flat] at hu
  | o :: r, u, hu => by
    simp only [Pl.flat, List.mem_append] at hu
    rcases hu with hu | hu
    · simp [Pl.oc] at hu
      rcases hu with rfl | rfl | rfl | rfl | rfl | rfl <;> rfl
    · exact Pl.flat_one r u hu
theorem own_some' {w : World} {base : Nat} {e : TypeId} {size : Nat} {v : Value} {n : Nat} {xs : List Value} (h : w.ownsRow base e size v n xs) (hn : 0 < n) : ∃ g cap, v = .slice (some ⟨g, 0, none⟩) n cap ∧ base ≤ g := by
  rcases h.2 with ⟨_, h0⟩ | ⟨g, cap, cur, rfl, hb, _⟩
  · omega
  · exact ⟨g, cap, rfl, hb⟩

set_option maxHeartbeats 2000000 in
set_option maxRecDepth 100000 in
theorem roll_core (base p g cap : Nat) (A B1 B2 : List Pl.Ob) (d e jj N M : Nat) (j : Int) (hA : A.length = d) (h1 : B1.length = e) (h2 : B2.length = jj) (he : 1 ≤ e) (hjj : 1 ≤ jj) (hN : N = e + jj) (hM : M = d + N) (hlen : M ≤ 300)
    (hj : (0 ≤ j.tmod N ∧ j.tmod N = jj) ∨ (j.tmod N < 0 ∧ j.tmod N + N = jj)) (hb : -300 < j.tmod N ∧ j.tmod N < 300)
    (W : World) (hS : StkV base p (.slice (some ⟨g, 0, none⟩) M cap) (A ++ (B1 ++ B2)) W) :
    Calls Try.prog 27 #[.pointer (some ⟨p, 0, none⟩), .int .i64 (N : Int), .int .i64 j] W fun e' w' => e' = .returned (.int .i64 0) ∧
      StkV base p (.slice (some ⟨g, 0, none⟩) M cap) (A ++ (B2 ++ B1)) w' ∧ Fr (fun c => c = g) W w' := by
  have hL : (A ++ (B1 ++ B2)).length = M := by simp [hA, h1, h2]; omega
  obtain ⟨i0, hi, hz0, hz1, hz2⟩ := info_parts Try.objInfo
  obtain ⟨g2, cap2, hv, TOP⟩ := top_ok base p _ _ N (by omega) (by omega) (by omega) W hS
  obtain rfl : g2 = g := by injection hv with a b c; injection a with a; injection a with a; exact a.symm
  clear hv
  rw [hL, show M - N = d from by omega] at TOP
  obtain ⟨c0, f0, hown, hne, hp⟩ := id hS
  have hTOP := Lib.hid TOP
  clear TOP
  have en0 : ((N : Int) == 0) = false := beq_eq_false_iff_ne.2 (by omega)
  have en1 : (N : Int) - (jj : Int) = e := by omega
  have en2 : (e : Int) ≤ (N : Int) := by omega
  have en3 : (N : Int) ≤ 300 := by omega
  have en4 : (1 : Int) ≤ (N : Int) := by omega
  have en5 : (N : Int) ≠ 0 := by omega
  obtain ⟨hb0, hb1⟩ := hb
  have j0 : 1 ≤ (jj : Int) := by omega
  have j1 : (jj : Int) ≤ 300 := by omega
  have e0 : 1 ≤ (e : Int) := by omega
  have HN := Lib.hid hN
  have HM := Lib.hid hM
  clear hN hM
  have eNe : N - e = jj := by omega
  have eNf : ¬ (N = e) := by omega
  have we : IntKind.i64.wrap (e : Int) = e := IntWalk.i64_in _ (by omega)
  have T1 : ∀ w1, Grown W w1 → ∃ cur : Array Value, w1.heap[g2]? = some (.cells cur 38 (0, 0)) ∧ cur.size = cap * 6 ∧ M ≤ cap ∧ cur.toList.take (M * 6) = Pl.flat A ++ (Pl.flat B1 ++ Pl.flat B2) := by
    intro w1 g1
    have hx := own_fr (P := fun _ => False) hown (Fr.of_grown _ g1) (fun _ _ f => f)
    rcases hx.2 with ⟨hq, _⟩ | ⟨g3, cap3, cur, hq, _, hg3, hc3, _, hs3, ht3⟩
    · cases hq
    · injection hq with q1 q2 q3
      cases q1
      subst q3
      rw [hL] at ht3 hc3
      exact ⟨cur, hg3, hs3, hc3, by rw [ht3, Pl.flat_append, Pl.flat_append]⟩
  have T2 : ∀ w1, Grown W w1 → ∀ j u, (Pl.flat B1)[j]? = some u → w1.cell? ((⟨g2, d * 6, none⟩ : Addr).add j) = some u := by
    intro w1 g1 j u hu
    have hx := own_fr (P := fun _ => False) hown (Fr.of_grown _ g1) (fun _ _ f => f)
    have hj := (List.getElem?_eq_some_iff.1 hu).1
    rw [Pl.flat_len] at hj
    rw [show (⟨g2, d * 6, none⟩ : Addr).add j = ⟨g2, d * 6 + j, none⟩ from by simp [Addr.add]]
    rw [hL] at hx
    have hmn : M = d + N := HM.out
    rw [hx.cellAt _ (by omega), Pl.flat_append, Pl.flat_append, List.getElem?_append_right (by rw [Pl.flat_len]; omega), List.getElem?_append_left (by rw [Pl.flat_len, Pl.flat_len]; omega), Pl.flat_len, ← hu]
    congr 1; omega
  have T3 : ∀ w1, Grown W w1 → ∀ j u, (Pl.flat B2)[j]? = some u → w1.cell? ((⟨g2, d * 6 + e * 6, none⟩ : Addr).add j) = some u := by
    intro w1 g1 j u hu
    have hx := own_fr (P := fun _ => False) hown (Fr.of_grown _ g1) (fun _ _ f => f)
    have hj := (List.getElem?_eq_some_iff.1 hu).1
    rw [Pl.flat_len] at hj
    rw [show (⟨g2, d * 6 + e * 6, none⟩ : Addr).add j = ⟨g2, d * 6 + e * 6 + j, none⟩ from by simp [Addr.add]]
    rw [hL] at hx
    have hmn : M = d + N := HM.out
    rw [hx.cellAt _ (by omega), Pl.flat_append, Pl.flat_append, List.getElem?_append_right (by rw [Pl.flat_len]; omega), List.getElem?_append_right (by rw [Pl.flat_len, Pl.flat_len]; omega), Pl.flat_len, Pl.flat_len, ← hu]
    congr 1; omega
  have T4 : ∀ (w1 w' : World) (cur : Array Value), Grown W w1 → w1.grownBy w' none → cur.size = cap * 6 → M ≤ cap → w1.heap[g2]? = some (.cells cur 38 (0, 0)) → cur.toList.take (M * 6) = Pl.flat A ++ (Pl.flat B1 ++ Pl.flat B2) →
      StkV base p (.slice (some ⟨g2, 0, none⟩) M cap) (A ++ (B2 ++ B1)) (w'.setRow g2 (cur.toList.take (d * 6) ++ ((Pl.flat B2 ++ Pl.flat B1) ++ cur.toList.drop (d * 6 + (Pl.flat B2 ++ Pl.flat B1).length))).toArray) ∧
      Fr (fun c => c = g2) W (w'.setRow g2 (cur.toList.take (d * 6) ++ ((Pl.flat B2 ++ Pl.flat B1) ++ cur.toList.drop (d * 6 + (Pl.flat B2 ++ Pl.flat B1).length))).toArray) := by
    intro w1 w' cur g1 hgr hcs hcM hcur htk
    have hmn : M = d + N := HM.out
    have hnn : N = e + jj := HN.out
    have hgp : g2 ≠ p := fun q => hne (by rw [q]; rfl)
    have hgl := own_lt hown g2 rfl
    have hgl1 : g2 < w1.heap.size := Nat.lt_of_lt_of_le hgl g1.2.2
    have hF : Fr (fun c => c = g2) W (w'.setRow g2 (cur.toList.take (d * 6) ++ ((Pl.flat B2 ++ Pl.flat B1) ++ cur.toList.drop (d * 6 + (Pl.flat B2 ++ Pl.flat B1).length))).toArray) :=
      ((Fr.of_grown _ g1).trans (Fr.grown _ hgr (by intro k q; cases q))).trans (Fr.setRow _ _ _ _ rfl)
    refine ⟨⟨(hF.cell (a := ⟨p, 0, none⟩) hp (fun q => hgp q.symm)).trans c0, (hF.frozen (a := ⟨p, 0, none⟩) hp (fun q => hgp q.symm)).trans f0, ?_, hne, Nat.lt_of_lt_of_le hp hF.2.2.1⟩, hF⟩
    have hl2 : (A ++ (B2 ++ B1)).length = M := by simp [hA, h1, h2]; omega
    have hfl : (Pl.flat (A ++ (B2 ++ B1))) = Pl.flat A ++ (Pl.flat B2 ++ Pl.flat B1) := by rw [Pl.flat_append, Pl.flat_append]
    rw [hl2, hfl]
    have hlf : (Pl.flat A ++ (Pl.flat B2 ++ Pl.flat B1)).length = M * 6 := by simp [Pl.flat_len, hA, h1, h2]; omega
    refine ⟨hlf, .inr ?_⟩
    rcases hown.2 with ⟨hq, _⟩ | ⟨g3, cap3, cur3, hq, hb3, hg3, hc3, hc4, hs3, ht3⟩
    · cases hq
    · injection hq with q1 q2 q3
      cases q1
      subst q3
      have hta : cur.toList.take (d * 6) = Pl.flat A := by
        have : (cur.toList.take (M * 6)).take (d * 6) = Pl.flat A := by
          rw [htk, List.take_append_of_le_length (by rw [Pl.flat_len]; omega), List.take_of_length_le (by rw [Pl.flat_len]; omega)]
        rwa [List.take_take, Nat.min_eq_left (by omega)] at this
      refine ⟨g2, cap, _, rfl, hb3, setRow_heap w' g2 cur _ 38 (0, 0) ((hgr.block g2 hgl1 (by simp)).trans hcur), hcM, hc4, ?_, ?_⟩
      · simp [Pl.flat_len, h1, h2, hcs]; omega
      · rw [hta]
        show List.take (M * 6) (Pl.flat A ++ ((Pl.flat B2 ++ Pl.flat B1) ++ _)) = _
        rw [← List.append_assoc, List.take_append_of_le_length (by rw [hlf]; exact Nat.le_refl _), List.take_of_length_le (by rw [hlf]; exact Nat.le_refl _)]
  have HT := Lib.hid (And.intro T1 (And.intro T2 (And.intro T3 T4)))
  clear T1 T2 T3 T4 hown
  have hgl := own_lt hS.2.2.1 g2 rfl
  have HL1 : Hid ((Pl.flat B1).length = e * 6) := Lib.hid (by rw [Pl.flat_len, h1])
  have HL2 : Hid ((Pl.flat B2).length = jj * 6) := Lib.hid (by rw [Pl.flat_len, h2])
  have HD : Hid (jj + e = N) := Lib.hid (by omega)
  rcases hj with ⟨hj0, hj1⟩ | ⟨hj0, hj1⟩
  · rw [hj1] at hj0 hb0 hb1
    go_enter Try.func27, Try.ntmps27
    go_wp2_with fail
    refine hTOP.out.mono ?_
    rintro e' w1 ⟨rfl, g1⟩
    obtain ⟨cur, hcur, hcs, hcM, htk⟩ := HT.out.1 w1 g1
    have Hcur := Lib.hid (And.intro hcur (And.intro hcs (And.intro hcM htk)))
    clear hcur hcs hcM htk
    have G1 := Lib.hid g1
    go_wp2_with fail
    go_region_law first | (refine step_append_grows rfl (.tmp 37) (.tmp 42) 32 rfl 38 i0 _ 6 56 Try.underlying32 hi hz0 hz1 hz2 rfl (by decide) (some ⟨g2, d*6+e*6, none⟩) jj jj (Pl.flat B2) (by simp [Act.eval, Act.put]) (by intro q; cases q) HL2.out (by intro b q; cases q; exact HT.out.2.2.1 w1 G1.out) ⟨g2, d*6, none⟩ e N (Pl.flat B1) (by simp [Act.eval, Act.put]) HL1.out (HT.out.2.1 w1 G1.out) (Pl.flat_one B1) (by omega) (by unfold maxLen; omega) (by omega) ?_; intro v' w' hown' hgr; obtain ⟨g', cap', rfl, hg'⟩ := own_some' hown' (by omega); have Hown := Lib.hid hown'; have Hgr := Lib.hid hgr; clear hown' hgr) | (refine step_copy_wide rfl (.tmp 30) (.tmp 43) 32 32 rfl 38 6 Try.underlying32 (by rw [hi]; exact congrArg some hz1) g2 (d*6) N N ⟨g', 0, none⟩ (jj + e) cap' N (by simp [Act.eval]) (by simp [Act.eval]) cur 38 ((Hgr.out.block g2 (by have := G1.out.2.2; simp; omega) (by simp)).trans Hcur.out.1) (Pl.flat B2 ++ Pl.flat B1) (by rw [HD.out]; exact (Nat.min_self N).symm) (by rw [List.length_append, HL1.out, HL2.out, ← HD.out]; omega) (Hown.out.cells rfl) (by rw [List.length_append, HL1.out, HL2.out, Hcur.out.2.1]; have := Hcur.out.2.2.1; have := HM.out; have := HD.out; omega) (by intro u hu; rcases List.mem_append.1 hu with hu | hu; exact Pl.flat_one B2 u hu; exact Pl.flat_one B1 u hu) ?_)
    all_goals
      have t4 := HT.out.2.2.2 w1.drew w' cur (Grown.drew G1.out) Hgr.out Hcur.out.2.1 Hcur.out.2.2.1 Hcur.out.1 Hcur.out.2.2.2
      rw [List.append_assoc, List.length_append] at t4
      have T4 := Lib.hid t4
      clear t4
      go_wp2_with fail
      go_ret
      exact ⟨rfl, T4.out⟩
  · go_enter Try.func27, Try.ntmps27
    go_wp2_with fail
    refine hTOP.out.mono ?_
    rintro e' w1 ⟨rfl, g1⟩
    obtain ⟨cur, hcur, hcs, hcM, htk⟩ := HT.out.1 w1 g1
    have Hcur := Lib.hid (And.intro hcur (And.intro hcs (And.intro hcM htk)))
    clear hcur hcs hcM htk
    have G1 := Lib.hid g1
    go_wp2_with fail
    go_region_law first | (refine step_append_grows rfl (.tmp 37) (.tmp 42) 32 rfl 38 i0 _ 6 56 Try.underlying32 hi hz0 hz1 hz2 rfl (by decide) (some ⟨g2, d*6+e*6, none⟩) jj jj (Pl.flat B2) (by simp [Act.eval, Act.put]) (by intro q; cases q) HL2.out (by intro b q; cases q; exact HT.out.2.2.1 w1 G1.out) ⟨g2, d*6, none⟩ e N (Pl.flat B1) (by simp [Act.eval, Act.put]) HL1.out (HT.out.2.1 w1 G1.out) (Pl.flat_one B1) (by omega) (by unfold maxLen; omega) (by omega) ?_; intro v' w' hown' hgr; obtain ⟨g', cap', rfl, hg'⟩ := own_some' hown' (by omega); have Hown := Lib.hid hown'; have Hgr := Lib.hid hgr; clear hown' hgr) | (refine step_copy_wide rfl (.tmp 30) (.tmp 43) 32 32 rfl 38 6 Try.underlying32 (by rw [hi]; exact congrArg some hz1) g2 (d*6) N N ⟨g', 0, none⟩ (jj + e) cap' N (by simp [Act.eval]) (by simp [Act.eval]) cur 38 ((Hgr.out.block g2 (by have := G1.out.2.2; simp; omega) (by simp)).trans Hcur.out.1) (Pl.flat B2 ++ Pl.flat B1) (by rw [HD.out]; exact (Nat.min_self N).symm) (by rw [List.length_append, HL1.out, HL2.out, ← HD.out]; omega) (Hown.out.cells rfl) (by rw [List.length_append, HL1.out, HL2.out, Hcur.out.2.1]; have := Hcur.out.2.2.1; have := HM.out; have := HD.out; omega) (by intro u hu; rcases List.mem_append.1 hu with hu | hu; exact Pl.flat_one B2 u hu; exact Pl.flat_one B1 u hu) ?_)
    all_goals
      have t4 := HT.out.2.2.2 w1.drew w' cur (Grown.drew G1.out) Hgr.out Hcur.out.2.1 Hcur.out.2.2.1 Hcur.out.1 Hcur.out.2.2.2
      rw [List.append_assoc, List.length_append] at t4
      have T4 := Lib.hid t4
      clear t4
      go_wp2_with fail
      go_ret
      exact ⟨rfl, T4.out⟩
end Go.Proofs.Ytenmbkngkabonaa

namespace Go.Proofs.Ytenmbkngkabonaa
set_option linter.unusedVariables false
open Go.RowKit

theorem top_low (base p : Nat) (v : Value) (L : List Pl.Ob) (n : Int) (hn : n < 0) (W : World) (hS : StkV base p v L W) :
    Calls Try.prog 65 #[.pointer (some ⟨p, 0, none⟩), .int .i64 n] W fun e w' => e = .returned (.tuple #[.slice none 0 0, .int .i64 2]) ∧ Grown W w' := by
  clear hS
  go_enter Try.func65, Try.ntmps65
  go_wp2_with fail
  go_ret2
  exact ⟨rfl, by (repeat (first | exact Grown.refl _ | assumption | apply Grown.drew | apply Grown.alloc))⟩
theorem top_under (base p : Nat) (v : Value) (L : List Pl.Ob) (n : Int) (hn : (L.length : Int) < n) (W : World) (hS : StkV base p v L W) :
    Calls Try.prog 65 #[.pointer (some ⟨p, 0, none⟩), .int .i64 n] W fun e w' => e = .returned (.tuple #[.slice none 0 0, .int .i64 7]) ∧ Grown W w' := by
  obtain ⟨ao, cap, rfl⟩ := hS.slice
  obtain ⟨h0, h1, hown, hne, hp⟩ := id hS
  have h2 : 0 ≤ n := by omega
  clear hS hown hne
  go_enter Try.func65, Try.ntmps65
  go_wp2_with fail
  go_ret2
  exact ⟨rfl, by (repeat (first | exact Grown.refl _ | assumption | apply Grown.drew | apply Grown.alloc))⟩
theorem top_zero (base p : Nat) (v : Value) (L : List Pl.Ob) (hlen : L.length ≤ 300) (W : World) (hS : StkV base p v L W) :
    Calls Try.prog 65 #[.pointer (some ⟨p, 0, none⟩), .int .i64 0] W fun e w' => (∃ ao, e = .returned (.tuple #[.slice ao 0 0, .int .i64 0])) ∧ Grown W w' := by
  obtain ⟨ao, cap, rfl⟩ := hS.slice
  obtain ⟨h0, h1, hown, hne, hp⟩ := id hS
  have hcap : L.length ≤ cap := by
    rcases hown.2 with ⟨hq, h⟩ | ⟨g, cap', cur, hq, _, _, hc, _⟩
    · omega
    · injection hq with a b c; omega
  obtain ⟨M, hM⟩ : ∃ M, M = L.length := ⟨_, rfl⟩
  rw [← hM] at hlen h0 hcap
  clear hM hS hown hne
  have c1 : (0 : Int) ≤ (M : Int) := by omega
  have c2 : (M : Int) ≤ 300 := by omega
  have c3 : (M : Int) ≤ (cap : Int) := by omega
  have c4 : IntKind.i64.wrap (M : Int) = M := IntWalk.i64_in _ (by omega)
  go_enter Try.func65, Try.ntmps65
  go_wp2_with fail
  go_region
  all_goals
    go_wp2_with fail
    go_ret2
    refine ⟨⟨_, rfl⟩, by (repeat (first | exact Grown.refl _ | assumption | apply Grown.drew | apply Grown.alloc))⟩

theorem run_append_owned_zero {P : Program} (w : World) (base : Nat) (t ty e : TypeId) (i : TypeInfo) (size : Nat) (ht : P.underlying t = some (.slice e)) (hi : P.info? e = some i)
    (v : Value) (n : Nat) (xs : List Value) (hown : w.ownsRow base e size v n xs) (ao : Option Addr) (c : Nat) :
    (Builtin.append_ #[t, t] ty #[v, .slice ao 0 c]).run P w = .ok v w := by
  have hl : ∀ b : Addr, (Sem.run P (loadCells b 0) w) = .ok #[] w := fun b => run_loadCells_list (P := P) w b [] (by simp)
  rcases hown.2 with ⟨rfl, rfl⟩ | ⟨g, cap, cur, rfl, _, _, hnc, _⟩
  · cases ao <;> simp [Builtin.append_, run_underlying ht, sizeOf, typeInfo, hi, Builtin.lenOf, Builtin.firstCells, hl]
  · cases ao <;> simp [Builtin.append_, run_underlying ht, sizeOf, typeInfo, hi, Builtin.lenOf, Builtin.firstCells, hnc, storeCells, hl]
/-- nothing is appended -/
theorem step_append_zero {P : Program} {ops : Array Oper} {o : Oper} {a : Act} {w : World} {K : Act → World → Prop} {Q : Exit → Act → World → Prop} {E : Prop}
    (hg : o.guard = none) (s x : Operand) (t : TypeId) (ho : o.op = .call { callee := .builtin .append, args := #[s, x], argTypes := #[t, t] })
    (base : Nat) (e : TypeId) (i : TypeInfo) (size : Nat) (ht : P.underlying t = some (.slice e)) (hi : P.info? e = some i)
    (v : Value) (n : Nat) (xs : List Value) (hs : a.eval s = v) (hown : w.ownsRow base e size v n xs) (ao : Option Addr) (c : Nat) (hx : a.eval x = .slice ao 0 c)
    (hK : K (a.put o.dst v) w) :
    if Region.wanted o (yielded ops a.tmps) = true then Oper.wp P o a w K Q else E := by
  have hw : Region.wanted o (yielded ops a.tmps) = true := by simp [Region.wanted, hg]
  rw [if_pos hw]
  have hrun := run_append_owned_zero (P := P) w base t o.type e i size ht hi v n xs hown ao c
  unfold Oper.wp
  simp [execOp, ho, resolve, invoke, builtin, hs, hx, hrun, Result.andThen]
  exact hK

set_option maxHeartbeats 2000000 in
set_option maxRecDepth 100000 in
theorem roll_whole (base p g cap : Nat) (A B1 : List Pl.Ob) (d N M : Nat) (j : Int) (hA : A.length = d) (h1 : B1.length = N) (he : 1 ≤ N) (hM : M = d + N) (hlen : M ≤ 300)
    (hj : j.tmod N = 0) (W : World) (hS : StkV base p (.slice (some ⟨g, 0, none⟩) M cap) (A ++ B1) W) :
    Calls Try.prog 27 #[.pointer (some ⟨p, 0, none⟩), .int .i64 (N : Int), .int .i64 j] W fun e' w' => e' = .returned (.int .i64 0) ∧
      StkV base p (.slice (some ⟨g, 0, none⟩) M cap) (A ++ B1) w' ∧ Fr (fun c => c = g) W w' := by
  have hL : (A ++ B1).length = M := by simp [hA, h1]; omega
  obtain ⟨i0, hi, hz0, hz1, hz2⟩ := info_parts Try.objInfo
  obtain ⟨g2, cap2, hv, TOP⟩ := top_ok base p _ _ N (by omega) (by omega) (by omega) W hS
  obtain rfl : g2 = g := by injection hv with a b c; injection a with a; injection a with a; exact a.symm
  clear hv
  rw [hL, show M - N = d from by omega] at TOP
  obtain ⟨c0, f0, hown, hne, hp⟩ := id hS
  have hTOP := Lib.hid TOP
  clear TOP
  have en0 : ((N : Int) == 0) = false := beq_eq_false_iff_ne.2 (by omega)
  have en3 : (N : Int) ≤ 300 := by omega
  have en4 : (1 : Int) ≤ (N : Int) := by omega
  have en5 : (N : Int) ≠ 0 := by omega
  have HM := Lib.hid hM
  clear hM
  have we : IntKind.i64.wrap (N : Int) = N := IntWalk.i64_in _ (by omega)
  have T1 : ∀ w1, Grown W w1 → ∃ cur : Array Value, w1.heap[g2]? = some (.cells cur 38 (0, 0)) ∧ cur.size = cap * 6 ∧ M ≤ cap ∧ cur.toList.take (M * 6) = Pl.flat A ++ Pl.flat B1 := by
    intro w1 g1
    have hx := own_fr (P := fun _ => False) hown (Fr.of_grown _ g1) (fun _ _ f => f)
    rcases hx.2 with ⟨hq, _⟩ | ⟨g3, cap3, cur, hq, _, hg3, hc3, _, hs3, ht3⟩
    · cases hq
    · injection hq with q1 q2 q3
      cases q1
      subst q3
      rw [hL] at ht3 hc3
      exact ⟨cur, hg3, hs3, hc3, by rw [ht3, Pl.flat_append]⟩
  have T2 : ∀ w1, Grown W w1 → ∀ j u, (Pl.flat B1)[j]? = some u → w1.cell? ((⟨g2, d * 6, none⟩ : Addr).add j) = some u := by
    intro w1 g1 j u hu
    have hx := own_fr (P := fun _ => False) hown (Fr.of_grown _ g1) (fun _ _ f => f)
    have hj := (List.getElem?_eq_some_iff.1 hu).1
    rw [Pl.flat_len] at hj
    rw [show (⟨g2, d * 6, none⟩ : Addr).add j = ⟨g2, d * 6 + j, none⟩ from by simp [Addr.add]]
    rw [hL] at hx
    have hmn : M = d + N := HM.out
    rw [hx.cellAt _ (by omega), Pl.flat_append, List.getElem?_append_right (by rw [Pl.flat_len]; omega), Pl.flat_len, ← hu]
    congr 1; omega
  have T4 : ∀ (w1 w' : World) (cur : Array Value), Grown W w1 → w1.grownBy w' none → cur.size = cap * 6 → M ≤ cap → w1.heap[g2]? = some (.cells cur 38 (0, 0)) → cur.toList.take (M * 6) = Pl.flat A ++ Pl.flat B1 →
      StkV base p (.slice (some ⟨g2, 0, none⟩) M cap) (A ++ B1) (w'.setRow g2 (cur.toList.take (d * 6) ++ (Pl.flat B1 ++ cur.toList.drop (d * 6 + (Pl.flat B1).length))).toArray) ∧
      Fr (fun c => c = g2) W (w'.setRow g2 (cur.toList.take (d * 6) ++ (Pl.flat B1 ++ cur.toList.drop (d * 6 + (Pl.flat B1).length))).toArray) := by
    intro w1 w' cur g1 hgr hcs hcM hcur htk
    have hmn : M = d + N := HM.out
    have hgp : g2 ≠ p := fun q => hne (by rw [q]; rfl)
    have hgl := own_lt hown g2 rfl
    have hgl1 : g2 < w1.heap.size := Nat.lt_of_lt_of_le hgl g1.2.2
    have hF : Fr (fun c => c = g2) W (w'.setRow g2 (cur.toList.take (d * 6) ++ (Pl.flat B1 ++ cur.toList.drop (d * 6 + (Pl.flat B1).length))).toArray) :=
      ((Fr.of_grown _ g1).trans (Fr.grown _ hgr (by intro k q; cases q))).trans (Fr.setRow _ _ _ _ rfl)
    refine ⟨⟨(hF.cell (a := ⟨p, 0, none⟩) hp (fun q => hgp q.symm)).trans c0, (hF.frozen (a := ⟨p, 0, none⟩) hp (fun q => hgp q.symm)).trans f0, ?_, hne, Nat.lt_of_lt_of_le hp hF.2.2.1⟩, hF⟩
    rw [hL, Pl.flat_append]
    have hlf : (Pl.flat A ++ Pl.flat B1).length = M * 6 := by simp [Pl.flat_len, hA, h1]; omega
    refine ⟨hlf, .inr ?_⟩
    rcases hown.2 with ⟨hq, _⟩ | ⟨g3, cap3, cur3, hq, hb3, hg3, hc3, hc4, hs3, ht3⟩
    · cases hq
    · injection hq with q1 q2 q3
      cases q1
      subst q3
      have hta : cur.toList.take (d * 6) = Pl.flat A := by
        have : (cur.toList.take (M * 6)).take (d * 6) = Pl.flat A := by
          rw [htk, List.take_append_of_le_length (by rw [Pl.flat_len]; omega), List.take_of_length_le (by rw [Pl.flat_len]; omega)]
        rwa [List.take_take, Nat.min_eq_left (by omega)] at this
      refine ⟨g2, cap, _, rfl, hb3, setRow_heap w' g2 cur _ 38 (0, 0) ((hgr.block g2 hgl1 (by simp)).trans hcur), hcM, hc4, ?_, ?_⟩
      · simp [Pl.flat_len, h1, hcs]; omega
      · rw [hta]
        show List.take (M * 6) (Pl.flat A ++ (Pl.flat B1 ++ _)) = _
        rw [← List.append_assoc, List.take_append_of_le_length (by rw [hlf]; exact Nat.le_refl _), List.take_of_length_le (by rw [hlf]; exact Nat.le_refl _)]
  have HT := Lib.hid (And.intro T1 (And.intro T2 T4))
  clear T1 T2 T4 hown
  have hgl := own_lt hS.2.2.1 g2 rfl
  have HL1 : Hid ((Pl.flat B1).length = N * 6) := Lib.hid (by rw [Pl.flat_len, h1])
  go_enter Try.func27, Try.ntmps27
  go_wp2_with fail
  refine hTOP.out.mono ?_
  rintro e' w1 ⟨rfl, g1⟩
  obtain ⟨cur, hcur, hcs, hcM, htk⟩ := HT.out.1 w1 g1
  have Hcur := Lib.hid (And.intro hcur (And.intro hcs (And.intro hcM htk)))
  clear hcur hcs hcM htk
  have G1 := Lib.hid g1
  go_wp2_with fail
  go_region_law first | (refine step_append_grows rfl (.tmp 37) (.tmp 42) 32 rfl 38 i0 _ 6 56 Try.underlying32 hi hz0 hz1 hz2 rfl (by decide) (some ⟨g2, d*6, none⟩) 0 0 [] (by simp [Act.eval, Act.put]) (by intro q; cases q) rfl (by intro b q; cases q; intro j u hu; cases hu) ⟨g2, d*6, none⟩ N N (Pl.flat B1) (by simp [Act.eval, Act.put]) HL1.out (HT.out.2.1 w1 G1.out) (Pl.flat_one B1) (by omega) (by unfold maxLen; omega) (by omega) ?_; intro v' w' hown' hgr; obtain ⟨g', cap', rfl, hg'⟩ := own_some' hown' (by omega); have Hown := Lib.hid hown'; have Hgr := Lib.hid hgr; clear hown' hgr) | (refine step_copy_wide rfl (.tmp 30) (.tmp 43) 32 32 rfl 38 6 Try.underlying32 (by rw [hi]; exact congrArg some hz1) g2 (d*6) N N ⟨g', 0, none⟩ (0 + N) cap' N (by simp [Act.eval]) (by simp [Act.eval]) cur 38 ((Hgr.out.block g2 (by have := G1.out.2.2; simp; omega) (by simp)).trans Hcur.out.1) (Pl.flat B1) (by rw [Nat.zero_add]; exact (Nat.min_self N).symm) HL1.out (Hown.out.cells rfl) (by rw [HL1.out, Hcur.out.2.1]; have := Hcur.out.2.2.1; have := HM.out; omega) (Pl.flat_one B1) ?_)
  all_goals
    have T4 := Lib.hid (HT.out.2.2 w1.drew w' cur (Grown.drew G1.out) Hgr.out Hcur.out.2.1 Hcur.out.2.2.1 Hcur.out.1 Hcur.out.2.2.2)
    go_wp2_with fail
    go_ret
    exact ⟨rfl, T4.out⟩
end Go.Proofs.Ytenmbkngkabonaa

namespace Go.Proofs.Ytenmbkngkabonaa
set_option linter.unusedVariables false
open Go.RowKit

/-- the top n go round by j -/
def Pl.rot (L : List Pl.Ob) (n : Nat) (j : Int) : List Pl.Ob :=
  L.take (L.length - n) ++ ((L.drop (L.length - n)).drop (n - (j % (n : Int)).toNat) ++ (L.drop (L.length - n)).take (n - (j % (n : Int)).toNat))
theorem Pl.rot_zero (L : List Pl.Ob) (j : Int) : Pl.rot L 0 j = L := by
  simp [Pl.rot]
theorem Pl.rot_len (L : List Pl.Ob) (n : Nat) (j : Int) (hn : n ≤ L.length) : (Pl.rot L n j).length = L.length := by
  simp [Pl.rot]; omega

set_option maxRecDepth 100000 in
theorem roll_none (base p : Nat) (v : Value) (L : List Pl.Ob) (hlen : L.length ≤ 300) (j : Int) (W : World) (hS : StkV base p v L W) :
    Calls Try.prog 27 #[.pointer (some ⟨p, 0, none⟩), .int .i64 0, .int .i64 j] W fun e w' => e = .returned (.int .i64 0) ∧ Grown W w' := by
  have CT := Lib.hid (top_zero base p v L hlen W hS)
  clear hS
  go_enter Try.func27, Try.ntmps27
  go_wp2_with fail
  refine CT.out.mono ?_
  rintro e w1 ⟨⟨ao, rfl⟩, g1⟩
  go_wp2_with fail
  go_ret
  exact ⟨rfl, g1⟩
set_option maxRecDepth 100000 in
theorem roll_low (base p : Nat) (v : Value) (L : List Pl.Ob) (n : Int) (hn : n < 0) (j : Int) (W : World) (hS : StkV base p v L W) :
    Calls Try.prog 27 #[.pointer (some ⟨p, 0, none⟩), .int .i64 n, .int .i64 j] W fun e w' => e = .returned (.int .i64 2) ∧ Grown W w' := by
  have CT := Lib.hid (top_low base p v L n hn W hS)
  clear hS
  go_enter Try.func27, Try.ntmps27
  go_wp2_with fail
  refine CT.out.mono ?_
  rintro e w1 ⟨rfl, g1⟩
  go_wp2_with fail
  go_ret
  exact ⟨rfl, g1⟩
set_option maxRecDepth 100000 in
theorem roll_under (base p : Nat) (v : Value) (L : List Pl.Ob) (n : Int) (hn : (L.length : Int) < n) (j : Int) (W : World) (hS : StkV base p v L W) :
    Calls Try.prog 27 #[.pointer (some ⟨p, 0, none⟩), .int .i64 n, .int .i64 j] W fun e w' => e = .returned (.int .i64 7) ∧ Grown W w' := by
  have CT := Lib.hid (top_under base p v L n hn W hS)
  clear hS
  go_enter Try.func27, Try.ntmps27
  go_wp2_with fail
  refine CT.out.mono ?_
  rintro e w1 ⟨rfl, g1⟩
  go_wp2_with fail
  go_ret
  exact ⟨rfl, g1⟩

theorem roll_ok (base p : Nat) (v : Value) (L : List Pl.Ob) (n : Nat) (j : Int) (hn : n ≤ L.length) (hlen : L.length ≤ 300) (W : World) (hS : StkV base p v L W) :
    Calls Try.prog 27 #[.pointer (some ⟨p, 0, none⟩), .int .i64 (n : Int), .int .i64 j] W fun e w' => e = .returned (.int .i64 0) ∧ StkV base p v (Pl.rot L n j) w' ∧ Fr (fun c => v.ownBlock = some c) W w' := by
  rcases Nat.eq_zero_or_pos n with rfl | hpos
  · refine (roll_none base p v L hlen j W hS).mono ?_
    rintro e w' ⟨rfl, g⟩
    rw [Pl.rot_zero]
    exact ⟨rfl, hS.fr (P := fun _ => False) (Fr.of_grown _ g) (fun f => f) (fun _ _ f => f), Fr.of_grown _ g⟩
  · obtain ⟨o, ho⟩ : ∃ o, L[0]? = some o := ⟨_, List.getElem?_eq_getElem (by omega)⟩
    obtain ⟨g, cap, rfl, hcap, _⟩ := hS.at 0 o ho
    have hA : (L.take (L.length - n)).length = L.length - n := by simp
    have hR : (L.drop (L.length - n)).length = n := by simp; omega
    have hk0 := Int.emod_nonneg j (show (n : Int) ≠ 0 by omega)
    have hk1 := Int.emod_lt_of_pos j (show (0 : Int) < n by omega)
    have hte : (0 ≤ j.tmod n ∧ j.tmod n = j % n) ∨ (j.tmod n < 0 ∧ j.tmod n + n = j % n ∧ 0 < j % n) := by
      rcases Int.lt_or_le j 0 with hj | hj
      · have e1 : j.tmod n = -((-j) % n) := by
          have := Int.neg_tmod (-j) n
          rw [Int.neg_neg] at this
          rw [this, Int.tmod_eq_emod_of_nonneg (by omega)]
        have h0 := Int.emod_nonneg (-j) (show (n : Int) ≠ 0 by omega)
        have h1 := Int.emod_lt_of_pos (-j) (show (0 : Int) < n by omega)
        by_cases hz : (-j) % n = 0
        · left
          refine ⟨by omega, ?_⟩
          rw [e1, hz]
          have : (n : Int) ∣ j := by
            have := Int.dvd_of_emod_eq_zero hz
            exact Int.dvd_neg.1 this
          rw [Int.emod_eq_zero_of_dvd this]; rfl
        · right
          refine ⟨by omega, ?_⟩
          suffices j.tmod n + n = j % n by omega
          obtain ⟨q, hq⟩ : ∃ q : Int, j = -((-j) % n) + n * q := ⟨-((-j) / n), by
            have h3 := Int.emod_add_mul_ediv (-j) n
            have h4 : (n : Int) * (-((-j) / n)) = -(n * ((-j) / n)) := Int.mul_neg _ _
            omega⟩
          rw [e1]
          generalize (-j) % (n : Int) = r at *
          rw [hq, Int.add_mul_emod_self_left, ← Int.add_emod_right, Int.emod_eq_of_lt (by omega) (by omega)]
      · left
        rw [Int.tmod_eq_emod_of_nonneg hj]
        exact ⟨hk0, rfl⟩
    have hLs : L = L.take (L.length - n) ++ L.drop (L.length - n) := (List.take_append_drop _ _).symm
    by_cases hz : j % (n : Int) = 0
    · have hS' : StkV base p (.slice (some ⟨g, 0, none⟩) L.length cap) (L.take (L.length - n) ++ L.drop (L.length - n)) W := by rw [← hLs]; exact hS
      refine (roll_whole base p g cap _ _ (L.length - n) n L.length j hA hR hpos (by omega) hlen (by omega) W hS').mono ?_
      rintro e w' ⟨rfl, h2, h3⟩
      have hr : Pl.rot L n j = L.take (L.length - n) ++ L.drop (L.length - n) := by
        unfold Pl.rot
        rw [hz, Int.toNat_zero, Nat.sub_zero, List.drop_of_length_le (Nat.le_of_eq hR), List.take_of_length_le (Nat.le_of_eq hR), List.nil_append]
      rw [hr]
      exact ⟨rfl, h2, ⟨h3.1, h3.2.1, h3.2.2.1, fun c hc hp => h3.2.2.2 c hc (fun q => hp (by rw [q]; rfl))⟩⟩
    · have hRs : L.drop (L.length - n) = (L.drop (L.length - n)).take (n - (j % (n : Int)).toNat) ++ (L.drop (L.length - n)).drop (n - (j % (n : Int)).toNat) := (List.take_append_drop _ _).symm
      have hS' : StkV base p (.slice (some ⟨g, 0, none⟩) L.length cap) (L.take (L.length - n) ++ ((L.drop (L.length - n)).take (n - (j % (n : Int)).toNat) ++ (L.drop (L.length - n)).drop (n - (j % (n : Int)).toNat))) W := by rw [← hRs, ← hLs]; exact hS
      refine (roll_core base p g cap _ _ _ (L.length - n) (n - (j % (n : Int)).toNat) (j % (n : Int)).toNat n L.length j hA (by rw [List.length_take, hR]; omega) (by rw [List.length_drop, hR]; omega) (by omega) (by omega) (by omega) (by omega) hlen (by omega) (by omega) W hS').mono ?_
      rintro e w' ⟨rfl, h2, h3⟩
      exact ⟨rfl, h2, ⟨h3.1, h3.2.1, h3.2.2.1, fun c hc hp => h3.2.2.2 c hc (fun q => hp (by rw [q]; rfl))⟩⟩
end Go.Proofs.Ytenmbkngkabonaa
