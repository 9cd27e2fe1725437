/- The walk of (*stack.Stack).Roll. · top of none, below none, of too many; Roll of these. · Roll of any number within; Items, Clear, Pop, tympanhelp.Same of rows of objects. · Rows of objects: Items, Clear, Pop, tympanhelp.Same. · The walk of (*stack.Stack).Pop. · The walk of (*stack.Stack).Dup. · tympanhelp.Same of rows of objects. · The walk of (*stack.Stack).ToMark. · The walk of (*stack.Stack).Become. · A stack of this call's own beside rows that stay: what each of its methods answers. · tympanlaw14.known, numbers; tympanhelp.Place. · The walk of the law StackMost. · Plain facts on lists that go round. · Plain facts on products of two numbers and on shares: no program in sight. · Plain facts on fixes: numbers with sixteen binary places. · The walk of the law StackRolls. · The walk of the law StackTop. (Printed by gen_top.py.) · The walk of the law StackTop where the object may not be. (Printed by gen_top.py.) · The walk of the law StackTop, whole. · The walk of the law StackMarks. -/
import Derived.Deep.RegionHeld3
import Derived.Test.YtfmmomdmemcbbaaM2
namespace Go.Proofs.Ytfmmomdmemcbbaa
set_option linter.unusedVariables false
open Go.RowKit

theorem Pl.flat_len (L : List Pl.Ob) : (Pl.flat L).length = L.length * 6 := by
  induction L with
  | nil => rfl
  | cons o r ih => simp only [Pl.flat, List.length_append, ih, List.length_cons]; simp [Pl.oc]; omega
theorem Pl.flat_one : ∀ (L : List Pl.Ob), ∀ u ∈ Pl.flat L, u.oneCell' = true
  | [], u, hu => by simp [Pl.flat] at hu
  | o :: r, u, hu => by
    simp only [Pl.flat, List.mem_append] at hu
    rcases hu with hu | hu
    · simp [Pl.oc] at hu
      rcases hu with rfl | rfl | rfl | rfl | rfl | rfl <;> rfl
    · exact Pl.flat_one r u hu
theorem own_some' {w : World} {base : Nat} {e : TypeId} {size : Nat} {v : Value} {n : Nat} {xs : List Value} (h : w.ownsRow base e size v n xs) (hn : 0 < n) : ∃ g cap, v = .slice (some ⟨g, 0, none⟩) n cap ∧ base ≤ g := by
  rcases h.2 with ⟨_, h0⟩ | ⟨g, cap, cur, rfl, hb, _⟩
  · omega
  · exact ⟨g, cap, rfl, hb⟩

set_option maxHeartbeats 2000000 in
set_option maxRecDepth 100000 in
theorem roll_core (base p g cap : Nat) (A B1 B2 : List Pl.Ob) (d e jj N M : Nat) (j : Int) (hA : A.length = d) (h1 : B1.length = e) (h2 : B2.length = jj) (he : 1 ≤ e) (hjj : 1 ≤ jj) (hN : N = e + jj) (hM : M = d + N) (hlen : M ≤ 300)
    (hj : (0 ≤ j.tmod N ∧ j.tmod N = jj) ∨ (j.tmod N < 0 ∧ j.tmod N + N = jj)) (hb : -300 < j.tmod N ∧ j.tmod N < 300)
    (W : World) (hS : StkV base p (.slice (some ⟨g, 0, none⟩) M cap) (A ++ (B1 ++ B2)) W) :
    Calls Try.prog 53 #[.pointer (some ⟨p, 0, none⟩), .int .i64 (N : Int), .int .i64 j] W fun e' w' => e' = .returned (.int .i64 0) ∧
      StkV base p (.slice (some ⟨g, 0, none⟩) M cap) (A ++ (B2 ++ B1)) w' ∧ Fr (fun c => c = g) W w' := by
  have hL : (A ++ (B1 ++ B2)).length = M := by simp [hA, h1, h2]; omega
  obtain ⟨i0, hi, hz0, hz1, hz2⟩ := info_parts Try.objInfo
  obtain ⟨g2, cap2, hv, TOP⟩ := top_ok base p _ _ N (by omega) (by omega) (by omega) W hS
  obtain rfl : g2 = g := by injection hv with a b c; injection a with a; injection a with a; exact a.symm
  clear hv
  rw [hL, show M - N = d from by omega] at TOP
  obtain ⟨c0, f0, hown, hne, hp⟩ := id hS
  have hTOP := Lib.hid TOP
  clear TOP
  have en0 : ((N : Int) == 0) = false := beq_eq_false_iff_ne.2 (by omega)
  have en1 : (N : Int) - (jj : Int) = e := by omega
  have en2 : (e : Int) ≤ (N : Int) := by omega
  have en3 : (N : Int) ≤ 300 := by omega
  have en4 : (1 : Int) ≤ (N : Int) := by omega
  have en5 : (N : Int) ≠ 0 := by omega
  obtain ⟨hb0, hb1⟩ := hb
  have j0 : 1 ≤ (jj : Int) := by omega
  have j1 : (jj : Int) ≤ 300 := by omega
  have e0 : 1 ≤ (e : Int) := by omega
  have HN := Lib.hid hN
  have HM := Lib.hid hM
  clear hN hM
  have eNe : N - e = jj := by omega
  have eNf : ¬ (N = e) := by omega
  have we : IntKind.i64.wrap (e : Int) = e := IntWalk.i64_in _ (by omega)
  have T1 : ∀ w1, Grown W w1 → ∃ cur : Array Value, w1.heap[g2]? = some (.cells cur 24 (0, 0)) ∧ cur.size = cap * 6 ∧ M ≤ cap ∧ cur.toList.take (M * 6) = Pl.flat A ++ (Pl.flat B1 ++ Pl.flat B2) := by
    intro w1 g1
    have hx := own_fr (P := fun _ => False) hown (Fr.of_grown _ g1) (fun _ _ f => f)
    rcases hx.2 with ⟨hq, _⟩ | ⟨g3, cap3, cur, hq, _, hg3, hc3, _, hs3, ht3⟩
    · cases hq
    · injection hq with q1 q2 q3
      cases q1
      subst q3
      rw [hL] at ht3 hc3
      exact ⟨cur, hg3, hs3, hc3, by rw [ht3, Pl.flat_append, Pl.flat_append]⟩
  have T2 : ∀ w1, Grown W w1 → ∀ j u, (Pl.flat B1)[j]? = some u → w1.cell? ((⟨g2, d * 6, none⟩ : Addr).add j) = some u := by
    intro w1 g1 j u hu
    have hx := own_fr (P := fun _ => False) hown (Fr.of_grown _ g1) (fun _ _ f => f)
    have hj := (List.getElem?_eq_some_iff.1 hu).1
    rw [Pl.flat_len] at hj
    rw [show (⟨g2, d * 6, none⟩ : Addr).add j = ⟨g2, d * 6 + j, none⟩ from by simp [Addr.add]]
    rw [hL] at hx
    have hmn : M = d + N := HM.out
    rw [hx.cellAt _ (by omega), Pl.flat_append, Pl.flat_append, List.getElem?_append_right (by rw [Pl.flat_len]; omega), List.getElem?_append_left (by rw [Pl.flat_len, Pl.flat_len]; omega), Pl.flat_len, ← hu]
    congr 1; omega
  have T3 : ∀ w1, Grown W w1 → ∀ j u, (Pl.flat B2)[j]? = some u → w1.cell? ((⟨g2, d * 6 + e * 6, none⟩ : Addr).add j) = some u := by
    intro w1 g1 j u hu
    have hx := own_fr (P := fun _ => False) hown (Fr.of_grown _ g1) (fun _ _ f => f)
    have hj := (List.getElem?_eq_some_iff.1 hu).1
    rw [Pl.flat_len] at hj
    rw [show (⟨g2, d * 6 + e * 6, none⟩ : Addr).add j = ⟨g2, d * 6 + e * 6 + j, none⟩ from by simp [Addr.add]]
    rw [hL] at hx
    have hmn : M = d + N := HM.out
    rw [hx.cellAt _ (by omega), Pl.flat_append, Pl.flat_append, List.getElem?_append_right (by rw [Pl.flat_len]; omega), List.getElem?_append_right (by rw [Pl.flat_len, Pl.flat_len]; omega), Pl.flat_len, Pl.flat_len, ← hu]
    congr 1; omega
  have T4 : ∀ (w1 w' : World) (cur : Array Value), Grown W w1 → w1.grownBy w' none → cur.size = cap * 6 → M ≤ cap → w1.heap[g2]? = some (.cells cur 24 (0, 0)) → cur.toList.take (M * 6) = Pl.flat A ++ (Pl.flat B1 ++ Pl.flat B2) →
      StkV base p (.slice (some ⟨g2, 0, none⟩) M cap) (A ++ (B2 ++ B1)) (w'.setRow g2 (cur.toList.take (d * 6) ++ ((Pl.flat B2 ++ Pl.flat B1) ++ cur.toList.drop (d * 6 + (Pl.flat B2 ++ Pl.flat B1).length))).toArray) ∧
      Fr (fun c => c = g2) W (w'.setRow g2 (cur.toList.take (d * 6) ++ ((Pl.flat B2 ++ Pl.flat B1) ++ cur.toList.drop (d * 6 + (Pl.flat B2 ++ Pl.flat B1).length))).toArray) := by
    intro w1 w' cur g1 hgr hcs hcM hcur htk
    have hmn : M = d + N := HM.out
    have hnn : N = e + jj := HN.out
    have hgp : g2 ≠ p := fun q => hne (by rw [q]; rfl)
    have hgl := own_lt hown g2 rfl
    have hgl1 : g2 < w1.heap.size := Nat.lt_of_lt_of_le hgl g1.2.2
    have hF : Fr (fun c => c = g2) W (w'.setRow g2 (cur.toList.take (d * 6) ++ ((Pl.flat B2 ++ Pl.flat B1) ++ cur.toList.drop (d * 6 + (Pl.flat B2 ++ Pl.flat B1).length))).toArray) :=
      ((Fr.of_grown _ g1).trans (Fr.grown _ hgr (by intro k q; cases q))).trans (Fr.setRow _ _ _ _ rfl)
    refine ⟨⟨(hF.cell (a := ⟨p, 0, none⟩) hp (fun q => hgp q.symm)).trans c0, (hF.frozen (a := ⟨p, 0, none⟩) hp (fun q => hgp q.symm)).trans f0, ?_, hne, Nat.lt_of_lt_of_le hp hF.2.2.1⟩, hF⟩
    have hl2 : (A ++ (B2 ++ B1)).length = M := by simp [hA, h1, h2]; omega
    have hfl : (Pl.flat (A ++ (B2 ++ B1))) = Pl.flat A ++ (Pl.flat B2 ++ Pl.flat B1) := by rw [Pl.flat_append, Pl.flat_append]
    rw [hl2, hfl]
    have hlf : (Pl.flat A ++ (Pl.flat B2 ++ Pl.flat B1)).length = M * 6 := by simp [Pl.flat_len, hA, h1, h2]; omega
    refine ⟨hlf, .inr ?_⟩
    rcases hown.2 with ⟨hq, _⟩ | ⟨g3, cap3, cur3, hq, hb3, hg3, hc3, hc4, hs3, ht3⟩
    · cases hq
    · injection hq with q1 q2 q3
      cases q1
      subst q3
      have hta : cur.toList.take (d * 6) = Pl.flat A := by
        have : (cur.toList.take (M * 6)).take (d * 6) = Pl.flat A := by
          rw [htk, List.take_append_of_le_length (by rw [Pl.flat_len]; omega), List.take_of_length_le (by rw [Pl.flat_len]; omega)]
        rwa [List.take_take, Nat.min_eq_left (by omega)] at this
      refine ⟨g2, cap, _, rfl, hb3, setRow_heap w' g2 cur _ 24 (0, 0) ((hgr.block g2 hgl1 (by simp)).trans hcur), hcM, hc4, ?_, ?_⟩
      · simp [Pl.flat_len, h1, h2, hcs]; omega
      · rw [hta]
        show List.take (M * 6) (Pl.flat A ++ ((Pl.flat B2 ++ Pl.flat B1) ++ _)) = _
        rw [← List.append_assoc, List.take_append_of_le_length (by rw [hlf]; exact Nat.le_refl _), List.take_of_length_le (by rw [hlf]; exact Nat.le_refl _)]
  have HT := Lib.hid (And.intro T1 (And.intro T2 (And.intro T3 T4)))
  clear T1 T2 T3 T4 hown
  have hgl := own_lt hS.2.2.1 g2 rfl
  have HL1 : Hid ((Pl.flat B1).length = e * 6) := Lib.hid (by rw [Pl.flat_len, h1])
  have HL2 : Hid ((Pl.flat B2).length = jj * 6) := Lib.hid (by rw [Pl.flat_len, h2])
  have HD : Hid (jj + e = N) := Lib.hid (by omega)
  rcases hj with ⟨hj0, hj1⟩ | ⟨hj0, hj1⟩
  · rw [hj1] at hj0 hb0 hb1
    go_enter Try.func53, Try.ntmps53
    go_wp2_with fail
    refine hTOP.out.mono ?_
    rintro e' w1 ⟨rfl, g1⟩
    obtain ⟨cur, hcur, hcs, hcM, htk⟩ := HT.out.1 w1 g1
    have Hcur := Lib.hid (And.intro hcur (And.intro hcs (And.intro hcM htk)))
    clear hcur hcs hcM htk
    have G1 := Lib.hid g1
    go_wp2_with fail
    go_region_law first | (refine step_append_grows rfl (.tmp 37) (.tmp 42) 26 rfl 24 i0 _ 6 56 Try.underlying26 hi hz0 hz1 hz2 rfl (by decide) (some ⟨g2, d*6+e*6, none⟩) jj jj (Pl.flat B2) (by simp [Act.eval, Act.put]) (by intro q; cases q) HL2.out (by intro b q; cases q; exact HT.out.2.2.1 w1 G1.out) ⟨g2, d*6, none⟩ e N (Pl.flat B1) (by simp [Act.eval, Act.put]) HL1.out (HT.out.2.1 w1 G1.out) (Pl.flat_one B1) (by omega) (by unfold maxLen; omega) (by omega) ?_; intro v' w' hown' hgr; obtain ⟨g', cap', rfl, hg'⟩ := own_some' hown' (by omega); have Hown := Lib.hid hown'; have Hgr := Lib.hid hgr; clear hown' hgr) | (refine step_copy_wide rfl (.tmp 30) (.tmp 43) 26 26 rfl 24 6 Try.underlying26 (by rw [hi]; exact congrArg some hz1) g2 (d*6) N N ⟨g', 0, none⟩ (jj + e) cap' N (by simp [Act.eval]) (by simp [Act.eval]) cur 24 ((Hgr.out.block g2 (by have := G1.out.2.2; simp; omega) (by simp)).trans Hcur.out.1) (Pl.flat B2 ++ Pl.flat B1) (by rw [HD.out]; exact (Nat.min_self N).symm) (by rw [List.length_append, HL1.out, HL2.out, ← HD.out]; omega) (Hown.out.cells rfl) (by rw [List.length_append, HL1.out, HL2.out, Hcur.out.2.1]; have := Hcur.out.2.2.1; have := HM.out; have := HD.out; omega) (by intro u hu; rcases List.mem_append.1 hu with hu | hu; exact Pl.flat_one B2 u hu; exact Pl.flat_one B1 u hu) ?_)
    all_goals
      have t4 := HT.out.2.2.2 w1.drew w' cur (Grown.drew G1.out) Hgr.out Hcur.out.2.1 Hcur.out.2.2.1 Hcur.out.1 Hcur.out.2.2.2
      rw [List.append_assoc, List.length_append] at t4
      have T4 := Lib.hid t4
      clear t4
      go_wp2_with fail
      go_ret
      exact ⟨rfl, T4.out⟩
  · go_enter Try.func53, Try.ntmps53
    go_wp2_with fail
    refine hTOP.out.mono ?_
    rintro e' w1 ⟨rfl, g1⟩
    obtain ⟨cur, hcur, hcs, hcM, htk⟩ := HT.out.1 w1 g1
    have Hcur := Lib.hid (And.intro hcur (And.intro hcs (And.intro hcM htk)))
    clear hcur hcs hcM htk
    have G1 := Lib.hid g1
    go_wp2_with fail
    go_region_law first | (refine step_append_grows rfl (.tmp 37) (.tmp 42) 26 rfl 24 i0 _ 6 56 Try.underlying26 hi hz0 hz1 hz2 rfl (by decide) (some ⟨g2, d*6+e*6, none⟩) jj jj (Pl.flat B2) (by simp [Act.eval, Act.put]) (by intro q; cases q) HL2.out (by intro b q; cases q; exact HT.out.2.2.1 w1 G1.out) ⟨g2, d*6, none⟩ e N (Pl.flat B1) (by simp [Act.eval, Act.put]) HL1.out (HT.out.2.1 w1 G1.out) (Pl.flat_one B1) (by omega) (by unfold maxLen; omega) (by omega) ?_; intro v' w' hown' hgr; obtain ⟨g', cap', rfl, hg'⟩ := own_some' hown' (by omega); have Hown := Lib.hid hown'; have Hgr := Lib.hid hgr; clear hown' hgr) | (refine step_copy_wide rfl (.tmp 30) (.tmp 43) 26 26 rfl 24 6 Try.underlying26 (by rw [hi]; exact congrArg some hz1) g2 (d*6) N N ⟨g', 0, none⟩ (jj + e) cap' N (by simp [Act.eval]) (by simp [Act.eval]) cur 24 ((Hgr.out.block g2 (by have := G1.out.2.2; simp; omega) (by simp)).trans Hcur.out.1) (Pl.flat B2 ++ Pl.flat B1) (by rw [HD.out]; exact (Nat.min_self N).symm) (by rw [List.length_append, HL1.out, HL2.out, ← HD.out]; omega) (Hown.out.cells rfl) (by rw [List.length_append, HL1.out, HL2.out, Hcur.out.2.1]; have := Hcur.out.2.2.1; have := HM.out; have := HD.out; omega) (by intro u hu; rcases List.mem_append.1 hu with hu | hu; exact Pl.flat_one B2 u hu; exact Pl.flat_one B1 u hu) ?_)
    all_goals
      have t4 := HT.out.2.2.2 w1.drew w' cur (Grown.drew G1.out) Hgr.out Hcur.out.2.1 Hcur.out.2.2.1 Hcur.out.1 Hcur.out.2.2.2
      rw [List.append_assoc, List.length_append] at t4
      have T4 := Lib.hid t4
      clear t4
      go_wp2_with fail
      go_ret
      exact ⟨rfl, T4.out⟩
end Go.Proofs.Ytfmmomdmemcbbaa

namespace Go.Proofs.Ytfmmomdmemcbbaa
set_option linter.unusedVariables false
open Go.RowKit

theorem top_low (base p : Nat) (v : Value) (L : List Pl.Ob) (n : Int) (hn : n < 0) (W : World) (hS : StkV base p v L W) :
    Calls Try.prog 77 #[.pointer (some ⟨p, 0, none⟩), .int .i64 n] W fun e w' => e = .returned (.tuple #[.slice none 0 0, .int .i64 2]) ∧ Grown W w' := by
  clear hS
  go_enter Try.func77, Try.ntmps77
  go_wp2_with fail
  go_ret2
  exact ⟨rfl, by (repeat (first | exact Grown.refl _ | assumption | apply Grown.drew | apply Grown.alloc))⟩
theorem top_under (base p : Nat) (v : Value) (L : List Pl.Ob) (n : Int) (hn : (L.length : Int) < n) (W : World) (hS : StkV base p v L W) :
    Calls Try.prog 77 #[.pointer (some ⟨p, 0, none⟩), .int .i64 n] W fun e w' => e = .returned (.tuple #[.slice none 0 0, .int .i64 7]) ∧ Grown W w' := by
  obtain ⟨ao, cap, rfl⟩ := hS.slice
  obtain ⟨h0, h1, hown, hne, hp⟩ := id hS
  have h2 : 0 ≤ n := by omega
  clear hS hown hne
  go_enter Try.func77, Try.ntmps77
  go_wp2_with fail
  go_ret2
  exact ⟨rfl, by (repeat (first | exact Grown.refl _ | assumption | apply Grown.drew | apply Grown.alloc))⟩
theorem top_zero (base p : Nat) (v : Value) (L : List Pl.Ob) (hlen : L.length ≤ 300) (W : World) (hS : StkV base p v L W) :
    Calls Try.prog 77 #[.pointer (some ⟨p, 0, none⟩), .int .i64 0] W fun e w' => (∃ ao, e = .returned (.tuple #[.slice ao 0 0, .int .i64 0])) ∧ Grown W w' := by
  obtain ⟨ao, cap, rfl⟩ := hS.slice
  obtain ⟨h0, h1, hown, hne, hp⟩ := id hS
  have hcap : L.length ≤ cap := by
    rcases hown.2 with ⟨hq, h⟩ | ⟨g, cap', cur, hq, _, _, hc, _⟩
    · omega
    · injection hq with a b c; omega
  obtain ⟨M, hM⟩ : ∃ M, M = L.length := ⟨_, rfl⟩
  rw [← hM] at hlen h0 hcap
  clear hM hS hown hne
  have c1 : (0 : Int) ≤ (M : Int) := by omega
  have c2 : (M : Int) ≤ 300 := by omega
  have c3 : (M : Int) ≤ (cap : Int) := by omega
  have c4 : IntKind.i64.wrap (M : Int) = M := IntWalk.i64_in _ (by omega)
  go_enter Try.func77, Try.ntmps77
  go_wp2_with fail
  go_region
  all_goals
    go_wp2_with fail
    go_ret2
    refine ⟨⟨_, rfl⟩, by (repeat (first | exact Grown.refl _ | assumption | apply Grown.drew | apply Grown.alloc))⟩

theorem run_append_owned_zero {P : Program} (w : World) (base : Nat) (t ty e : TypeId) (i : TypeInfo) (size : Nat) (ht : P.underlying t = some (.slice e)) (hi : P.info? e = some i)
    (v : Value) (n : Nat) (xs : List Value) (hown : w.ownsRow base e size v n xs) (ao : Option Addr) (c : Nat) :
    (Builtin.append_ #[t, t] ty #[v, .slice ao 0 c]).run P w = .ok v w := by
  have hl : ∀ b : Addr, (Sem.run P (loadCells b 0) w) = .ok #[] w := fun b => run_loadCells_list (P := P) w b [] (by simp)
  rcases hown.2 with ⟨rfl, rfl⟩ | ⟨g, cap, cur, rfl, _, _, hnc, _⟩
  · cases ao <;> simp [Builtin.append_, run_underlying ht, sizeOf, typeInfo, hi, Builtin.lenOf, Builtin.firstCells, hl]
  · cases ao <;> simp [Builtin.append_, run_underlying ht, sizeOf, typeInfo, hi, Builtin.lenOf, Builtin.firstCells, hnc, storeCells, hl]
/-- nothing is appended -/
theorem step_append_zero {P : Program} {ops : Array Oper} {o : Oper} {a : Act} {w : World} {K : Act → World → Prop} {Q : Exit → Act → World → Prop} {E : Prop}
    (hg : o.guard = none) (s x : Operand) (t : TypeId) (ho : o.op = .call { callee := .builtin .append, args := #[s, x], argTypes := #[t, t] })
    (base : Nat) (e : TypeId) (i : TypeInfo) (size : Nat) (ht : P.underlying t = some (.slice e)) (hi : P.info? e = some i)
    (v : Value) (n : Nat) (xs : List Value) (hs : a.eval s = v) (hown : w.ownsRow base e size v n xs) (ao : Option Addr) (c : Nat) (hx : a.eval x = .slice ao 0 c)
    (hK : K (a.put o.dst v) w) :
    if Region.wanted o (yielded ops a.tmps) = true then Oper.wp P o a w K Q else E := by
  have hw : Region.wanted o (yielded ops a.tmps) = true := by simp [Region.wanted, hg]
  rw [if_pos hw]
  have hrun := run_append_owned_zero (P := P) w base t o.type e i size ht hi v n xs hown ao c
  unfold Oper.wp
  simp [execOp, ho, resolve, invoke, builtin, hs, hx, hrun, Result.andThen]
  exact hK

set_option maxHeartbeats 2000000 in
set_option maxRecDepth 100000 in
theorem roll_whole (base p g cap : Nat) (A B1 : List Pl.Ob) (d N M : Nat) (j : Int) (hA : A.length = d) (h1 : B1.length = N) (he : 1 ≤ N) (hM : M = d + N) (hlen : M ≤ 300)
    (hj : j.tmod N = 0) (W : World) (hS : StkV base p (.slice (some ⟨g, 0, none⟩) M cap) (A ++ B1) W) :
    Calls Try.prog 53 #[.pointer (some ⟨p, 0, none⟩), .int .i64 (N : Int), .int .i64 j] W fun e' w' => e' = .returned (.int .i64 0) ∧
      StkV base p (.slice (some ⟨g, 0, none⟩) M cap) (A ++ B1) w' ∧ Fr (fun c => c = g) W w' := by
  have hL : (A ++ B1).length = M := by simp [hA, h1]; omega
  obtain ⟨i0, hi, hz0, hz1, hz2⟩ := info_parts Try.objInfo
  obtain ⟨g2, cap2, hv, TOP⟩ := top_ok base p _ _ N (by omega) (by omega) (by omega) W hS
  obtain rfl : g2 = g := by injection hv with a b c; injection a with a; injection a with a; exact a.symm
  clear hv
  rw [hL, show M - N = d from by omega] at TOP
  obtain ⟨c0, f0, hown, hne, hp⟩ := id hS
  have hTOP := Lib.hid TOP
  clear TOP
  have en0 : ((N : Int) == 0) = false := beq_eq_false_iff_ne.2 (by omega)
  have en3 : (N : Int) ≤ 300 := by omega
  have en4 : (1 : Int) ≤ (N : Int) := by omega
  have en5 : (N : Int) ≠ 0 := by omega
  have HM := Lib.hid hM
  clear hM
  have we : IntKind.i64.wrap (N : Int) = N := IntWalk.i64_in _ (by omega)
  have T1 : ∀ w1, Grown W w1 → ∃ cur : Array Value, w1.heap[g2]? = some (.cells cur 24 (0, 0)) ∧ cur.size = cap * 6 ∧ M ≤ cap ∧ cur.toList.take (M * 6) = Pl.flat A ++ Pl.flat B1 := by
    intro w1 g1
    have hx := own_fr (P := fun _ => False) hown (Fr.of_grown _ g1) (fun _ _ f => f)
    rcases hx.2 with ⟨hq, _⟩ | ⟨g3, cap3, cur, hq, _, hg3, hc3, _, hs3, ht3⟩
    · cases hq
    · injection hq with q1 q2 q3
      cases q1
      subst q3
      rw [hL] at ht3 hc3
      exact ⟨cur, hg3, hs3, hc3, by rw [ht3, Pl.flat_append]⟩
  have T2 : ∀ w1, Grown W w1 → ∀ j u, (Pl.flat B1)[j]? = some u → w1.cell? ((⟨g2, d * 6, none⟩ : Addr).add j) = some u := by
    intro w1 g1 j u hu
    have hx := own_fr (P := fun _ => False) hown (Fr.of_grown _ g1) (fun _ _ f => f)
    have hj := (List.getElem?_eq_some_iff.1 hu).1
    rw [Pl.flat_len] at hj
    rw [show (⟨g2, d * 6, none⟩ : Addr).add j = ⟨g2, d * 6 + j, none⟩ from by simp [Addr.add]]
    rw [hL] at hx
    have hmn : M = d + N := HM.out
    rw [hx.cellAt _ (by omega), Pl.flat_append, List.getElem?_append_right (by rw [Pl.flat_len]; omega), Pl.flat_len, ← hu]
    congr 1; omega
  have T4 : ∀ (w1 w' : World) (cur : Array Value), Grown W w1 → w1.grownBy w' none → cur.size = cap * 6 → M ≤ cap → w1.heap[g2]? = some (.cells cur 24 (0, 0)) → cur.toList.take (M * 6) = Pl.flat A ++ Pl.flat B1 →
      StkV base p (.slice (some ⟨g2, 0, none⟩) M cap) (A ++ B1) (w'.setRow g2 (cur.toList.take (d * 6) ++ (Pl.flat B1 ++ cur.toList.drop (d * 6 + (Pl.flat B1).length))).toArray) ∧
      Fr (fun c => c = g2) W (w'.setRow g2 (cur.toList.take (d * 6) ++ (Pl.flat B1 ++ cur.toList.drop (d * 6 + (Pl.flat B1).length))).toArray) := by
    intro w1 w' cur g1 hgr hcs hcM hcur htk
    have hmn : M = d + N := HM.out
    have hgp : g2 ≠ p := fun q => hne (by rw [q]; rfl)
    have hgl := own_lt hown g2 rfl
    have hgl1 : g2 < w1.heap.size := Nat.lt_of_lt_of_le hgl g1.2.2
    have hF : Fr (fun c => c = g2) W (w'.setRow g2 (cur.toList.take (d * 6) ++ (Pl.flat B1 ++ cur.toList.drop (d * 6 + (Pl.flat B1).length))).toArray) :=
      ((Fr.of_grown _ g1).trans (Fr.grown _ hgr (by intro k q; cases q))).trans (Fr.setRow _ _ _ _ rfl)
    refine ⟨⟨(hF.cell (a := ⟨p, 0, none⟩) hp (fun q => hgp q.symm)).trans c0, (hF.frozen (a := ⟨p, 0, none⟩) hp (fun q => hgp q.symm)).trans f0, ?_, hne, Nat.lt_of_lt_of_le hp hF.2.2.1⟩, hF⟩
    rw [hL, Pl.flat_append]
    have hlf : (Pl.flat A ++ Pl.flat B1).length = M * 6 := by simp [Pl.flat_len, hA, h1]; omega
    refine ⟨hlf, .inr ?_⟩
    rcases hown.2 with ⟨hq, _⟩ | ⟨g3, cap3, cur3, hq, hb3, hg3, hc3, hc4, hs3, ht3⟩
    · cases hq
    · injection hq with q1 q2 q3
      cases q1
      subst q3
      have hta : cur.toList.take (d * 6) = Pl.flat A := by
        have : (cur.toList.take (M * 6)).take (d * 6) = Pl.flat A := by
          rw [htk, List.take_append_of_le_length (by rw [Pl.flat_len]; omega), List.take_of_length_le (by rw [Pl.flat_len]; omega)]
        rwa [List.take_take, Nat.min_eq_left (by omega)] at this
      refine ⟨g2, cap, _, rfl, hb3, setRow_heap w' g2 cur _ 24 (0, 0) ((hgr.block g2 hgl1 (by simp)).trans hcur), hcM, hc4, ?_, ?_⟩
      · simp [Pl.flat_len, h1, hcs]; omega
      · rw [hta]
        show List.take (M * 6) (Pl.flat A ++ (Pl.flat B1 ++ _)) = _
        rw [← List.append_assoc, List.take_append_of_le_length (by rw [hlf]; exact Nat.le_refl _), List.take_of_length_le (by rw [hlf]; exact Nat.le_refl _)]
  have HT := Lib.hid (And.intro T1 (And.intro T2 T4))
  clear T1 T2 T4 hown
  have hgl := own_lt hS.2.2.1 g2 rfl
  have HL1 : Hid ((Pl.flat B1).length = N * 6) := Lib.hid (by rw [Pl.flat_len, h1])
  go_enter Try.func53, Try.ntmps53
  go_wp2_with fail
  refine hTOP.out.mono ?_
  rintro e' w1 ⟨rfl, g1⟩
  obtain ⟨cur, hcur, hcs, hcM, htk⟩ := HT.out.1 w1 g1
  have Hcur := Lib.hid (And.intro hcur (And.intro hcs (And.intro hcM htk)))
  clear hcur hcs hcM htk
  have G1 := Lib.hid g1
  go_wp2_with fail
  go_region_law first | (refine step_append_grows rfl (.tmp 37) (.tmp 42) 26 rfl 24 i0 _ 6 56 Try.underlying26 hi hz0 hz1 hz2 rfl (by decide) (some ⟨g2, d*6, none⟩) 0 0 [] (by simp [Act.eval, Act.put]) (by intro q; cases q) rfl (by intro b q; cases q; intro j u hu; cases hu) ⟨g2, d*6, none⟩ N N (Pl.flat B1) (by simp [Act.eval, Act.put]) HL1.out (HT.out.2.1 w1 G1.out) (Pl.flat_one B1) (by omega) (by unfold maxLen; omega) (by omega) ?_; intro v' w' hown' hgr; obtain ⟨g', cap', rfl, hg'⟩ := own_some' hown' (by omega); have Hown := Lib.hid hown'; have Hgr := Lib.hid hgr; clear hown' hgr) | (refine step_copy_wide rfl (.tmp 30) (.tmp 43) 26 26 rfl 24 6 Try.underlying26 (by rw [hi]; exact congrArg some hz1) g2 (d*6) N N ⟨g', 0, none⟩ (0 + N) cap' N (by simp [Act.eval]) (by simp [Act.eval]) cur 24 ((Hgr.out.block g2 (by have := G1.out.2.2; simp; omega) (by simp)).trans Hcur.out.1) (Pl.flat B1) (by rw [Nat.zero_add]; exact (Nat.min_self N).symm) HL1.out (Hown.out.cells rfl) (by rw [HL1.out, Hcur.out.2.1]; have := Hcur.out.2.2.1; have := HM.out; omega) (Pl.flat_one B1) ?_)
  all_goals
    have T4 := Lib.hid (HT.out.2.2 w1.drew w' cur (Grown.drew G1.out) Hgr.out Hcur.out.2.1 Hcur.out.2.2.1 Hcur.out.1 Hcur.out.2.2.2)
    go_wp2_with fail
    go_ret
    exact ⟨rfl, T4.out⟩
end Go.Proofs.Ytfmmomdmemcbbaa

namespace Go.Proofs.Ytfmmomdmemcbbaa
set_option linter.unusedVariables false
open Go.RowKit

/-- the top n go round by j -/
def Pl.rot (L : List Pl.Ob) (n : Nat) (j : Int) : List Pl.Ob :=
  L.take (L.length - n) ++ ((L.drop (L.length - n)).drop (n - (j % (n : Int)).toNat) ++ (L.drop (L.length - n)).take (n - (j % (n : Int)).toNat))
theorem Pl.rot_zero (L : List Pl.Ob) (j : Int) : Pl.rot L 0 j = L := by
  simp [Pl.rot]
theorem Pl.rot_len (L : List Pl.Ob) (n : Nat) (j : Int) (hn : n ≤ L.length) : (Pl.rot L n j).length = L.length := by
  simp [Pl.rot]; omega

set_option maxRecDepth 100000 in
theorem roll_none (base p : Nat) (v : Value) (L : List Pl.Ob) (hlen : L.length ≤ 300) (j : Int) (W : World) (hS : StkV base p v L W) :
    Calls Try.prog 53 #[.pointer (some ⟨p, 0, none⟩), .int .i64 0, .int .i64 j] W fun e w' => e = .returned (.int .i64 0) ∧ Grown W w' := by
  have CT := Lib.hid (top_zero base p v L hlen W hS)
  clear hS
  go_enter Try.func53, Try.ntmps53
  go_wp2_with fail
  refine CT.out.mono ?_
  rintro e w1 ⟨⟨ao, rfl⟩, g1⟩
  go_wp2_with fail
  go_ret
  exact ⟨rfl, g1⟩
set_option maxRecDepth 100000 in
theorem roll_low (base p : Nat) (v : Value) (L : List Pl.Ob) (n : Int) (hn : n < 0) (j : Int) (W : World) (hS : StkV base p v L W) :
    Calls Try.prog 53 #[.pointer (some ⟨p, 0, none⟩), .int .i64 n, .int .i64 j] W fun e w' => e = .returned (.int .i64 2) ∧ Grown W w' := by
  have CT := Lib.hid (top_low base p v L n hn W hS)
  clear hS
  go_enter Try.func53, Try.ntmps53
  go_wp2_with fail
  refine CT.out.mono ?_
  rintro e w1 ⟨rfl, g1⟩
  go_wp2_with fail
  go_ret
  exact ⟨rfl, g1⟩
set_option maxRecDepth 100000 in
theorem roll_under (base p : Nat) (v : Value) (L : List Pl.Ob) (n : Int) (hn : (L.length : Int) < n) (j : Int) (W : World) (hS : StkV base p v L W) :
    Calls Try.prog 53 #[.pointer (some ⟨p, 0, none⟩), .int .i64 n, .int .i64 j] W fun e w' => e = .returned (.int .i64 7) ∧ Grown W w' := by
  have CT := Lib.hid (top_under base p v L n hn W hS)
  clear hS
  go_enter Try.func53, Try.ntmps53
  go_wp2_with fail
  refine CT.out.mono ?_
  rintro e w1 ⟨rfl, g1⟩
  go_wp2_with fail
  go_ret
  exact ⟨rfl, g1⟩

theorem roll_ok (base p : Nat) (v : Value) (L : List Pl.Ob) (n : Nat) (j : Int) (hn : n ≤ L.length) (hlen : L.length ≤ 300) (W : World) (hS : StkV base p v L W) :
    Calls Try.prog 53 #[.pointer (some ⟨p, 0, none⟩), .int .i64 (n : Int), .int .i64 j] W fun e w' => e = .returned (.int .i64 0) ∧ StkV base p v (Pl.rot L n j) w' ∧ Fr (fun c => v.ownBlock = some c) W w' := by
  rcases Nat.eq_zero_or_pos n with rfl | hpos
  · refine (roll_none base p v L hlen j W hS).mono ?_
    rintro e w' ⟨rfl, g⟩
    rw [Pl.rot_zero]
    exact ⟨rfl, hS.fr (P := fun _ => False) (Fr.of_grown _ g) (fun f => f) (fun _ _ f => f), Fr.of_grown _ g⟩
  · obtain ⟨o, ho⟩ : ∃ o, L[0]? = some o := ⟨_, List.getElem?_eq_getElem (by omega)⟩
    obtain ⟨g, cap, rfl, hcap, _⟩ := hS.at 0 o ho
    have hA : (L.take (L.length - n)).length = L.length - n := by simp
    have hR : (L.drop (L.length - n)).length = n := by simp; omega
    have hk0 := Int.emod_nonneg j (show (n : Int) ≠ 0 by omega)
    have hk1 := Int.emod_lt_of_pos j (show (0 : Int) < n by omega)
    have hte : (0 ≤ j.tmod n ∧ j.tmod n = j % n) ∨ (j.tmod n < 0 ∧ j.tmod n + n = j % n ∧ 0 < j % n) := by
      rcases Int.lt_or_le j 0 with hj | hj
      · have e1 : j.tmod n = -((-j) % n) := by
          have := Int.neg_tmod (-j) n
          rw [Int.neg_neg] at this
          rw [this, Int.tmod_eq_emod_of_nonneg (by omega)]
        have h0 := Int.emod_nonneg (-j) (show (n : Int) ≠ 0 by omega)
        have h1 := Int.emod_lt_of_pos (-j) (show (0 : Int) < n by omega)
        by_cases hz : (-j) % n = 0
        · left
          refine ⟨by omega, ?_⟩
          rw [e1, hz]
          have : (n : Int) ∣ j := by
            have := Int.dvd_of_emod_eq_zero hz
            exact Int.dvd_neg.1 this
          rw [Int.emod_eq_zero_of_dvd this]; rfl
        · right
          refine ⟨by omega, ?_⟩
          suffices j.tmod n + n = j % n by omega
          obtain ⟨q, hq⟩ : ∃ q : Int, j = -((-j) % n) + n * q := ⟨-((-j) / n), by
            have h3 := Int.emod_add_mul_ediv (-j) n
            have h4 : (n : Int) * (-((-j) / n)) = -(n * ((-j) / n)) := Int.mul_neg _ _
            omega⟩
          rw [e1]
          generalize (-j) % (n : Int) = r at *
          rw [hq, Int.add_mul_emod_self_left, ← Int.add_emod_right, Int.emod_eq_of_lt (by omega) (by omega)]
      · left
        rw [Int.tmod_eq_emod_of_nonneg hj]
        exact ⟨hk0, rfl⟩
    have hLs : L = L.take (L.length - n) ++ L.drop (L.length - n) := (List.take_append_drop _ _).symm
    by_cases hz : j % (n : Int) = 0
    · have hS' : StkV base p (.slice (some ⟨g, 0, none⟩) L.length cap) (L.take (L.length - n) ++ L.drop (L.length - n)) W := by rw [← hLs]; exact hS
      refine (roll_whole base p g cap _ _ (L.length - n) n L.length j hA hR hpos (by omega) hlen (by omega) W hS').mono ?_
      rintro e w' ⟨rfl, h2, h3⟩
      have hr : Pl.rot L n j = L.take (L.length - n) ++ L.drop (L.length - n) := by
        unfold Pl.rot
        rw [hz, Int.toNat_zero, Nat.sub_zero, List.drop_of_length_le (Nat.le_of_eq hR), List.take_of_length_le (Nat.le_of_eq hR), List.nil_append]
      rw [hr]
      exact ⟨rfl, h2, ⟨h3.1, h3.2.1, h3.2.2.1, fun c hc hp => h3.2.2.2 c hc (fun q => hp (by rw [q]; rfl))⟩⟩
    · have hRs : L.drop (L.length - n) = (L.drop (L.length - n)).take (n - (j % (n : Int)).toNat) ++ (L.drop (L.length - n)).drop (n - (j % (n : Int)).toNat) := (List.take_append_drop _ _).symm
      have hS' : StkV base p (.slice (some ⟨g, 0, none⟩) L.length cap) (L.take (L.length - n) ++ ((L.drop (L.length - n)).take (n - (j % (n : Int)).toNat) ++ (L.drop (L.length - n)).drop (n - (j % (n : Int)).toNat))) W := by rw [← hRs, ← hLs]; exact hS
      refine (roll_core base p g cap _ _ _ (L.length - n) (n - (j % (n : Int)).toNat) (j % (n : Int)).toNat n L.length j hA (by rw [List.length_take, hR]; omega) (by rw [List.length_drop, hR]; omega) (by omega) (by omega) (by omega) (by omega) hlen (by omega) (by omega) W hS').mono ?_
      rintro e w' ⟨rfl, h2, h3⟩
      exact ⟨rfl, h2, ⟨h3.1, h3.2.1, h3.2.2.1, fun c hc hp => h3.2.2.2 c hc (fun q => hp (by rw [q]; rfl))⟩⟩
end Go.Proofs.Ytfmmomdmemcbbaa

namespace Go.Proofs.Ytfmmomdmemcbbaa
set_option linter.unusedVariables false
open Go.RowKit

theorem row_at {base : Nat} {v : Value} {L : List Pl.Ob} {W : World} (c : W.ownsRow base 24 6 v L.length (Pl.flat L)) (j : Nat) (o : Pl.Ob) (hj : L[j]? = some o) : ∃ g cap, v = .slice (some ⟨g, 0, none⟩) L.length cap ∧ L.length ≤ cap ∧
    W.cell? ⟨g, j * 6, none⟩ = some (.int .i64 o.1) ∧ W.cell? ⟨g, j * 6 + 1, none⟩ = some (.bool o.2.1) ∧ W.cell? ⟨g, j * 6 + 2, none⟩ = some (.int .i64 o.2.2.1) ∧ W.cell? ⟨g, j * 6 + 3, none⟩ = some (.int .i64 o.2.2.2.1) ∧
    W.cell? ⟨g, j * 6 + 4, none⟩ = some (.int .i64 o.2.2.2.2.1) ∧ W.cell? ⟨g, j * 6 + 5, none⟩ = some (.string o.2.2.2.2.2) := by
  have hl : j < L.length := (List.getElem?_eq_some_iff.1 hj).1
  rcases c.2 with ⟨rfl, h0⟩ | ⟨g, cap, cur, rfl, hb, hg, hc, r⟩
  · omega
  · refine ⟨g, cap, rfl, hc, ?_, ?_, ?_, ?_, ?_, ?_⟩ <;> rw [c.cellAt _ (by omega)]
    · exact (Pl.flat_get L j o hj 0 (by omega)).trans rfl
    · exact (Pl.flat_get L j o hj 1 (by omega)).trans rfl
    · exact (Pl.flat_get L j o hj 2 (by omega)).trans rfl
    · exact (Pl.flat_get L j o hj 3 (by omega)).trans rfl
    · exact (Pl.flat_get L j o hj 4 (by omega)).trans rfl
    · exact (Pl.flat_get L j o hj 5 (by omega)).trans rfl

theorem own_weaken {w : World} {b1 b2 : Nat} {e : TypeId} {size : Nat} {v : Value} {n : Nat} {xs : List Value} (h : w.ownsRow b1 e size v n xs) (hb : b2 ≤ b1) : w.ownsRow b2 e size v n xs := by
  refine ⟨h.1, ?_⟩
  rcases h.2 with h0 | ⟨g, cap, cur, hv, hb1, r⟩
  · exact .inl h0
  · exact .inr ⟨g, cap, cur, hv, Nat.le_trans hb hb1, r⟩
theorem own_base {w : World} {base : Nat} {e : TypeId} {size : Nat} {v : Value} {n : Nat} {xs : List Value} (h : w.ownsRow base e size v n xs) : ∀ g, v.ownBlock = some g → base ≤ g := by
  intro k hk
  rcases h.2 with ⟨rfl, _⟩ | ⟨g, cap, cur, rfl, hb, _⟩
  · cases hk
  · simp [Value.ownBlock] at hk
    subst hk
    exact hb

section
variable {P : Program} (w : World) (base : Nat) (t : TypeId) (e : TypeId) (i : TypeInfo) (z : Value) (size bytes : Nat) (ht : P.underlying t = some (.slice e)) (hi : P.info? e = some i) (hz : i.zero = some z)
    (hsize : i.size = size) (hby : i.bytes = bytes) (hzs : z.cells.size = size) (hsz : 0 < size)
    (v : Value) (n : Nat) (xs : List Value) (hown : w.ownsRow base e size v n xs)
    (ao : Option Addr) (m c : Nat) (news : List Value) (hnone : ao = none → m = 0) (hl : news.length = m * size) (hnews : ∀ ad, ao = some ad → ∀ j u, news[j]? = some u → w.cell? (ad.add j) = some u) (h1 : ∀ u ∈ news, u.oneCell' = true)
    (h63 : n + m ≤ maxLen) (hbytes : (n + m) * bytes ≤ 140737488355328) (hbase : base ≤ w.heap.size)
include ht hi hz hsize hby hzs hsz hown hnone hl hnews h1 h63 hbytes hbase
/-- append of any row, empty ones too -/
theorem run_append_all (ty : TypeId) : ∃ v' w', (Builtin.append_ #[t, t] ty #[v, .slice ao m c]).run P w = .ok v' w' ∧ w'.ownsRow base e size v' (n + m) (xs ++ news) ∧ w.grownBy w' v.ownBlock ∧ ∀ g, v'.ownBlock = some g → v.ownBlock = some g ∨ w.heap.size ≤ g := by
  cases ao with
  | none =>
    obtain rfl := hnone rfl
    obtain rfl : news = [] := List.eq_nil_of_length_eq_zero (by simpa using hl)
    exact ⟨v, w, run_append_owned_zero (P := P) w base t ty e i size ht hi v n xs hown none c, by simpa using hown, World.grownBy.refl _ _, fun g h => .inl h⟩
  | some ad =>
    rcases hown.2 with ⟨rfl, rfl⟩ | ⟨g, cap, cur, rfl, hb, hg, hnc, _⟩
    · obtain rfl : xs = [] := List.eq_nil_of_length_eq_zero (by simpa using hown.1)
      obtain ⟨v', w', r1, r2, r3, _⟩ := run_append_own (P := P) w w.heap.size t ty e i z size bytes ht hi hz hsize hby hzs hsz (.slice none 0 0) 0 [] (World.ownsRow_nil w _ e size) ad m c news hl (hnews ad rfl) h1 h63 hbytes (Nat.le_refl _)
      exact ⟨v', w', r1, own_weaken r2 hbase, r3, fun g h => .inr (own_base r2 g h)⟩
    · by_cases hroom : n + m ≤ cap
      · obtain ⟨w', r1, r2, r3⟩ := run_append_own_spare (P := P) w base t ty e i size ht hi hsize g n cap xs hown ad m c news hl (hnews ad rfl) h1 hroom
        exact ⟨_, w', r1, r2, r3, fun g2 h => .inl h⟩
      · obtain ⟨v', w', r1, r2, r3⟩ := run_append_arg_grows (P := P) w t ty e i z size bytes ht hi hz hsize hby hzs hsz ⟨g, 0, none⟩ n cap xs hown.1 (hown.cells rfl) ad m c news hl (hnews ad rfl) (by omega) h63 hbytes
        exact ⟨v', w', r1, own_weaken r2 hbase, ⟨r3.1, r3.2, r3.3, r3.4, fun k hk _ => r3.5 k hk (by simp)⟩, fun g2 h => .inr (own_base r2 g2 h)⟩
theorem wp_append_all {o : Oper} {a : Act} {K : Act → World → Prop} {Q : Exit → Act → World → Prop} (s x : Operand) (ho : o.op = .call { callee := .builtin .append, args := #[s, x], argTypes := #[t, t] })
    (hs : a.eval s = v) (hx : a.eval x = .slice ao m c)
    (h : ∀ v' w', w'.ownsRow base e size v' (n + m) (xs ++ news) → w.grownBy w' v.ownBlock → (∀ g, v'.ownBlock = some g → v.ownBlock = some g ∨ w.heap.size ≤ g) → K (a.put o.dst v') w') : o.wp P a w K Q := by
  obtain ⟨v', w', hr, h2, h3, h4⟩ := run_append_all (P := P) w base t e i z size bytes ht hi hz hsize hby hzs hsz v n xs hown ao m c news hnone hl hnews h1 h63 hbytes hbase o.type
  unfold Oper.wp execOp
  simp only [ho, resolve, invoke, builtin, Sem.run_bind, Sem.run_pure, Result.andThen_ok, List.map_toArray, List.map_cons, List.map_nil, hs, hx, hr]
  exact h v' w' h2 h3 h4
theorem wpList_append_all {ops : Array Oper} {rest : List Oper} {o : Oper} {a : Act} {Q : Exit → Act → World → Prop} (hgd : o.guard = none) (s x : Operand) (ho : o.op = .call { callee := .builtin .append, args := #[s, x], argTypes := #[t, t] })
    (hs : a.eval s = v) (hx : a.eval x = .slice ao m c)
    (h : ∀ v' w', w'.ownsRow base e size v' (n + m) (xs ++ news) → w.grownBy w' v.ownBlock → (∀ g, v'.ownBlock = some g → v.ownBlock = some g ∨ w.heap.size ≤ g) → wpList P ops Q rest (a.put o.dst v') w') : wpList P ops Q (o :: rest) a w :=
  wpList_plain hgd fun _ hK => wp_append_all w base t e i z size bytes ht hi hz hsize hby hzs hsz v n xs hown ao m c news hnone hl hnews h1 h63 hbytes hbase s x ho hs hx fun v' w' h2 h3 h4 => hK _ _ (h v' w' h2 h3 h4)
theorem step_append_all {ops : Array Oper} {o : Oper} {a : Act} {K : Act → World → Prop} {Q : Exit → Act → World → Prop} {E : Prop} (hgd : o.guard = none) (s x : Operand) (ho : o.op = .call { callee := .builtin .append, args := #[s, x], argTypes := #[t, t] })
    (hs : a.eval s = v) (hx : a.eval x = .slice ao m c)
    (h : ∀ v' w', w'.ownsRow base e size v' (n + m) (xs ++ news) → w.grownBy w' v.ownBlock → (∀ g, v'.ownBlock = some g → v.ownBlock = some g ∨ w.heap.size ≤ g) → K (a.put o.dst v') w') :
    if Region.wanted o (yielded ops a.tmps) = true then Oper.wp P o a w K Q else E := by
  have hw : Region.wanted o (yielded ops a.tmps) = true := by simp [Region.wanted, hgd]
  rw [if_pos hw]
  exact wp_append_all w base t e i z size bytes ht hi hz hsize hby hzs hsz v n xs hown ao m c news hnone hl hnews h1 h63 hbytes hbase s x ho hs hx h
end

/-- the cells of an owned row, as a source -/
theorem own_src {w : World} {base : Nat} {e : TypeId} {size : Nat} {ao : Option Addr} {n m cap : Nat} {xs : List Value} (h : w.ownsRow base e size (.slice ao m cap) n xs) : (ao = none → n = 0) ∧ ∀ ad, ao = some ad → ∀ j u, xs[j]? = some u → w.cell? (ad.add j) = some u := by
  rcases h.2 with ⟨hv, h0⟩ | ⟨g, cap, cur, hv, hb, hg, hc, r⟩
  · injection hv with hv1 _ _
    subst hv1
    exact ⟨fun _ => h0, fun ad q => by cases q⟩
  · injection hv with hv1 _ _
    subst hv1
    exact ⟨fun q => (by cases q), fun ad q => (by cases q; exact h.cells rfl)⟩

set_option maxHeartbeats 1000000 in
theorem items_any (base p : Nat) (v : Value) (L : List Pl.Ob) (hlen : L.length ≤ 300) (W : World) (hS : StkV base p v L W) :
    Calls Try.prog 21 #[.pointer (some ⟨p, 0, none⟩)] W fun e w' => ∃ vi, e = .returned vi ∧ w'.ownsRow W.heap.size 24 6 vi L.length (Pl.flat L) ∧ Fr (fun _ => False) W w' := by
  obtain ⟨i0, hi, hz0, hz1, hz2⟩ := info_parts Try.objInfo
  obtain ⟨ao, cap, rfl⟩ := hS.slice
  obtain ⟨h0, h1, hown, hne, hp⟩ := id hS
  obtain ⟨M, hM⟩ : ∃ M, M = L.length := ⟨_, rfl⟩
  rw [← hM] at hlen h0 hown
  rw [← hM]
  have HFL : Hid ((Pl.flat L).length = M * 6) := Lib.hid (by rw [Pl.flat_len, hM])
  have HO := Lib.hid (own_src hown)
  have HF := Lib.hid (Pl.flat_one L)
  clear hM hS hown hne
  go_enter Try.func21, Try.ntmps21
  go_wp2_with (at_builtin; refine wpList_append_all _ W.heap.size 26 24 i0 _ 6 56 Try.underlying26 hi hz0 hz1 hz2 rfl (by decide) (.slice none 0 0) 0 [] (World.ownsRow_nil _ _ _ _) ao M cap (Pl.flat L) HO.out.1 HFL.out HO.out.2 HF.out (by unfold maxLen; omega) (by omega) ?hbase (hgd := rfl) (.const (.slice none 0 0)) (.tmp 8) rfl (by simp [Act.eval]) (by simp [Act.eval]) ?hnext)
  case hbase => exact Nat.le_refl _
  case hnext =>
    intro v' w' hown' hgr hbl
    have Hown := Lib.hid hown'
    have Hgr := Lib.hid hgr
    clear hown' hgr
    go_wp2_with fail
    go_ret
    exact ⟨_, rfl, Hown.out, Fr.grown _ Hgr.out (by intro k q; cases q)⟩

theorem clear_any (base p : Nat) (v : Value) (L : List Pl.Ob) (W : World) (hS : StkV base p v L W) :
    Calls Try.prog 54 #[.pointer (some ⟨p, 0, none⟩)] W fun e w' => e = .returned (.tuple #[]) ∧ StkV base p (.slice none 0 0) [] w' ∧ Fr (fun c => c = p) W w' := by
  obtain ⟨h0, h1, hown, hne, hp⟩ := id hS
  clear hS
  go_enter Try.func54, Try.ntmps54
  go_wp2_with fail
  all_goals
    go_end0
    exact ⟨rfl, ⟨World.cell?_setCell_same' _ _ _ (by rw [h0]; rfl), by simpa using h1, World.ownsRow_nil _ _ _ _, by simp [Value.ownBlock], by simpa using hp⟩, Fr.setCell _ _ _ _ rfl⟩
end Go.Proofs.Ytfmmomdmemcbbaa

namespace Go.Proofs.Ytfmmomdmemcbbaa
set_option linter.unusedVariables false
open Go.RowKit

theorem some_setCell {w : World} {p q : Addr} {x : Value} (h : (w.cell? q).isSome = true) : ((w.setCell p x).cell? q).isSome = true := by
  obtain ⟨u, hu⟩ := Option.isSome_iff_exists.1 h
  obtain ⟨u', hu'⟩ := cell?_setCell_some (p := p) (x := x) hu
  rw [hu']
  rfl
/-- an object stored over the six cells of its block -/
theorem obs_set (Z : World) (b : Nat) (h : ∀ o, o < 6 → (Z.cell? ⟨b, o, none⟩).isSome = true) (k : Int) (x : Bool) (n a l : Int) (s : ByteArray) (Y : World) (hY : Y = ((((((Z.setCell ⟨b, 0, none⟩ (.int .i64 k)).setCell ⟨b, 1, none⟩ (.bool x)).setCell ⟨b, 2, none⟩ (.int .i64 n)).setCell ⟨b, 3, none⟩ (.int .i64 a)).setCell ⟨b, 4, none⟩ (.int .i64 l)).setCell ⟨b, 5, none⟩ (.string s))) :
    Y.cell? ⟨b, 0, none⟩ = some (.int .i64 k) ∧ Y.cell? ⟨b, 1, none⟩ = some (.bool x) ∧ Y.cell? ⟨b, 2, none⟩ = some (.int .i64 n) ∧ Y.cell? ⟨b, 3, none⟩ = some (.int .i64 a) ∧ Y.cell? ⟨b, 4, none⟩ = some (.int .i64 l) ∧ Y.cell? ⟨b, 5, none⟩ = some (.string s) := by
  subst hY
  have h0 := h 0 (by omega)
  have h1 := h 1 (by omega)
  have h2 := h 2 (by omega)
  have h3 := h 3 (by omega)
  have h4 := h 4 (by omega)
  have h5 := h 5 (by omega)
  refine ⟨?_, ?_, ?_, ?_, ?_, ?_⟩ <;> simp [World.cell?_setCell_other, World.cell?_setCell_same', h0, h1, h2, h3, h4, h5]
theorem own_shrink {w : World} {base : Nat} {e : TypeId} {size g N cap : Nat} {xs : List Value} (h : w.ownsRow base e size (.slice (some ⟨g, 0, none⟩) N cap) N xs) (m : Nat) (hm : m ≤ N) (ys : List Value) (hy : ys = xs.take (m * size)) : w.ownsRow base e size (.slice (some ⟨g, 0, none⟩) m cap) m ys := by
  have hl := h.1
  have hms : m * size ≤ N * size := Nat.mul_le_mul_right _ hm
  rcases h.2 with ⟨hq, _⟩ | ⟨g2, cap2, cur, hq, hb, hg, hc, hc2, hs, ht⟩
  · cases hq
  · injection hq with q1 q2 q3
    cases q1
    subst q3
    refine ⟨by rw [hy, List.length_take]; omega, .inr ⟨g, cap, cur, rfl, hb, hg, by omega, hc2, hs, ?_⟩⟩
    rw [hy, ← ht, List.take_take, Nat.min_eq_left hms]

set_option maxHeartbeats 1000000 in
theorem pop_ok (base p : Nat) (v : Value) (L : List Pl.Ob) (k : Int) (x : Bool) (n a l : Int) (s : ByteArray) (hlen : L.length ≤ 299) (W : World) (hS : StkV base p v (L ++ [(k, x, n, a, l, s)]) W) :
    Calls Try.prog 71 #[.pointer (some ⟨p, 0, none⟩)] W fun e w' => e = .returned (.tuple #[obv k x n a l s, .int .i64 0]) ∧ (∃ v', StkV base p v' L w' ∧ v'.ownBlock = v.ownBlock) ∧ Fr (fun c => c = p) W w' := by
  have hl : (L ++ [(k, x, n, a, l, s)]).length = L.length + 1 := by simp
  have CP := Lib.hid (peek_ok base p v (L ++ [(k, x, n, a, l, s)]) 0 L.length k x n a l s (by omega) (by simp) (by omega) _ (hS.fr (Fr.alloc (fun _ => False) W (.cells #[.int .i64 0, .bool false, .int .i64 0, .int .i64 0, .int .i64 0, .string ⟨#[]⟩] 24)) (fun h => h) (fun _ _ h => h)))
  obtain ⟨g, cap, rfl, hcap, -, -, -, -, -, -⟩ := hS.at L.length (k, x, n, a, l, s) (by simp)
  obtain ⟨h0, h1, hown, hne, hp⟩ := id hS
  rw [hl] at h0 hcap hown
  go_enter Try.func71, Try.ntmps71
  go_wp2_with fail
  refine (CP.out).mono ?_
  rintro e w1 ⟨rfl, g1⟩
  clear hS
  have hp1 : w1.cell? ⟨p, 0, none⟩ = some (.slice (some ⟨g, 0, none⟩) (L.length + 1) cap) := grown_cell g1 ((World.cell?_alloc_past _ _ _ hp).trans h0)
  have hf1 : w1.frozen? ⟨p, 0, none⟩ = false := by rw [g1.2.1, frozen?_alloc_cells]; exact h1
  have hO : ObS W W.heap.size 0 false 0 0 0 ⟨#[]⟩ w1 := ObS.grow (by exact ⟨by simp [go_sem], by simp [go_sem], by simp [go_sem], by simp [go_sem], by simp [go_sem], by simp [go_sem], by (repeat (first | exact Grown.refl _ | assumption | apply Grown.drew | apply Grown.alloc))⟩) g1
  have hf2 : ∀ o, w1.frozen? ⟨W.heap.size, o, none⟩ = false := by intro o; rw [g1.2.1, frozen?_alloc_cells]; simp [World.frozen?]
  have hsz := g1.2.2
  obtain ⟨o0, o1, o2, o3, o4, o5, og⟩ := id hO
  have hpn : ¬ p = W.heap.size := by omega
  have hpn' : ¬ W.heap.size = p := by omega
  have hex : ∀ o, o < 6 → ((((((((w1.setCell ⟨W.heap.size, 0, none⟩ (.int .i64 k)).setCell ⟨W.heap.size, 1, none⟩ (.bool x)).setCell ⟨W.heap.size, 2, none⟩ (.int .i64 n)).setCell ⟨W.heap.size, 3, none⟩ (.int .i64 a)).setCell ⟨W.heap.size, 4, none⟩ (.int .i64 l)).setCell ⟨W.heap.size, 5, none⟩ (.string s)).setCell ⟨p, 0, none⟩ (.slice (some ⟨g, 0, none⟩) L.length cap)).cell? ⟨W.heap.size, o, none⟩).isSome = true := by
    intro o ho
    have : (w1.cell? ⟨W.heap.size, o, none⟩).isSome = true := by
      rcases (show o = 0 ∨ o = 1 ∨ o = 2 ∨ o = 3 ∨ o = 4 ∨ o = 5 by omega) with rfl | rfl | rfl | rfl | rfl | rfl
      · rw [o0]; rfl
      · rw [o1]; rfl
      · rw [o2]; rfl
      · rw [o3]; rfl
      · rw [o4]; rfl
      · rw [o5]; rfl
    exact some_setCell (some_setCell (some_setCell (some_setCell (some_setCell (some_setCell (some_setCell this))))))
  have HEX := Lib.hid hex
  clear hex
  have e1 : ((L.length + 1 : Nat) : Int) - 1 = L.length := by omega
  have e2 : (L.length : Int) ≤ 299 := by omega
  have e3 : (0 : Int) ≤ L.length := by omega
  have e4 : (L.length : Int) ≤ (cap : Int) := by omega
  go_wp2_with fail
  go_region
  all_goals
    go_wp2_with fail
    obtain ⟨y0, y1, y2, y3, y4, y5⟩ := obs_set (((((((w1.setCell ⟨W.heap.size, 0, none⟩ (.int .i64 k)).setCell ⟨W.heap.size, 1, none⟩ (.bool x)).setCell ⟨W.heap.size, 2, none⟩ (.int .i64 n)).setCell ⟨W.heap.size, 3, none⟩ (.int .i64 a)).setCell ⟨W.heap.size, 4, none⟩ (.int .i64 l)).setCell ⟨W.heap.size, 5, none⟩ (.string s)).setCell ⟨p, 0, none⟩ (.slice (some ⟨g, 0, none⟩) L.length cap)) W.heap.size HEX.out k x n a l s _ rfl
    refine bodyPost_ret (v := .tuple #[obv k x n a l s, .int .i64 0]) (by simp [results, Try.results71, go_sem, y0, y1, y2, y3, y4, y5]) rfl ?_
    have hgp : ¬ g = p := fun e => hne (by rw [e]; rfl)
    have hF : Fr (fun c => c = p) W w1 := (Fr.alloc _ W _).trans (Fr.of_grown _ g1)
    have hF2 : ∀ (Z : World) (o : Nat) (u : Value), Fr (fun c => c = p) W Z → Fr (fun c => c = p) W (Z.setCell ⟨W.heap.size, o, none⟩ u) := fun Z o u h => h.trans' (Fr.setCell (fun c => c = W.heap.size) Z ⟨W.heap.size, o, none⟩ u rfl) (fun i q => .inr (by omega))
    have key : ∀ Z : World, Fr (fun c => c = p) W Z → Z.cell? ⟨p, 0, none⟩ = some (.slice (some ⟨g, 0, none⟩) L.length cap) → Z.frozen? ⟨p, 0, none⟩ = false → (∃ v', StkV base p v' L Z ∧ v'.ownBlock = (Value.slice (some ⟨g, 0, none⟩) (L.length + 1) cap).ownBlock) ∧ Fr (fun c => c = p) W Z :=
      fun Z hFF hc hf => ⟨⟨.slice (some ⟨g, 0, none⟩) L.length cap, ⟨hc, hf, own_fr (own_shrink hown L.length (by omega) _ (by simp [Pl.flat_append, Pl.flat_len])) hFF (fun g2 q h => hgp ((Option.some.inj q).trans h)), hne, Nat.lt_of_lt_of_le hp hFF.2.2.1⟩, rfl⟩, hFF⟩
    refine ⟨rfl, key _ ?_ ?_ ?_⟩
    · exact Fr.drew (hF2 _ _ _ (hF2 _ _ _ (hF2 _ _ _ (hF2 _ _ _ (hF2 _ _ _ (hF2 _ _ _ ((hF2 _ _ _ (hF2 _ _ _ (hF2 _ _ _ (hF2 _ _ _ (hF2 _ _ _ (hF2 _ _ _ hF)))))).trans (Fr.setCell _ _ ⟨p, 0, none⟩ (.slice (some ⟨g, 0, none⟩) L.length cap) rfl))))))))
    · simp [go_sem, hp1]
    · simp [hf1]

set_option maxHeartbeats 1000000 in
theorem pop_none (base p : Nat) (v : Value) (W : World) (hS : StkV base p v [] W) :
    Calls Try.prog 71 #[.pointer (some ⟨p, 0, none⟩)] W fun e w' => e = .returned (.tuple #[obv 0 false 0 0 0 ⟨#[]⟩, .int .i64 7]) ∧ Grown W w' := by
  have CP := Lib.hid (peek_under base p v [] 0 (by omega) (by simp) _ (hS.fr (Fr.alloc (fun _ => False) W (.cells #[.int .i64 0, .bool false, .int .i64 0, .int .i64 0, .int .i64 0, .string ⟨#[]⟩] 24)) (fun h => h) (fun _ _ h => h)))
  clear hS
  go_enter Try.func71, Try.ntmps71
  go_wp2_with fail
  refine (CP.out).mono ?_
  rintro e w1 ⟨rfl, g1⟩
  have hO : ObS W W.heap.size 0 false 0 0 0 ⟨#[]⟩ w1 := ObS.grow (by exact ⟨by simp [go_sem], by simp [go_sem], by simp [go_sem], by simp [go_sem], by simp [go_sem], by simp [go_sem], by (repeat (first | exact Grown.refl _ | assumption | apply Grown.drew | apply Grown.alloc))⟩) g1
  have hf2 : ∀ o, w1.frozen? ⟨W.heap.size, o, none⟩ = false := by intro o; rw [g1.2.1, frozen?_alloc_cells]; simp [World.frozen?]
  have hsz := g1.2.2
  obtain ⟨o0, o1, o2, o3, o4, o5, og⟩ := id hO
  have hex : ∀ o, o < 6 → (((((((w1.setCell ⟨W.heap.size, 0, none⟩ (.int .i64 0)).setCell ⟨W.heap.size, 1, none⟩ (.bool false)).setCell ⟨W.heap.size, 2, none⟩ (.int .i64 0)).setCell ⟨W.heap.size, 3, none⟩ (.int .i64 0)).setCell ⟨W.heap.size, 4, none⟩ (.int .i64 0)).setCell ⟨W.heap.size, 5, none⟩ (.string ⟨#[]⟩)).cell? ⟨W.heap.size, o, none⟩).isSome = true := by
    intro o ho
    have : (w1.cell? ⟨W.heap.size, o, none⟩).isSome = true := by
      rcases (show o = 0 ∨ o = 1 ∨ o = 2 ∨ o = 3 ∨ o = 4 ∨ o = 5 by omega) with rfl | rfl | rfl | rfl | rfl | rfl
      · rw [o0]; rfl
      · rw [o1]; rfl
      · rw [o2]; rfl
      · rw [o3]; rfl
      · rw [o4]; rfl
      · rw [o5]; rfl
    exact some_setCell (some_setCell (some_setCell (some_setCell (some_setCell (some_setCell this)))))
  have HEX := Lib.hid hex
  clear hex
  go_wp2_with fail
  obtain ⟨y0, y1, y2, y3, y4, y5⟩ := obs_set ((((((w1.setCell ⟨W.heap.size, 0, none⟩ (.int .i64 0)).setCell ⟨W.heap.size, 1, none⟩ (.bool false)).setCell ⟨W.heap.size, 2, none⟩ (.int .i64 0)).setCell ⟨W.heap.size, 3, none⟩ (.int .i64 0)).setCell ⟨W.heap.size, 4, none⟩ (.int .i64 0)).setCell ⟨W.heap.size, 5, none⟩ (.string ⟨#[]⟩)) W.heap.size HEX.out 0 false 0 0 0 ⟨#[]⟩ _ rfl
  have hG2 : ∀ (Z : World) (o : Nat) (u : Value), Grown W Z → Grown W (Z.setCell ⟨W.heap.size, o, none⟩ u) := fun Z o u h => Grown.setCell h (by simp) _
  refine bodyPost_ret (v := .tuple #[obv 0 false 0 0 0 ⟨#[]⟩, .int .i64 7]) (by simp [results, Try.results71, go_sem, y0, y1, y2, y3, y4, y5]) rfl ⟨rfl, hG2 _ _ _ (hG2 _ _ _ (hG2 _ _ _ (hG2 _ _ _ (hG2 _ _ _ (hG2 _ _ _ (hG2 _ _ _ (hG2 _ _ _ (hG2 _ _ _ (hG2 _ _ _ (hG2 _ _ _ (hG2 _ _ _ (og))))))))))))⟩
end Go.Proofs.Ytfmmomdmemcbbaa

namespace Go.Proofs.Ytfmmomdmemcbbaa
set_option linter.unusedVariables false
open Go.RowKit

theorem own_slice {w : World} {base : Nat} {e : TypeId} {size : Nat} {v : Value} {n : Nat} {xs : List Value} (h : w.ownsRow base e size v n xs) : ∃ ao cap, v = .slice ao n cap := by
  rcases h.2 with ⟨rfl, h0⟩ | ⟨g, cap, cur, rfl, _⟩
  · exact ⟨none, 0, by rw [h0]⟩
  · exact ⟨_, _, rfl⟩
/-- top of 0 and more -/
theorem top_all (base p : Nat) (v : Value) (L : List Pl.Ob) (n : Nat) (hnl : n ≤ L.length) (hlen : L.length ≤ 300) (W : World) (hS : StkV base p v L W) :
    Calls Try.prog 77 #[.pointer (some ⟨p, 0, none⟩), .int .i64 (n : Int)] W fun e w' => (∃ ao, e = .returned (.tuple #[.slice ao n n, .int .i64 0]) ∧ (ao = none → n = 0) ∧ ∀ ad, ao = some ad → ∀ j u, (Pl.flat (L.drop (L.length - n)))[j]? = some u → w'.cell? (ad.add j) = some u) ∧ Grown W w' := by
  rcases Nat.eq_zero_or_pos n with rfl | hn
  · refine (top_zero base p v L hlen W hS).mono ?_
    rintro e w' ⟨⟨ao, rfl⟩, g⟩
    refine ⟨⟨ao, rfl, fun _ => rfl, fun ad _ j u hu => ?_⟩, g⟩
    rw [Nat.sub_zero, List.drop_length] at hu
    simp [Pl.flat] at hu
  · obtain ⟨g, cap, rfl, C⟩ := top_ok base p v L n hn hnl hlen W hS
    refine C.mono ?_
    rintro e w' ⟨rfl, g1⟩
    refine ⟨⟨_, rfl, fun q => (by cases q), ?_⟩, g1⟩
    intro ad q j u hu
    cases q
    have hx := own_fr (P := fun _ => False) hS.2.2.1 (Fr.of_grown _ g1) (fun _ _ f => f)
    have hj := (List.getElem?_eq_some_iff.1 hu).1
    rw [Pl.flat_len, List.length_drop] at hj
    rw [show (⟨g, (L.length - n) * 6, none⟩ : Addr).add j = ⟨g, (L.length - n) * 6 + j, none⟩ from by simp [Addr.add]]
    have hsp : Pl.flat L = Pl.flat (L.take (L.length - n)) ++ Pl.flat (L.drop (L.length - n)) := by rw [← Pl.flat_append, List.take_append_drop]
    rw [hx.cellAt _ (by omega), hsp, List.getElem?_append_right (by rw [Pl.flat_len, List.length_take]; omega), ← hu]
    congr 1
    rw [Pl.flat_len, List.length_take]
    omega

end Go.Proofs.Ytfmmomdmemcbbaa

namespace Go.Proofs.Ytfmmomdmemcbbaa
set_option linter.unusedVariables false
open Go.RowKit

/-- a slice of objects that lies anywhere -/
def RowV (W : World) (v : Value) (L : List Pl.Ob) : Prop :=
  ∃ ao cap, v = .slice ao L.length cap ∧ (L = [] ∨ ∃ g o, ao = some ⟨g, o, none⟩ ∧ g < W.heap.size ∧ ∀ j u, (Pl.flat L)[j]? = some u → W.cell? ⟨g, o + j, none⟩ = some u)
theorem RowV.fr {P : Nat → Prop} {W W' : World} {ao : Option Addr} {m cap : Nat} {L : List Pl.Ob} (h : RowV W (.slice ao m cap) L) (k : Fr P W W') (hp : ∀ a, ao = some a → ¬ P a.block) : RowV W' (.slice ao m cap) L := by
  obtain ⟨ao2, cap2, hv, h⟩ := h
  injection hv with q1 q2 q3
  subst q1
  refine ⟨ao, cap2, by rw [q2, q3], ?_⟩
  rcases h with h | ⟨g, o, rfl, hg, h⟩
  · exact .inl h
  · exact .inr ⟨g, o, rfl, Nat.lt_of_lt_of_le hg k.2.2.1, fun j u hu => (k.cell (a := ⟨g, o + j, none⟩) hg (hp ⟨g, o, none⟩ rfl)).trans (h j u hu)⟩
theorem RowV.grown {W W' : World} {v : Value} {L : List Pl.Ob} (h : RowV W v L) (k : Grown W W') : RowV W' v L := by
  obtain ⟨ao, cap, rfl, _⟩ := id h
  exact h.fr (P := fun _ => False) (Fr.of_grown _ k) (fun _ _ f => f)
theorem own_row {base : Nat} {v : Value} {L : List Pl.Ob} {W : World} (c : W.ownsRow base 24 6 v L.length (Pl.flat L)) : RowV W v L := by
  have hl := own_lt c
  rcases c.2 with ⟨rfl, h0⟩ | ⟨g, cap, cur, rfl, hb, hg, hc, r⟩
  · exact ⟨none, 0, by rw [h0], .inl (List.eq_nil_of_length_eq_zero h0)⟩
  · refine ⟨_, cap, rfl, .inr ⟨g, 0, rfl, hl g rfl, fun j u hu => ?_⟩⟩
    have hj := (List.getElem?_eq_some_iff.1 hu).1
    rw [Pl.flat_len] at hj
    rw [Nat.zero_add, c.cellAt _ hj, hu]
/-- the cells of an element -/
theorem RowV.at {W : World} {v : Value} {L : List Pl.Ob} (h : RowV W v L) (j : Nat) (q : Pl.Ob) (hj : L[j]? = some q) : ∃ g o cap, v = .slice (some ⟨g, o, none⟩) L.length cap ∧ g < W.heap.size ∧
    W.cell? ⟨g, o + j * 6, none⟩ = some (.int .i64 q.1) ∧ W.cell? ⟨g, o + j * 6 + 1, none⟩ = some (.bool q.2.1) ∧ W.cell? ⟨g, o + j * 6 + 2, none⟩ = some (.int .i64 q.2.2.1) ∧ W.cell? ⟨g, o + j * 6 + 3, none⟩ = some (.int .i64 q.2.2.2.1) ∧
    W.cell? ⟨g, o + j * 6 + 4, none⟩ = some (.int .i64 q.2.2.2.2.1) ∧ W.cell? ⟨g, o + j * 6 + 5, none⟩ = some (.string q.2.2.2.2.2) := by
  have hl : j < L.length := (List.getElem?_eq_some_iff.1 hj).1
  obtain ⟨ao, cap, rfl, h | ⟨g, o, rfl, hg, h⟩⟩ := h
  · rw [h] at hl; simp at hl
  · refine ⟨g, o, cap, rfl, hg, ?_, ?_, ?_, ?_, ?_, ?_⟩
    · exact h (j * 6) _ ((Pl.flat_get L j q hj 0 (by omega)).trans rfl)
    · rw [Nat.add_assoc]; exact h (j * 6 + 1) _ ((Pl.flat_get L j q hj 1 (by omega)).trans rfl)
    · rw [Nat.add_assoc]; exact h (j * 6 + 2) _ ((Pl.flat_get L j q hj 2 (by omega)).trans rfl)
    · rw [Nat.add_assoc]; exact h (j * 6 + 3) _ ((Pl.flat_get L j q hj 3 (by omega)).trans rfl)
    · rw [Nat.add_assoc]; exact h (j * 6 + 4) _ ((Pl.flat_get L j q hj 4 (by omega)).trans rfl)
    · rw [Nat.add_assoc]; exact h (j * 6 + 5) _ ((Pl.flat_get L j q hj 5 (by omega)).trans rfl)

set_option maxHeartbeats 2000000 in
set_option maxRecDepth 100000 in
theorem same_yes (v1 v2 : Value) (L : List Pl.Ob) (hlen : L.length ≤ 600) (W : World) (h1 : RowV W v1 L) (h2 : RowV W v2 L) :
    Calls Try.prog 12 #[v1, v2] W fun e w' => e = .returned (.bool true) ∧ Grown W w' := by
  obtain ⟨M, hM⟩ : ∃ M, M = L.length := ⟨_, rfl⟩
  obtain ⟨ao1, cap1, hv1, -⟩ := id h1
  obtain ⟨ao2, cap2, hv2, -⟩ := id h2
  rw [← hM] at hv1 hv2
  subst hv1
  subst hv2
  have H1 := Lib.hid h1
  have H2 := Lib.hid h2
  have HM := Lib.hid hM
  rw [← hM] at hlen
  clear h1 h2 hM
  go_enter Try.func12, Try.ntmps12
  go_wp2_with fail
  go_loopw [5] (fun i wr => ∃ k : Nat, i = .int .i64 (k : Int) ∧ k ≤ M ∧ Grown W wr) (fun i _ => ((M : Int) - intOf i).toNat)
  case atStart => exact ⟨0, rfl, by omega, Grown.refl W⟩
  case round =>
    obtain ⟨k, rfl, hk, g1⟩ := hrel
    go_wp2_with fail
    · obtain ⟨⟨kk, x, n, a, l, s⟩, hq⟩ : ∃ q, L[k]? = some q := ⟨_, List.getElem?_eq_getElem (by have := HM.out; omega)⟩
      obtain ⟨ga, oa, ca, hva, hga, a0, a1, a2, a3, a4, a5⟩ := (H1.out.grown g1).at k _ hq
      obtain ⟨gb, ob, cb, hvb, hgb, b0, b1, b2, b3, b4, b5⟩ := (H2.out.grown g1).at k _ hq
      injection hva with q1 q2 q3
      injection hvb with q4 q5 q6
      subst q1
      subst q4
      clear q2 q3 q5 q6 hq
      go_region
      all_goals
        go_wp2_with fail
        go_roundw
        case rel => exact ⟨k + 1, by simp, by omega, g1.drew⟩
        case measure => simp [intOf] <;> omega
    · go_ret
      exact ⟨rfl, g1⟩
end Go.Proofs.Ytfmmomdmemcbbaa

namespace Go.Proofs.Ytfmmomdmemcbbaa
set_option linter.unusedVariables false
open Go.RowKit

theorem Pl.fd_none : ∀ (R : List Pl.Ob), (∀ (i : Nat) (q : Pl.Ob), i < R.length → R[i]? = some q → q.1 ≠ 6) → R.findIdx? (fun q => q.1 == 6) = none := by
  intro R h
  rw [List.findIdx?_eq_none_iff]
  intro q hq
  obtain ⟨i, hi⟩ := List.getElem?_of_mem hq
  simpa using h i q (List.getElem?_eq_some_iff.1 hi).1 hi
theorem Pl.fd_some (R : List Pl.Ob) (k : Nat) (q : Pl.Ob) (hk : R[k]? = some q) (hq : q.1 = 6) (h : ∀ (i : Nat) (q : Pl.Ob), i < k → R[i]? = some q → q.1 ≠ 6) : R.findIdx? (fun q => q.1 == 6) = some k := by
  obtain ⟨hl, he⟩ := List.getElem?_eq_some_iff.1 hk
  rw [List.findIdx?_eq_some_iff_getElem]
  refine ⟨hl, by rw [he]; simpa using hq, fun j hj => ?_⟩
  simpa using h j _ hj (List.getElem?_eq_getElem (by omega))
def Pl.toMark (L : List Pl.Ob) : Int × Int := match L.reverse.findIdx? (fun q => q.1 == 6) with | some i => ((i : Int), 0) | none => (0, 10)
theorem Pl.rev_at (L : List Pl.Ob) (k : Nat) (hk : k < L.length) : ∃ q, L.reverse[k]? = some q ∧ L[L.length - 1 - k]? = some q := by
  refine ⟨L[L.length - 1 - k]'(by omega), ?_, List.getElem?_eq_getElem _⟩
  rw [List.getElem?_reverse hk]
  exact List.getElem?_eq_getElem _

set_option maxHeartbeats 2000000 in
set_option maxRecDepth 100000 in
theorem tomark_any (base p : Nat) (v : Value) (L : List Pl.Ob) (hlen : L.length ≤ 300) (W : World) (hS : StkV base p v L W) :
    Calls Try.prog 56 #[.pointer (some ⟨p, 0, none⟩)] W fun e w' => e = .returned (.tuple #[.int .i64 (Pl.toMark L).1, .int .i64 (Pl.toMark L).2]) ∧ Grown W w' := by
  have HS := Lib.hid hS
  obtain ⟨ao, cap, rfl⟩ := hS.slice
  have h0 := hS.1
  obtain ⟨M, hM⟩ : ∃ M, M = L.length := ⟨_, rfl⟩
  rw [← hM] at h0
  have HM := Lib.hid hM
  have e1 : (M : Int) ≤ 300 := by omega
  have hlen' := hlen
  have HL := Lib.hid hlen'
  clear hS hM hlen hlen'
  go_enter Try.func56, Try.ntmps56
  go_wp2_with fail
  go_loopw [14] (fun i wr => ∃ k : Nat, i = .int .i64 (k : Int) ∧ k ≤ M ∧ Grown W wr ∧ Hid (∀ (i : Nat) (q : Pl.Ob), i < k → L.reverse[i]? = some q → q.1 ≠ 6)) (fun i _ => ((M : Int) - intOf i).toNat)
  case atStart => exact ⟨0, rfl, by omega, Grown.refl W, Lib.hid (fun i q h => absurd h (by omega))⟩
  case round =>
    obtain ⟨k, rfl, hk, g1, hall⟩ := hrel
    go_wp2_with fail
    · obtain ⟨⟨kk, x, n, a, l, s⟩, hq1, hq2⟩ := Pl.rev_at L k (by have := HM.out; omega)
      have CP := Lib.hid (peek_ok base p _ L k (L.length - 1 - k) kk x n a l s (by have := HM.out; omega) hq2 HL.out wr (HS.out.fr (P := fun _ => False) (Fr.of_grown _ g1) (fun f => f) (fun _ _ f => f)))
      have HQ := Lib.hid hq1
      clear hq1 hq2
      refine CP.out.mono ?_
      rintro e w1 ⟨rfl, g2⟩
      go_wp2_with fail
      · rename_i hkk
        go_ret2
        refine ⟨?_, (grown_trans g1 g2).alloc _ _⟩
        rw [Pl.toMark, Pl.fd_some L.reverse k _ HQ.out (by simpa using hkk) hall.out]
        rfl
      · rename_i hkk
        refine ⟨⟨k + 1, by simp, by omega, (grown_trans g1 g2).alloc _ _, Lib.hid ?_⟩, by simp [intOf] <;> omega⟩
        intro i q hi hq
        rcases Nat.lt_succ_iff_lt_or_eq.1 hi with h | rfl
        · exact hall.out i q h hq
        · rw [HQ.out] at hq
          injection hq with hq
          rw [← hq]
          simpa using hkk
    · go_ret2
      refine ⟨?_, g1⟩
      rw [Pl.toMark, Pl.fd_none L.reverse (fun i q hi hq => hall.out i q (by rw [List.length_reverse] at hi; have := HM.out; omega) hq)]
      rfl
end Go.Proofs.Ytfmmomdmemcbbaa

namespace Go.Proofs.Ytfmmomdmemcbbaa
set_option linter.unusedVariables false
open Go.RowKit

def Pl.mayO (o : Pl.Ob) : Prop := Pl.may o.1 o.2.2.1 o.2.2.2.1 o.2.2.2.2.1 o.2.2.2.2.2

theorem RowV.src {W : World} {ao : Option Addr} {m cap : Nat} {L : List Pl.Ob} (h : RowV W (.slice ao m cap) L) : (ao = none → L.length = 0) ∧ ∀ ad, ao = some ad → ∀ j u, (Pl.flat L)[j]? = some u → W.cell? (ad.add j) = some u := by
  obtain ⟨ao2, cap2, hv, h⟩ := h
  injection hv with q1 q2 q3
  subst q1
  rcases h with rfl | ⟨g, o, rfl, hg, h⟩
  · exact ⟨fun _ => rfl, fun ad _ j u hu => by simp [Pl.flat] at hu⟩
  · refine ⟨fun q => (by cases q), fun ad q j u hu => ?_⟩
    cases q
    rw [show (⟨g, o, none⟩ : Addr).add j = ⟨g, o + j, none⟩ from by simp [Addr.add]]
    exact h j u hu

set_option maxHeartbeats 2000000 in
set_option maxRecDepth 100000 in
theorem become_bad (p : Nat) (v : Value) (L : List Pl.Ob) (hlen : L.length ≤ 300) (j : Nat) (o : Pl.Ob) (hj : L[j]? = some o) (ho : ¬ Pl.mayO o) (W : World) (hR : RowV W v L) :
    Calls Try.prog 20 #[.pointer (some ⟨p, 0, none⟩), v] W fun e w' => e = .returned (.int .i64 1) ∧ Grown W w' := by
  obtain ⟨ao, cap, rfl, -⟩ := id hR
  have HR := Lib.hid hR
  have hjl := (List.getElem?_eq_some_iff.1 hj).1
  obtain ⟨M, hM⟩ : ∃ M, M = L.length := ⟨_, rfl⟩
  have HM := Lib.hid hM
  have HJ := Lib.hid hj
  have HO := Lib.hid ho
  rw [← hM] at hlen hjl
  rw [← hM]
  clear hR hM hj ho
  go_enter Try.func20, Try.ntmps20
  go_wp2_with fail
  go_loopw [11] (fun i wr => ∃ k : Nat, i = .int .i64 (k : Int) ∧ k ≤ j ∧ Grown W wr) (fun i _ => ((M : Int) - intOf i).toNat)
  case atStart => exact ⟨0, rfl, by omega, Grown.refl W⟩
  case round =>
    obtain ⟨k, rfl, hk, g1⟩ := hrel
    obtain ⟨⟨kk, x, n, a, l, s⟩, hq⟩ : ∃ q, L[k]? = some q := ⟨_, List.getElem?_eq_getElem (by have := HM.out; omega)⟩
    obtain ⟨ga, oa, ca, hva, hga, a0, a1, a2, a3, a4, a5⟩ := (HR.out.grown g1).at k _ hq
    injection hva with q1 q2 q3
    subst q1
    clear q2 q3
    have HQ := Lib.hid hq
    clear hq
    have hkM : (k : Int) < (M : Int) := by omega
    by_cases hm : Pl.may kk n a l s
    · have CM := Lib.hid (fun W => may_yes kk x n a l s hm W)
      have hkj : k < j := by
        rcases Nat.lt_or_ge k j with h | h
        · exact h
        · obtain rfl : k = j := by omega
          have := HQ.out
          rw [HJ.out] at this
          injection this with this
          exact absurd (by rw [this]; exact hm) HO.out
      clear hm
      go_wp2_with fail
      refine (CM.out _).mono ?_
      rintro e w1 ⟨rfl, g2⟩
      go_wp2_with fail
      exact ⟨⟨k + 1, by simp, by omega, grown_trans (g1.alloc _ _) g2⟩, by simp [intOf] <;> omega⟩
    · have CM := Lib.hid (fun W => may_no kk x n a l s hm W)
      clear hm
      go_wp2_with fail
      refine (CM.out _).mono ?_
      rintro e w1 ⟨rfl, g2⟩
      go_wp2_with fail
      go_ret
      exact ⟨rfl, grown_trans (g1.alloc _ _) g2⟩

set_option maxHeartbeats 2000000 in
set_option maxRecDepth 100000 in
theorem become_over (base p : Nat) (v v0 : Value) (L : List Pl.Ob) (hlen : 200 < L.length ∧ L.length ≤ 400) (hall : ∀ (j : Nat) (o : Pl.Ob), L[j]? = some o → Pl.mayO o) (W : World) (hR : RowV W v L) (h0 : W.cell? ⟨p, 0, none⟩ = some v0) (h1 : W.frozen? ⟨p, 0, none⟩ = false) (hp : p < W.heap.size) (hb : base ≤ W.heap.size) :
    Calls Try.prog 20 #[.pointer (some ⟨p, 0, none⟩), v] W fun e w' => e = .returned (.int .i64 8) ∧ Grown W w' := by
  obtain ⟨i0, hi, hz0, hz1, hz2⟩ := info_parts Try.objInfo
  obtain ⟨ao, cap, rfl, -⟩ := id hR
  have HR := Lib.hid hR
  obtain ⟨M, hM⟩ : ∃ M, M = L.length := ⟨_, rfl⟩
  have HM := Lib.hid hM
  have HA := Lib.hid hall
  have HFL : Hid ((Pl.flat L).length = M * 6) := Lib.hid (by rw [Pl.flat_len, hM])
  have HF := Lib.hid (Pl.flat_one L)
  rw [← hM] at hlen
  rw [← hM]
  clear hR hM hall
  go_enter Try.func20, Try.ntmps20
  go_wp2_with fail
  go_loopw [11] (fun i wr => ∃ k : Nat, i = .int .i64 (k : Int) ∧ k ≤ M ∧ Grown W wr) (fun i _ => ((M : Int) - intOf i).toNat)
  case atStart => exact ⟨0, rfl, by omega, Grown.refl W⟩
  case round =>
    obtain ⟨k, rfl, hk, g1⟩ := hrel
    rcases Nat.lt_or_eq_of_le hk with hkm | hkm
    · obtain ⟨⟨kk, x, n, a, l, s⟩, hq⟩ : ∃ q, L[k]? = some q := ⟨_, List.getElem?_eq_getElem (by have := HM.out; omega)⟩
      obtain ⟨ga, oa, ca, hva, hga, a0, a1, a2, a3, a4, a5⟩ := (HR.out.grown g1).at k _ hq
      injection hva with q1 q2 q3
      subst q1
      clear q2 q3
      have CM := Lib.hid (fun W => may_yes kk x n a l s (HA.out _ _ hq) W)
      clear hq
      have hkM : (k : Int) < (M : Int) := by omega
      go_wp2_with fail
      refine (CM.out _).mono ?_
      rintro e w1 ⟨rfl, g2⟩
      go_wp2_with fail
      exact ⟨⟨k + 1, by simp, by omega, grown_trans (g1.alloc _ _) g2⟩, by simp [intOf] <;> omega⟩
    · subst hkm
      have hsz := g1.2.2
      have f1 : wr.frozen? ⟨p, 0, none⟩ = false := by rw [g1.2.1]; exact h1
      have c1 := grown_cell g1 h0
      have HS1 := Lib.hid (HR.out.grown g1).src
      have hsz1 : W.heap.size ≤ wr.heap.size := hsz
      go_wp2_with fail
      go_ret
      exact ⟨rfl, g1⟩

set_option maxHeartbeats 2000000 in
set_option maxRecDepth 100000 in
theorem become_ok (base p : Nat) (v v0 : Value) (L : List Pl.Ob) (hlen : L.length ≤ 200) (hall : ∀ (j : Nat) (o : Pl.Ob), L[j]? = some o → Pl.mayO o) (W : World) (hR : RowV W v L) (h0 : W.cell? ⟨p, 0, none⟩ = some v0) (h1 : W.frozen? ⟨p, 0, none⟩ = false) (hp : p < W.heap.size) (hb : base ≤ W.heap.size) :
    Calls Try.prog 20 #[.pointer (some ⟨p, 0, none⟩), v] W fun e w' => e = .returned (.int .i64 0) ∧
      (∃ v', StkV base p v' L w' ∧ ∀ g, v'.ownBlock = some g → W.heap.size ≤ g) ∧ Fr (fun c => c = p) W w' := by
  obtain ⟨i0, hi, hz0, hz1, hz2⟩ := info_parts Try.objInfo
  obtain ⟨ao, cap, rfl, -⟩ := id hR
  have HR := Lib.hid hR
  obtain ⟨M, hM⟩ : ∃ M, M = L.length := ⟨_, rfl⟩
  have HM := Lib.hid hM
  have HA := Lib.hid hall
  have HFL : Hid ((Pl.flat L).length = M * 6) := Lib.hid (by rw [Pl.flat_len, hM])
  have HF := Lib.hid (Pl.flat_one L)
  rw [← hM] at hlen
  rw [← hM]
  clear hR hM hall
  go_enter Try.func20, Try.ntmps20
  go_wp2_with fail
  go_loopw [11] (fun i wr => ∃ k : Nat, i = .int .i64 (k : Int) ∧ k ≤ M ∧ Grown W wr) (fun i _ => ((M : Int) - intOf i).toNat)
  case atStart => exact ⟨0, rfl, by omega, Grown.refl W⟩
  case round =>
    obtain ⟨k, rfl, hk, g1⟩ := hrel
    rcases Nat.lt_or_eq_of_le hk with hkm | hkm
    · obtain ⟨⟨kk, x, n, a, l, s⟩, hq⟩ : ∃ q, L[k]? = some q := ⟨_, List.getElem?_eq_getElem (by have := HM.out; omega)⟩
      obtain ⟨ga, oa, ca, hva, hga, a0, a1, a2, a3, a4, a5⟩ := (HR.out.grown g1).at k _ hq
      injection hva with q1 q2 q3
      subst q1
      clear q2 q3
      have CM := Lib.hid (fun W => may_yes kk x n a l s (HA.out _ _ hq) W)
      clear hq
      have hkM : (k : Int) < (M : Int) := by omega
      go_wp2_with fail
      refine (CM.out _).mono ?_
      rintro e w1 ⟨rfl, g2⟩
      go_wp2_with fail
      exact ⟨⟨k + 1, by simp, by omega, grown_trans (g1.alloc _ _) g2⟩, by simp [intOf] <;> omega⟩
    · subst hkm
      have hsz := g1.2.2
      have f1 : wr.frozen? ⟨p, 0, none⟩ = false := by rw [g1.2.1]; exact h1
      have c1 := grown_cell g1 h0
      have HS1 := Lib.hid (HR.out.grown g1).src
      have hsz1 : W.heap.size ≤ wr.heap.size := hsz
      go_wp2_with (at_builtin; refine wpList_append_all _ base 26 24 i0 _ 6 56 Try.underlying26 hi hz0 hz1 hz2 rfl (by decide) (.slice none 0 0) 0 [] (World.ownsRow_nil _ _ _ _) ao k cap (Pl.flat L) (by rw [HM.out]; exact HS1.out.1) HFL.out HS1.out.2 HF.out (by unfold maxLen; omega) (by omega) (by omega) (hgd := rfl) (.const (.slice none 0 0)) (.tmp 23) rfl (by simp [Act.eval]) (by simp [Act.eval]) ?hnext)
      case hnext =>
        intro v' w' hown' hgr hbl
        obtain ⟨ao', cap', rfl⟩ := own_slice hown'
        have hne' : ∀ g, (Value.slice ao' k cap').ownBlock = some g → W.heap.size ≤ g := fun g q => (hbl g q).elim (fun h => by simp [Value.ownBlock] at h) (fun h => by omega)
        have Hown := Lib.hid hown'
        have Hgr := Lib.hid hgr
        have Hne := Lib.hid hne'
        have cp := Hgr.out.cell c1 (by simp [Value.ownBlock])
        have fp : w'.frozen? ⟨p, 0, none⟩ = false := (World.frozen?_of_block (a := ⟨p, 0, none⟩) (Hgr.out.block p (by omega) (by simp [Value.ownBlock]))).trans f1
        clear hown' hgr hbl hne'
        go_wp2_with fail
        go_ret
        have hF : Fr (fun c => c = p) W (w'.setCell ⟨p, 0, none⟩ (.slice ao' k cap')) :=
          ((Fr.of_grown _ g1).trans (Fr.grown _ Hgr.out (fun k q => (by simp [Value.ownBlock] at q)))).trans (Fr.setCell _ _ _ _ rfl)
        refine ⟨rfl, ⟨.slice ao' k cap', ⟨World.cell?_setCell_same' _ _ _ (by rw [cp]; rfl), by simpa using fp, ?_, fun q => by have := Hne.out p q; omega, Nat.lt_of_lt_of_le hp hF.2.2.1⟩, fun g q => Hne.out g q⟩, hF⟩
        have h := Hown.out
        rw [← HM.out]
        exact own_fr (P := fun c => c = p) h (Fr.setCell _ _ _ _ rfl) (fun g q h => by have := Hne.out g q; omega)
end Go.Proofs.Ytfmmomdmemcbbaa

namespace Go.Proofs.Ytfmmomdmemcbbaa
set_option linter.unusedVariables false
open Go.RowKit

abbrev Pl.ov (o : Pl.Ob) : Value := obv o.1 o.2.1 o.2.2.1 o.2.2.2.1 o.2.2.2.2.1 o.2.2.2.2.2
theorem Fr.weaken {P Q : Nat → Prop} {W W' : World} (h : Fr P W W') (hq : ∀ c, P c → Q c) : Fr Q W W' := ⟨h.1, h.2.1, h.2.2.1, fun c hc hn => h.2.2.2 c hc (fun q => hn (hq c q))⟩

/-- a stack born since W0, with the objects L; the blocks Pr are none of its own -/
def Stk (W0 : World) (Pr : Nat → Prop) (p : Nat) (L : List Pl.Ob) (W : World) : Prop :=
  ∃ v, StkV W0.heap.size p v L W ∧ W0.heap.size ≤ p ∧ Kept W0 W ∧ ¬ Pr p ∧ (∀ g, v.ownBlock = some g → ¬ Pr g) ∧ ∀ c, Pr c → c < W.heap.size
/-- a step that leaves the blocks Pr, and all that is older than W0 -/
abbrev FrS (W0 : World) (Pr : Nat → Prop) (W W' : World) : Prop := Fr (fun c => ¬ Pr c ∧ W0.heap.size ≤ c) W W'

theorem stk_step {W0 : World} {Pr : Nat → Prop} {p : Nat} {L L' : List Pl.Ob} {v v' : Value} {W w' : World} (hS : StkV W0.heap.size p v L W) (hp : W0.heap.size ≤ p) (hK : Kept W0 W) (hPp : ¬ Pr p) (hPv : ∀ g, v.ownBlock = some g → ¬ Pr g) (hPl : ∀ c, Pr c → c < W.heap.size)
    (hS' : StkV W0.heap.size p v' L' w') (hv : ∀ g, v'.ownBlock = some g → v.ownBlock = some g ∨ W.heap.size ≤ g) (hF : Fr (fun c => c = p ∨ v.ownBlock = some c) W w') : Stk W0 Pr p L' w' ∧ FrS W0 Pr W w' := by
  have hb := own_base hS.2.2.1
  refine ⟨⟨v', hS', hp, hK.fr hF ?_, hPp, fun g q h => ?_, fun c q => Nat.lt_of_lt_of_le (hPl c q) hF.2.2.1⟩, hF.weaken ?_⟩
  · rintro c (rfl | q)
    · exact hp
    · exact hb c q
  · rcases hv g q with h2 | h2
    · exact hPv g h2 h
    · have := hPl g h
      omega
  · rintro c (rfl | q)
    · exact ⟨hPp, hp⟩
    · exact ⟨hPv c q, hb c q⟩
theorem Stk.grown {W0 : World} {Pr : Nat → Prop} {p : Nat} {L : List Pl.Ob} {W W' : World} (h : Stk W0 Pr p L W) (g : Grown W W') : Stk W0 Pr p L W' := by
  obtain ⟨v, hS, h1, h2, h3, h4, h5⟩ := h
  exact ⟨v, hS.fr (P := fun _ => False) (Fr.of_grown _ g) (fun f => f) (fun _ _ f => f), h1, h2.trans (Kept.of_grown g), h3, h4, fun c q => Nat.lt_of_lt_of_le (h5 c q) g.2.2⟩
theorem Stk.keptw {W0 : World} {Pr : Nat → Prop} {p : Nat} {L : List Pl.Ob} {W : World} (h : Stk W0 Pr p L W) : Kept W0 W := by
  obtain ⟨v, hS, h1, h2, h3, h4, h5⟩ := h
  exact h2
theorem Stk.protect {W0 : World} {Pr Qr : Nat → Prop} {p : Nat} {L : List Pl.Ob} {W W' : World} (h : Stk W0 Pr p L W) (k : Fr (fun _ => False) W W') (hq : ∀ c, Qr c → c < W.heap.size → Pr c) (hq' : ∀ c, Qr c → c < W'.heap.size) : Stk W0 Qr p L W' := by
  obtain ⟨v, hS, h1, h2, h3, h4, h5⟩ := h
  have hl := own_lt hS.2.2.1
  exact ⟨v, hS.fr (P := fun _ => False) k (fun f => f) (fun _ _ f => f), h1, h2.fr k (fun c f => f.elim), fun q => h3 (hq _ q hS.2.2.2.2), fun g q r => h4 g q (hq _ r (hl g q)), hq'⟩

/-- a new box is no block of its own -/
theorem Stk.box {W0 : World} {Pr : Nat → Prop} {p : Nat} {L : List Pl.Ob} {W : World} (h : Stk W0 Pr p L W) (o : Obj) : Stk W0 (fun c => Pr c ∨ c = W.heap.size) p L (W.alloc o) := by
  obtain ⟨v, hS, h1, h2, h3, h4, h5⟩ := id h
  refine h.protect (Fr.alloc _ W o) (fun c q hc => q.elim id (fun e => by omega)) (fun c q => ?_)
  rcases q with q | q
  · have := h5 c q; simp; omega
  · simp; omega
/-- a box -/
abbrev ObC (b : Nat) (k : Int) (x : Bool) (n a l : Int) (s : ByteArray) (W : World) : Prop :=
  W.cell? ⟨b, 0, none⟩ = some (.int .i64 k) ∧ W.cell? ⟨b, 1, none⟩ = some (.bool x) ∧ W.cell? ⟨b, 2, none⟩ = some (.int .i64 n) ∧ W.cell? ⟨b, 3, none⟩ = some (.int .i64 a) ∧ W.cell? ⟨b, 4, none⟩ = some (.int .i64 l) ∧ W.cell? ⟨b, 5, none⟩ = some (.string s)
theorem ObC.grown {W W' : World} {b : Nat} {k : Int} {x : Bool} {n a l : Int} {s : ByteArray} (h : ObC b k x n a l s W) (hg : Grown W W') : ObC b k x n a l s W' :=
  ⟨grown_cell hg h.1, grown_cell hg h.2.1, grown_cell hg h.2.2.1, grown_cell hg h.2.2.2.1, grown_cell hg h.2.2.2.2.1, grown_cell hg h.2.2.2.2.2⟩
theorem ObC.fr {W0 W W' : World} {Pr : Nat → Prop} {b : Nat} {k : Int} {x : Bool} {n a l : Int} {s : ByteArray} (h : ObC b k x n a l s W) (hg : FrS W0 Pr W W') (hb : Pr b) : ObC b k x n a l s W' := by
  have hl : b < W.heap.size := block_lt_of_cell h.1
  have e : ∀ o, W'.cell? ⟨b, o, none⟩ = W.cell? ⟨b, o, none⟩ := fun o => hg.cell (a := ⟨b, o, none⟩) hl (fun q => q.1 hb)
  exact ⟨(e 0).trans h.1, (e 1).trans h.2.1, (e 2).trans h.2.2.1, (e 3).trans h.2.2.2.1, (e 4).trans h.2.2.2.2.1, (e 5).trans h.2.2.2.2.2⟩
theorem ObC.kept {W W' : World} {b : Nat} {k : Int} {x : Bool} {n a l : Int} {s : ByteArray} (h : ObC b k x n a l s W) (hg : Kept W W') : ObC b k x n a l s W' := by
  have hl : b < W.heap.size := block_lt_of_cell h.1
  have e : ∀ o, W'.cell? ⟨b, o, none⟩ = W.cell? ⟨b, o, none⟩ := fun o => hg.1.cell hl (fun q => q)
  exact ⟨(e 0).trans h.1, (e 1).trans h.2.1, (e 2).trans h.2.2.1, (e 3).trans h.2.2.2.1, (e 4).trans h.2.2.2.2.1, (e 5).trans h.2.2.2.2.2⟩
theorem ObC.new (W : World) (k : Int) (x : Bool) (n a l : Int) (s : ByteArray) : ObC W.heap.size k x n a l s (W.alloc (.cells #[.int .i64 k, .bool x, .int .i64 n, .int .i64 a, .int .i64 l, .string s] 24)) :=
  ⟨by simp [go_sem], by simp [go_sem], by simp [go_sem], by simp [go_sem], by simp [go_sem], by simp [go_sem]⟩

/-- a row of objects in blocks that stay -/
def RowP (Pr : Nat → Prop) (W : World) (v : Value) (L : List Pl.Ob) : Prop := RowV W v L ∧ ∀ ao m c, v = .slice ao m c → ∀ a, ao = some a → L ≠ [] → Pr a.block
theorem RowP.fr {W0 : World} {Pr : Nat → Prop} {W W' : World} {v : Value} {L : List Pl.Ob} (h : RowP Pr W v L) (k : FrS W0 Pr W W') : RowP Pr W' v L := by
  refine ⟨?_, h.2⟩
  obtain ⟨⟨ao, cap, rfl, h1⟩, h2⟩ := h
  rcases h1 with rfl | ⟨g, o, rfl, hg, h1⟩
  · exact ⟨ao, cap, rfl, .inl rfl⟩
  · by_cases hL : L = []
    · exact ⟨_, cap, rfl, .inl hL⟩
    · exact RowV.fr ⟨_, cap, rfl, .inr ⟨g, o, rfl, hg, h1⟩⟩ k (fun a q r => r.1 (h2 _ _ _ rfl a q hL))
theorem RowP.grown {Pr : Nat → Prop} {W W' : World} {v : Value} {L : List Pl.Ob} (h : RowP Pr W v L) (k : Grown W W') : RowP Pr W' v L := ⟨h.1.grown k, h.2⟩
theorem RowP.weaken {Pr Qr : Nat → Prop} {W : World} {v : Value} {L : List Pl.Ob} (h : RowP Pr W v L) (k : ∀ c, Pr c → Qr c) : RowP Qr W v L := ⟨h.1, fun ao m c hv a ha hL => k _ (h.2 ao m c hv a ha hL)⟩

/-- nil, or from a block's first cell on -/
def OwnForm (v : Value) (n : Nat) : Prop := (v = .slice none n n ∧ n = 0) ∨ ∃ g cap, v = .slice (some ⟨g, 0, none⟩) n cap ∧ n ≤ cap
theorem own_form {w : World} {base : Nat} {e : TypeId} {size : Nat} {v : Value} {n : Nat} {xs : List Value} (h : w.ownsRow base e size v n xs) : OwnForm v n := by
  rcases h.2 with ⟨rfl, h0⟩ | ⟨g, cap, cur, rfl, _, _, hc, _⟩
  · exact .inl ⟨by rw [h0], h0⟩
  · exact .inr ⟨g, cap, rfl, hc⟩

theorem stk_new (W0 : World) (Pr : Nat → Prop) (W : World) (hK : Kept W0 W) (hPr : ∀ c, Pr c → c < W.heap.size) :
    Calls Try.prog 19 #[] W fun e w' => e = .returned (.pointer (some ⟨W.heap.size, 0, none⟩)) ∧ Stk W0 Pr W.heap.size [] w' ∧ FrS W0 Pr W w' := by
  refine (new_any W).mono ?_
  rintro e w' ⟨rfl, rfl⟩
  have hb : W0.heap.size ≤ W.heap.size := hK.2.2
  have h := new_stk W
  refine ⟨rfl, ⟨_, ⟨h.1, h.2.1, World.ownsRow_nil _ _ _ _, h.2.2.2.1, h.2.2.2.2⟩, hb, hK.fr (Fr.alloc (fun _ => False) W _) (fun c f => f.elim), fun q => by have := hPr _ q; omega, fun g q => by simp [Value.ownBlock] at q, fun c q => by have := hPr c q; simp; omega⟩, Fr.alloc _ _ _⟩

section
variable (W0 : World) (Pr : Nat → Prop) (p : Nat) (L : List Pl.Ob) (W : World) (h : Stk W0 Pr p L W)
include h
theorem stk_push (o : Pl.Ob) (hm : Pl.mayO o) (hn : L.length < 200) :
    Calls Try.prog 72 #[.pointer (some ⟨p, 0, none⟩), Pl.ov o] W fun e w' => e = .returned (.int .i64 0) ∧ Stk W0 Pr p (L ++ [o]) w' ∧ FrS W0 Pr W w' := by
  obtain ⟨v, hS, h1, h2, h3, h4, h5⟩ := h
  refine (push_ok W0.heap.size p v L o.1 o.2.1 o.2.2.1 o.2.2.2.1 o.2.2.2.2.1 o.2.2.2.2.2 hm hn W hS h2.2.2).mono ?_
  rintro e w' ⟨rfl, ⟨v', hS', hv'⟩, hF⟩
  exact ⟨rfl, stk_step hS h1 h2 h3 h4 h5 hS' hv' hF⟩
theorem stk_push_bad (o : Pl.Ob) (hm : ¬ Pl.mayO o) :
    Calls Try.prog 72 #[.pointer (some ⟨p, 0, none⟩), Pl.ov o] W fun e w' => e = .returned (.int .i64 1) ∧ Stk W0 Pr p L w' ∧ Grown W w' := by
  obtain ⟨v, hS, h1, h2, h3, h4, h5⟩ := id h
  refine (push_bad W0.heap.size p v L o.1 o.2.1 o.2.2.1 o.2.2.2.1 o.2.2.2.2.1 o.2.2.2.2.2 hm W hS).mono ?_
  rintro e w' ⟨rfl, g⟩
  exact ⟨rfl, h.grown g, g⟩
theorem stk_push_full (o : Pl.Ob) (hm : Pl.mayO o) (hn : 200 ≤ L.length) (hlen : L.length ≤ 300) :
    Calls Try.prog 72 #[.pointer (some ⟨p, 0, none⟩), Pl.ov o] W fun e w' => e = .returned (.int .i64 8) ∧ Stk W0 Pr p L w' ∧ Grown W w' := by
  obtain ⟨v, hS, h1, h2, h3, h4, h5⟩ := id h
  refine (push_full W0.heap.size p v L o.1 o.2.1 o.2.2.1 o.2.2.2.1 o.2.2.2.2.1 o.2.2.2.2.2 hm hn W hS).mono ?_
  rintro e w' ⟨rfl, g⟩
  exact ⟨rfl, h.grown g, g⟩
theorem stk_len :
    Calls Try.prog 52 #[.pointer (some ⟨p, 0, none⟩)] W fun e w' => e = .returned (.int .i64 (L.length : Int)) ∧ w' = W := by
  obtain ⟨v, hS, h1, h2, h3, h4, h5⟩ := h
  exact len_any W0.heap.size p v L W hS
theorem stk_peek (i : Nat) (o : Pl.Ob) (ho : L.reverse[i]? = some o) (hlen : L.length ≤ 300) :
    Calls Try.prog 51 #[.pointer (some ⟨p, 0, none⟩), .int .i64 (i : Int)] W fun e w' => e = .returned (.tuple #[Pl.ov o, .int .i64 0]) ∧ Stk W0 Pr p L w' ∧ Grown W w' := by
  obtain ⟨v, hS, h1, h2, h3, h4, h5⟩ := id h
  have hl := (List.getElem?_eq_some_iff.1 ho).1
  rw [List.length_reverse] at hl
  rw [List.getElem?_reverse hl] at ho
  refine (peek_ok W0.heap.size p v L i (L.length - 1 - i) o.1 o.2.1 o.2.2.1 o.2.2.2.1 o.2.2.2.2.1 o.2.2.2.2.2 (by omega) ho hlen W hS).mono ?_
  rintro e w' ⟨rfl, g⟩
  exact ⟨rfl, h.grown g, g⟩
theorem stk_peek_low (i : Int) (hi : i < 0) :
    Calls Try.prog 51 #[.pointer (some ⟨p, 0, none⟩), .int .i64 i] W fun e w' => e = .returned (.tuple #[obv 0 false 0 0 0 ⟨#[]⟩, .int .i64 2]) ∧ Stk W0 Pr p L w' ∧ Grown W w' := by
  obtain ⟨v, hS, h1, h2, h3, h4, h5⟩ := id h
  refine (peek_low W0.heap.size p v L i hi W hS).mono ?_
  rintro e w' ⟨rfl, g⟩
  exact ⟨rfl, h.grown g, g⟩
theorem stk_peek_under (i : Int) (hi0 : 0 ≤ i) (hi : (L.length : Int) ≤ i) :
    Calls Try.prog 51 #[.pointer (some ⟨p, 0, none⟩), .int .i64 i] W fun e w' => e = .returned (.tuple #[obv 0 false 0 0 0 ⟨#[]⟩, .int .i64 7]) ∧ Stk W0 Pr p L w' ∧ Grown W w' := by
  obtain ⟨v, hS, h1, h2, h3, h4, h5⟩ := id h
  refine (peek_under W0.heap.size p v L i hi0 hi W hS).mono ?_
  rintro e w' ⟨rfl, g⟩
  exact ⟨rfl, h.grown g, g⟩
theorem stk_pop (A : List Pl.Ob) (o : Pl.Ob) (hL : L = A ++ [o]) (hlen : A.length ≤ 299) :
    Calls Try.prog 71 #[.pointer (some ⟨p, 0, none⟩)] W fun e w' => e = .returned (.tuple #[Pl.ov o, .int .i64 0]) ∧ Stk W0 Pr p A w' ∧ FrS W0 Pr W w' := by
  subst hL
  obtain ⟨v, hS, h1, h2, h3, h4, h5⟩ := id h
  refine (pop_ok W0.heap.size p v A o.1 o.2.1 o.2.2.1 o.2.2.2.1 o.2.2.2.2.1 o.2.2.2.2.2 hlen W hS).mono ?_
  rintro e w' ⟨rfl, ⟨v', hS', hv'⟩, hF⟩
  exact ⟨rfl, stk_step hS h1 h2 h3 h4 h5 hS' (fun g q => .inl (by rw [← hv']; exact q)) (hF.weaken (fun c q => .inl q))⟩
theorem stk_pop_none (hL : L = []) :
    Calls Try.prog 71 #[.pointer (some ⟨p, 0, none⟩)] W fun e w' => e = .returned (.tuple #[obv 0 false 0 0 0 ⟨#[]⟩, .int .i64 7]) ∧ Stk W0 Pr p L w' ∧ Grown W w' := by
  subst hL
  obtain ⟨v, hS, h1, h2, h3, h4, h5⟩ := id h
  refine (pop_none W0.heap.size p v W hS).mono ?_
  rintro e w' ⟨rfl, g⟩
  exact ⟨rfl, h.grown g, g⟩
theorem stk_roll (n : Nat) (j : Int) (hn : n ≤ L.length) (hlen : L.length ≤ 300) :
    Calls Try.prog 53 #[.pointer (some ⟨p, 0, none⟩), .int .i64 (n : Int), .int .i64 j] W fun e w' => e = .returned (.int .i64 0) ∧ Stk W0 Pr p (Pl.rot L n j) w' ∧ FrS W0 Pr W w' := by
  obtain ⟨v, hS, h1, h2, h3, h4, h5⟩ := h
  refine (roll_ok W0.heap.size p v L n j hn hlen W hS).mono ?_
  rintro e w' ⟨rfl, hS', hF⟩
  exact ⟨rfl, stk_step hS h1 h2 h3 h4 h5 hS' (fun g q => .inl q) (hF.weaken (fun c q => .inr q))⟩
theorem stk_roll_low (n j : Int) (hn : n < 0) :
    Calls Try.prog 53 #[.pointer (some ⟨p, 0, none⟩), .int .i64 n, .int .i64 j] W fun e w' => e = .returned (.int .i64 2) ∧ Stk W0 Pr p L w' ∧ Grown W w' := by
  obtain ⟨v, hS, h1, h2, h3, h4, h5⟩ := id h
  refine (roll_low W0.heap.size p v L n hn j W hS).mono ?_
  rintro e w' ⟨rfl, g⟩
  exact ⟨rfl, h.grown g, g⟩
theorem stk_roll_under (n j : Int) (hn : (L.length : Int) < n) :
    Calls Try.prog 53 #[.pointer (some ⟨p, 0, none⟩), .int .i64 n, .int .i64 j] W fun e w' => e = .returned (.int .i64 7) ∧ Stk W0 Pr p L w' ∧ Grown W w' := by
  obtain ⟨v, hS, h1, h2, h3, h4, h5⟩ := id h
  refine (roll_under W0.heap.size p v L n hn j W hS).mono ?_
  rintro e w' ⟨rfl, g⟩
  exact ⟨rfl, h.grown g, g⟩
theorem stk_tomark (hlen : L.length ≤ 300) :
    Calls Try.prog 56 #[.pointer (some ⟨p, 0, none⟩)] W fun e w' => e = .returned (.tuple #[.int .i64 (Pl.toMark L).1, .int .i64 (Pl.toMark L).2]) ∧ Stk W0 Pr p L w' ∧ Grown W w' := by
  obtain ⟨v, hS, h1, h2, h3, h4, h5⟩ := id h
  refine (tomark_any W0.heap.size p v L hlen W hS).mono ?_
  rintro e w' ⟨rfl, g⟩
  exact ⟨rfl, h.grown g, g⟩
theorem stk_clear :
    Calls Try.prog 54 #[.pointer (some ⟨p, 0, none⟩)] W fun e w' => e = .returned (.tuple #[]) ∧ Stk W0 Pr p [] w' ∧ FrS W0 Pr W w' := by
  obtain ⟨v, hS, h1, h2, h3, h4, h5⟩ := id h
  refine (clear_any W0.heap.size p v L W hS).mono ?_
  rintro e w' ⟨rfl, hS', hF⟩
  exact ⟨rfl, stk_step hS h1 h2 h3 h4 h5 hS' (fun g q => by simp [Value.ownBlock] at q) (hF.weaken (fun c q => .inl q))⟩
theorem stk_items (hlen : L.length ≤ 300) :
    Calls Try.prog 21 #[.pointer (some ⟨p, 0, none⟩)] W fun e w' => ∃ vi, e = .returned vi ∧ RowP (fun c => Pr c ∨ vi.ownBlock = some c) w' vi L ∧ Stk W0 (fun c => Pr c ∨ vi.ownBlock = some c) p L w' ∧ FrS W0 Pr W w' ∧ OwnForm vi L.length := by
  obtain ⟨v, hS, h1, h2, h3, h4, h5⟩ := id h
  refine (items_any W0.heap.size p v L hlen W hS).mono ?_
  rintro e w' ⟨vi, rfl, hown, hF⟩
  have hl := own_lt hown
  have hb := own_base hown
  refine ⟨vi, rfl, ⟨own_row hown, ?_⟩, h.protect hF ?_ ?_, hF.weaken (fun c f => f.elim), own_form hown⟩
  · intro ao m c hv a ha hL
    refine .inr ?_
    rcases hown.2 with ⟨hv0, h0⟩ | ⟨g, cap, cur, hv0, _⟩
    · exact absurd (List.eq_nil_of_length_eq_zero h0) hL
    · rw [hv0] at hv
      injection hv with q1 q2 q3
      rw [ha] at q1
      injection q1 with q1
      rw [hv0, ← q1]
      rfl
  · rintro c (q | q) hc
    · exact q
    · have := hb c q
      omega
  · rintro c (q | q)
    · exact Nat.lt_of_lt_of_le (h5 c q) hF.2.2.1
    · exact hl c q
theorem stk_become (v1 : Value) (A : List Pl.Ob) (hR : RowV W v1 A) (hall : ∀ (j : Nat) (o : Pl.Ob), A[j]? = some o → Pl.mayO o) (hlen : A.length ≤ 200) :
    Calls Try.prog 20 #[.pointer (some ⟨p, 0, none⟩), v1] W fun e w' => e = .returned (.int .i64 0) ∧ Stk W0 Pr p A w' ∧ FrS W0 Pr W w' := by
  obtain ⟨v, hS, h1, h2, h3, h4, h5⟩ := id h
  refine (become_ok W0.heap.size p v1 v A hlen hall W hR hS.1 hS.2.1 hS.2.2.2.2 h2.2.2).mono ?_
  rintro e w' ⟨rfl, ⟨v', hS', hv'⟩, hF⟩
  exact ⟨rfl, stk_step hS h1 h2 h3 h4 h5 hS' (fun g q => .inr (hv' g q)) (hF.weaken (fun c q => .inl q))⟩
theorem stk_become_over (v1 : Value) (A : List Pl.Ob) (hR : RowV W v1 A) (hall : ∀ (j : Nat) (o : Pl.Ob), A[j]? = some o → Pl.mayO o) (hlen : 200 < A.length ∧ A.length ≤ 400) :
    Calls Try.prog 20 #[.pointer (some ⟨p, 0, none⟩), v1] W fun e w' => e = .returned (.int .i64 8) ∧ Stk W0 Pr p L w' ∧ Grown W w' := by
  obtain ⟨v, hS, h1, h2, h3, h4, h5⟩ := id h
  refine (become_over W0.heap.size p v1 v A hlen hall W hR hS.1 hS.2.1 hS.2.2.2.2 h2.2.2).mono ?_
  rintro e w' ⟨rfl, g⟩
  exact ⟨rfl, h.grown g, g⟩
theorem stk_become_bad (v1 : Value) (A : List Pl.Ob) (hR : RowV W v1 A) (hlen : A.length ≤ 300) (j : Nat) (o : Pl.Ob) (hj : A[j]? = some o) (ho : ¬ Pl.mayO o) :
    Calls Try.prog 20 #[.pointer (some ⟨p, 0, none⟩), v1] W fun e w' => e = .returned (.int .i64 1) ∧ Stk W0 Pr p L w' ∧ Grown W w' := by
  refine (become_bad p v1 A hlen j o hj ho W hR).mono ?_
  rintro e w' ⟨rfl, g⟩
  exact ⟨rfl, h.grown g, g⟩
end
end Go.Proofs.Ytfmmomdmemcbbaa

namespace Go.Proofs.Ytfmmomdmemcbbaa
set_option linter.unusedVariables false
open Go.RowKit

def Pl.io (n : Int) : Pl.Ob := (3, false, n, 0, 0, ⟨#[]⟩)
theorem Pl.io_may (n : Int) (h : -2147483647 ≤ n ∧ n ≤ 2147483647) : Pl.mayO (Pl.io n) := .inr (.inr (.inr ⟨⟨rfl, rfl, rfl⟩, .inr (.inl ⟨rfl, h⟩)⟩))
/-- whole numbers from b on -/
def Pl.nums (b : Int) (k : Nat) : List Pl.Ob := (List.range k).map (fun (i : Nat) => Pl.io (b + (i : Int)))
theorem Pl.nums_len (b : Int) (k : Nat) : (Pl.nums b k).length = k := by simp [Pl.nums]
theorem Pl.nums_succ (b : Int) (k : Nat) : Pl.nums b (k + 1) = Pl.nums b k ++ [Pl.io (b + (k : Int))] := by simp [Pl.nums, List.range_succ]
theorem Pl.known_at : (Pl.rot (Pl.nums 1 3) 3 1).reverse[2]? = some (Pl.io 3) := by rfl

end Go.Proofs.Ytfmmomdmemcbbaa

namespace Go.Proofs.Ytfmmomdmemcbbaa
set_option linter.unusedVariables false
open Go.RowKit

def Pl.nul : Pl.Ob := (1, false, 0, 0, 0, ⟨#[]⟩)
theorem Pl.nul_may : Pl.mayO Pl.nul := .inl ⟨.inl rfl, rfl, rfl, rfl, rfl⟩
def Pl.zer : Pl.Ob := (0, false, 0, 0, 0, ⟨#[]⟩)
theorem Pl.zer_may : ¬ Pl.mayO Pl.zer := by
  unfold Pl.mayO Pl.may Pl.zer
  simp

theorem make_one (w : World) : (Instr.makeSlice 26 (.int .i64 1) (.int .i64 1)).run Try.prog w = .ok (.slice (some ⟨w.heap.size, 0, none⟩) 1 1) (w.alloc (.cells #[.int .i64 0, .bool false, .int .i64 0, .int .i64 0, .int .i64 0, .string ⟨#[]⟩] 24)) := by
  obtain ⟨i0, hi, hz0, hz1, hz2⟩ := info_parts Try.objInfo
  have h := run_make (P := Try.prog) w 26 24 i0 _ Try.underlying26 hi hz0 .i64 .i64 1 1 (by omega) (by omega) (by rw [hz2]; omega) (by omega)
  rw [hz1] at h
  have hm : madeCells (obv 0 false 0 0 0 ⟨#[]⟩).cells 6 = #[.int .i64 0, .bool false, .int .i64 0, .int .i64 0, .int .i64 0, .string ⟨#[]⟩] := by
    apply Array.ext_getElem?
    intro j
    rcases Nat.lt_or_ge j 6 with hj | hj
    · rcases (show j = 0 ∨ j = 1 ∨ j = 2 ∨ j = 3 ∨ j = 4 ∨ j = 5 by omega) with rfl | rfl | rfl | rfl | rfl | rfl <;> simp [madeCells, Value.cells]
    · rw [Array.getElem?_eq_none (by rw [size_madeCells]; exact hj), Array.getElem?_eq_none (by exact hj)]
  rw [show (1 : Int).toNat * 6 = 6 from rfl, hm] at h
  exact h
theorem one_row (w : World) (A : Array Value) (o : Pl.Ob) (hA : A.toList = Pl.oc o) : RowV (w.alloc (.cells A 24)) (.slice (some ⟨w.heap.size, 0, none⟩) 1 1) [o] := by
  refine ⟨_, 1, rfl, .inr ⟨w.heap.size, 0, rfl, by simp, fun j u hu => ?_⟩⟩
  have := alloc_cell w A 24 j u (by rw [hA]; simpa [Pl.flat] using hu)
  rw [show (⟨w.heap.size, 0, none⟩ : Addr).add j = ⟨w.heap.size, 0 + j, none⟩ from by simp [Addr.add]; intro h; exact h.symm] at this
  exact this

end Go.Proofs.Ytfmmomdmemcbbaa

namespace Go.Proofs.Ytfmmomdmemcbbaa
set_option linter.unusedVariables false
open Go.RowKit

theorem Pl.rot_split (A D : List Pl.Ob) (k : Nat) (hD : D.length = k) (j : Int) : Pl.rot (A ++ D) k j = A ++ (D.drop (k - (j % (k : Int)).toNat) ++ D.take (k - (j % (k : Int)).toNat)) := by
  have hl : (A ++ D).length - k = A.length := by rw [List.length_append]; omega
  rw [Pl.rot, hl, List.take_left, List.drop_left]
/-- there and back -/
theorem Pl.rot_back (L : List Pl.Ob) (k : Nat) (hk : k ≤ L.length) (j : Int) : Pl.rot (Pl.rot L k j) k (-j) = L := by
  obtain ⟨A, D, rfl, hD⟩ : ∃ A D, L = A ++ D ∧ D.length = k := ⟨L.take (L.length - k), L.drop (L.length - k), (List.take_append_drop _ _).symm, by rw [List.length_drop]; omega⟩
  rcases Nat.eq_zero_or_pos k with rfl | hpos
  · rw [Pl.rot_zero, Pl.rot_zero]
  have hr0 := Int.emod_nonneg j (show (k : Int) ≠ 0 by omega)
  have hr1 := Int.emod_lt_of_pos j (show (0 : Int) < k by omega)
  obtain ⟨r, hr⟩ : ∃ r : Nat, j % (k : Int) = (r : Int) := ⟨(j % (k : Int)).toNat, by omega⟩
  have hrk : r < k := by omega
  rw [Pl.rot_split A D k hD j, hr, Int.toNat_natCast, Pl.rot_split _ _ k (by simp [hD])]
  congr 1
  have hn : (-j) % (k : Int) = ((if r = 0 then 0 else k - r : Nat) : Int) := by
    have h1 : (-j) % (k : Int) = (-(r : Int)) % (k : Int) := by
      rw [← hr]
      conv => lhs; rw [← Int.emod_add_mul_ediv j k]
      rw [Int.neg_add, ← Int.mul_neg, Int.add_mul_emod_self_left]
    rw [h1]
    by_cases h0 : r = 0
    · subst h0; simp
    · rw [if_neg h0, ← Int.add_emod_right, Int.emod_eq_of_lt (by omega) (by omega)]
      omega
  rw [hn, Int.toNat_natCast]
  by_cases h0 : r = 0
  · subst h0
    simp [← hD]
  · have h2 : k - (k - r) = r := by omega
    rw [if_neg h0, h2, List.drop_left' (by rw [List.length_drop]; omega), List.take_left' (by rw [List.length_drop]; omega), List.take_append_drop]
/-- all the way round -/
theorem Pl.rot_whole (L : List Pl.Ob) (k : Nat) (hk : k ≤ L.length) (c : Int) : Pl.rot L k (c * (k : Int)) = L := by
  obtain ⟨A, D, rfl, hD⟩ : ∃ A D, L = A ++ D ∧ D.length = k := ⟨L.take (L.length - k), L.drop (L.length - k), (List.take_append_drop _ _).symm, by rw [List.length_drop]; omega⟩
  rw [Pl.rot_split A D k hD, Int.mul_emod_left]
  simp [← hD]
theorem Pl.nums_at (b : Int) (k i : Nat) (hi : i < k) : (Pl.nums b k)[i]? = some (Pl.io (b + (i : Int))) := by
  rw [Pl.nums, List.getElem?_map, List.getElem?_range hi]
  rfl
theorem Pl.app_at (A D : List Pl.Ob) (x : Nat) : (A ++ D)[A.length + x]? = D[x]? := by
  rw [List.getElem?_append_right (by omega), Nat.add_sub_cancel_left]
/-- each goes by so many places -/
theorem Pl.rot_at (L : List Pl.Ob) (k : Nat) (hk : k ≤ L.length) (j : Int) (i : Nat) (hi : i < L.length) :
    (Pl.rot L k j)[i]? = L[if i < L.length - k then i else L.length - k + (((i : Int) - ((L.length - k : Nat) : Int) - j) % (k : Int)).toNat]? := by
  obtain ⟨A, D, rfl, hD⟩ : ∃ A D, L = A ++ D ∧ D.length = k := ⟨L.take (L.length - k), L.drop (L.length - k), (List.take_append_drop _ _).symm, by rw [List.length_drop]; omega⟩
  have hl : (A ++ D).length - k = A.length := by rw [List.length_append]; omega
  rw [Pl.rot_split A D k hD, hl]
  by_cases h : i < A.length
  · rw [if_pos h, List.getElem?_append_left h, List.getElem?_append_left h]
  · rw [if_neg h]
    rw [List.length_append] at hi
    obtain ⟨i', rfl⟩ : ∃ i', i = A.length + i' := ⟨i - A.length, by omega⟩
    rw [Pl.app_at, Pl.app_at]
    have hr0 := Int.emod_nonneg j (show (k : Int) ≠ 0 by omega)
    have hr1 := Int.emod_lt_of_pos j (show (0 : Int) < k by omega)
    obtain ⟨r, hr⟩ : ∃ r : Nat, j % (k : Int) = (r : Int) := ⟨(j % (k : Int)).toNat, by omega⟩
    have hrk : r < k := by omega
    have hm : (((A.length + i' : Nat) : Int) - (A.length : Int) - j) % (k : Int) = ((if i' < r then i' + k - r else i' - r : Nat) : Int) := by
      have h1 : (((A.length + i' : Nat) : Int) - (A.length : Int) - j) % (k : Int) = ((i' : Int) - (r : Int)) % (k : Int) := by
        have e1 : (((A.length + i' : Nat) : Int) - (A.length : Int) - j) = ((i' : Int) - (r : Int)) + (k : Int) * (-(j / (k : Int))) := by
          have := Int.emod_add_mul_ediv j k
          rw [Int.mul_neg, ← hr]
          omega
        rw [e1, Int.add_mul_emod_self_left]
      rw [h1]
      by_cases h0 : i' < r
      · rw [if_pos h0, ← Int.add_emod_right, Int.emod_eq_of_lt (by omega) (by omega)]
        omega
      · rw [if_neg h0, Int.emod_eq_of_lt (by omega) (by omega)]
        omega
    rw [hm, hr, Int.toNat_natCast, Int.toNat_natCast]
    by_cases h0 : i' < r
    · rw [if_pos h0, List.getElem?_append_left (by rw [List.length_drop]; omega), List.getElem?_drop]
      congr 1; omega
    · rw [if_neg h0, List.getElem?_append_right (by rw [List.length_drop]; omega), List.length_drop, List.getElem?_take_of_lt (by omega)]
      congr 1; omega
end Go.Proofs.Ytfmmomdmemcbbaa

namespace Go.Proofs.Ytfmmomdmemcbbaa.Pl
set_option linter.unusedVariables false

/-- how far a number lies from 0 -/
def mag (v : Int) : Int := if v < 0 then -v else v
theorem mag_nn (v : Int) : 0 ≤ mag v := by unfold mag; split <;> omega
theorem mag_le (v : Int) (h0 : -9223372036854775808 ≤ v) (h1 : v ≤ 9223372036854775807) : mag v ≤ 9223372036854775808 := by unfold mag; split <;> omega

theorem prod_parts (a b mid : Int)
    (hm : mid = (a % 4294967296) * (b % 4294967296) / 4294967296 + (a / 4294967296) * (b % 4294967296) % 4294967296 + (a % 4294967296) * (b / 4294967296) % 4294967296) :
    (a / 4294967296) * (b / 4294967296) + (a / 4294967296) * (b % 4294967296) / 4294967296 + (a % 4294967296) * (b / 4294967296) / 4294967296 + mid / 4294967296 = a * b / 18446744073709551616
    ∧ mid % 4294967296 * 4294967296 + (a % 4294967296) * (b % 4294967296) % 4294967296 = a * b % 18446744073709551616 := by
  have e : a * b = (a / 4294967296) * (b / 4294967296) * 18446744073709551616 + ((a / 4294967296) * (b % 4294967296) + (a % 4294967296) * (b / 4294967296)) * 4294967296 + (a % 4294967296) * (b % 4294967296) := by
    have h1 : a = 4294967296 * (a / 4294967296) + a % 4294967296 := (Int.mul_ediv_add_emod a 4294967296).symm
    have h2 : b = 4294967296 * (b / 4294967296) + b % 4294967296 := (Int.mul_ediv_add_emod b 4294967296).symm
    generalize a / 4294967296 = x at *
    generalize a % 4294967296 = y at *
    generalize b / 4294967296 = z at *
    generalize b % 4294967296 = u at *
    rw [h1, h2]
    rw [Int.add_mul, Int.mul_add, Int.mul_add]
    have g1 : 4294967296 * x * (4294967296 * z) = 18446744073709551616 * (x * z) := by
      rw [Int.mul_assoc, ← Int.mul_assoc x, Int.mul_comm x 4294967296, Int.mul_assoc 4294967296 x z, ← Int.mul_assoc]; rfl
    have g2 : 4294967296 * x * u = 4294967296 * (x * u) := Int.mul_assoc _ _ _
    have g3 : y * (4294967296 * z) = 4294967296 * (y * z) := by rw [← Int.mul_assoc, Int.mul_comm y, Int.mul_assoc]
    rw [g1, g2, g3]
    omega
  rw [e, hm]
  generalize (a / 4294967296) * (b / 4294967296) = p3
  generalize (a / 4294967296) * (b % 4294967296) = p1
  generalize (a % 4294967296) * (b / 4294967296) = p2
  generalize (a % 4294967296) * (b % 4294967296) = p0
  omega

theorem mul_lt32 (x y : Int) (hx : 0 ≤ x) (hx' : x < 4294967296) (hy : 0 ≤ y) (hy' : y < 4294967296) : 0 ≤ x * y ∧ x * y ≤ 18446744065119617025 := by
  refine ⟨Int.mul_nonneg hx hy, ?_⟩
  have h1 : x * y ≤ 4294967295 * y := Int.mul_le_mul_of_nonneg_right (by omega) hy
  omega

theorem mag_pos {v : Int} (h : 0 ≤ v) : mag v = v := by unfold mag; rw [if_neg (by omega)]
theorem mag_neg {v : Int} (h : v < 0) : mag v = -v := by unfold mag; rw [if_pos h]

theorem mul_le126 (A B : Int) (a0 : 0 ≤ A) (a1 : A ≤ 9223372036854775808) (b0 : 0 ≤ B) (b1 : B ≤ 9223372036854775808) : 0 ≤ A * B ∧ A * B ≤ 85070591730234615865843651857942052864 := by
  refine ⟨Int.mul_nonneg a0 b0, ?_⟩
  have h1 : A * B ≤ 9223372036854775808 * B := Int.mul_le_mul_of_nonneg_right a1 b0
  omega
/-- a product of two numbers lies from -2^126 to 2^126 -/
theorem mul_bd (a b : Int) (ha : -9223372036854775808 ≤ a ∧ a ≤ 9223372036854775807) (hb : -9223372036854775808 ≤ b ∧ b ≤ 9223372036854775807) :
    -85070591730234615865843651857942052864 ≤ a * b ∧ a * b ≤ 85070591730234615865843651857942052864 := by
  have h := mul_le126 (mag a) (mag b) (mag_nn a) (mag_le a ha.1 ha.2) (mag_nn b) (mag_le b hb.1 hb.2)
  by_cases sa : a < 0 <;> by_cases sb : b < 0
  · rw [mag_neg sa, mag_neg sb, Int.neg_mul_neg] at h; omega
  · rw [mag_neg sa, mag_pos (by omega), Int.neg_mul] at h; omega
  · rw [mag_pos (by omega), mag_neg sb, Int.mul_neg] at h; omega
  · rw [mag_pos (by omega), mag_pos (by omega)] at h; omega
/-- of which sign a product is, compared with another -/
def cmp (x y : Int) : Int := if x < y then -1 else if x = y then 0 else 1

/-- one bit more of a number: the share grows by it -/
theorem bit_step (P : Int) (m : Nat) (hm : m ≤ 63) : P / 2 ^ m = 2 * (P / 2 ^ (m + 1)) + P % 18446744073709551616 / 2 ^ m % 2 := by
  have hp : (0 : Int) < 2 ^ m := Int.pow_pos (by decide)
  have e1 : P / 2 ^ (m + 1) = P / 2 ^ m / 2 := by
    rw [Int.pow_succ, Int.ediv_ediv_of_nonneg (by omega)]
  have e2 : P % 18446744073709551616 / 2 ^ m % 2 = P / 2 ^ m % 2 := by
    have e3 : (18446744073709551616 : Int) = 2 ^ m * 2 ^ (64 - m) := by
      rw [← Int.pow_add, show m + (64 - m) = 64 by omega]; decide
    have e4 : (2 : Int) ^ (64 - m) = 2 * 2 ^ (63 - m) := by
      rw [show 64 - m = (63 - m) + 1 by omega, Int.pow_succ]; omega
    have h1 : P % 18446744073709551616 = P - 2 ^ m * (2 * 2 ^ (63 - m) * (P / 18446744073709551616)) := by
      have := Int.emod_def P 18446744073709551616
      rw [this]
      conv => lhs; rhs; lhs; rw [e3, e4]
      rw [Int.mul_assoc]
    rw [h1, Int.sub_eq_add_neg, ← Int.mul_neg, Int.add_mul_ediv_left _ _ (by omega)]
    generalize P / 2 ^ m = x
    rw [Int.mul_assoc, ← Int.mul_neg]
    omega
  rw [e1, e2]
  omega

/-- a share that fits, bit by bit: what has come so far fits -/
theorem share_lt (P D Q R : Int) (m : Nat) (hQ : 0 ≤ Q) (hR : 0 ≤ R) (h : P / 2 ^ m = Q * D + R) (hD : 0 < D) (hlt : P / 18446744073709551616 < D) : Q * 2 ^ m < 18446744073709551616 := by
  have hp : (0 : Int) < 2 ^ m := Int.pow_pos (by decide)
  have h1 : P < D * 18446744073709551616 := by omega
  have h2 : 2 ^ m * (P / 2 ^ m) ≤ P := Int.mul_ediv_self_le (by omega)
  have h3 : Q * 2 ^ m * D ≤ P := by
    have : 2 ^ m * (Q * D) ≤ 2 ^ m * (P / 2 ^ m) := Int.mul_le_mul_of_nonneg_left (by omega) (by omega)
    have e : Q * 2 ^ m * D = 2 ^ m * (Q * D) := by rw [Int.mul_comm Q, Int.mul_assoc]
    omega
  have h4 : Q * 2 ^ m * D < 18446744073709551616 * D := by omega
  exact Int.lt_of_mul_lt_mul_right h4 (by omega)
theorem pow_lt64 (m : Nat) (hm : m ≤ 63) : (0 : Int) < 2 ^ m ∧ (2 : Int) ^ m ≤ 9223372036854775808 := by
  have := Nat.pow_le_pow_right (n := 2) (by decide) hm
  have h : (2 : Int) ^ m ≤ 2 ^ 63 := by exact_mod_cast this
  have e : (2 : Int) ^ 63 = 9223372036854775808 := by decide
  exact ⟨Int.pow_pos (by decide), by omega⟩

/-- is a * b / d below 0? -/
def sgn3 (a b d : Int) : Bool := (decide (a < 0) != decide (b < 0)) != decide (d < 0)
/-- the nearest whole number to N / D, of two the even one -/
def near (N D : Int) : Int := if D - N % D < N % D ∨ (N % D = D - N % D ∧ N / D % 2 = 1) then N / D + 1 else N / D
/-- the share of a * b by d, as near as can be -/
def share (a b d : Int) : Int := if sgn3 a b d = true then -near (mag a * mag b) (mag d) else near (mag a * mag b) (mag d)
def i64 (v : Int) : Prop := -9223372036854775808 ≤ v ∧ v ≤ 9223372036854775807
instance (v : Int) : Decidable (i64 v) := by unfold i64; exact inferInstance

theorem near_bd (N D : Int) (hN : 0 ≤ N) (hD : 0 < D) : N / D ≤ near N D ∧ near N D ≤ N / D + 1 ∧ 0 ≤ N / D := by
  have : 0 ≤ N / D := Int.ediv_nonneg hN (by omega)
  unfold near
  split <;> omega
/-- a share that fits is found -/
theorem share_fits (a b d : Int) (ha : i64 a) (hb : i64 b) (hd : i64 d) (h0 : d ≠ 0) (h : i64 (share a b d)) : mag a * mag b / 18446744073709551616 < mag d := by
  have hN : 0 ≤ mag a * mag b := Int.mul_nonneg (mag_nn a) (mag_nn b)
  have hD : 0 < mag d := by unfold mag; split <;> omega
  have hn := near_bd _ _ hN hD
  unfold i64 share at h
  have hq : mag a * mag b / mag d < 18446744073709551616 := by split at h <;> omega
  have h1 : mag a * mag b < 18446744073709551616 * mag d := (Int.ediv_lt_iff_lt_mul hD).1 hq
  omega
theorem mag_lt (d : Int) (h0 : d ≠ 0) : 0 < mag d := by unfold mag; split <;> omega

/-- the size of the floor of a share -/
def flm (N D : Int) (s : Bool) : Int := if s = true ∧ 0 < N % D then N / D + 1 else N / D
/-- the greatest whole number that isn't above a * b / d -/
def flo (a b d : Int) : Int := if sgn3 a b d = true then -flm (mag a * mag b) (mag d) (sgn3 a b d) else flm (mag a * mag b) (mag d) (sgn3 a b d)
theorem flm_bd (N D : Int) (s : Bool) (hN : 0 ≤ N) (hD : 0 < D) : N / D ≤ flm N D s ∧ flm N D s ≤ N / D + 1 ∧ 0 ≤ N / D := by
  have : 0 ≤ N / D := Int.ediv_nonneg hN (by omega)
  unfold flm
  split <;> omega
theorem flo_fits (a b d : Int) (ha : i64 a) (hb : i64 b) (hd : i64 d) (h0 : d ≠ 0) (h : i64 (flo a b d)) : mag a * mag b / 18446744073709551616 < mag d := by
  have hN : 0 ≤ mag a * mag b := Int.mul_nonneg (mag_nn a) (mag_nn b)
  have hD : 0 < mag d := mag_lt d h0
  have hn := flm_bd _ _ (sgn3 a b d) hN hD
  unfold i64 flo at h
  have hq : mag a * mag b / mag d < 18446744073709551616 := by split at h <;> omega
  have h1 : mag a * mag b < 18446744073709551616 * mag d := (Int.ediv_lt_iff_lt_mul hD).1 hq
  omega
end Go.Proofs.Ytfmmomdmemcbbaa.Pl

namespace Go.Proofs.Ytfmmomdmemcbbaa.Pl
set_option linter.unusedVariables false

/-- is it a fix that may be? -/
def fx (a : Int) : Prop := -1073741823 ≤ a ∧ a ≤ 1073741823
instance (v : Int) : Decidable (fx v) := by unfold fx; exact inferInstance

/-- the nearest one that may be -/
def clamp (a : Int) : Int := if a < -1073741823 then -1073741823 else if 1073741823 < a then 1073741823 else a
theorem clamp_fx {a : Int} (h : fx a) : clamp a = a := by unfold fx at h; unfold clamp; rw [if_neg (by omega), if_neg (by omega)]
theorem clamp_bd (a : Int) : -1073741823 ≤ clamp a ∧ clamp a ≤ 1073741823 := by unfold clamp; (repeat' split) <;> omega
def fwhole (a : Int) : Int := clamp a / 65536
def ffloor (a : Int) : Int := clamp a / 65536 * 65536
def fceil (a : Int) : Int := -(-clamp a / 65536 * 65536)
def fround (a : Int) : Int := if 32768 < clamp a - ffloor a ∨ (clamp a - ffloor a = 32768 ∧ fwhole a % 2 = 1) then ffloor a + 65536 else ffloor a
def ftrunc (a : Int) : Int := if a < 0 then fceil a else ffloor a

/-- Go's remainder, made one from 0 on -/
theorem place_eq (v n : Int) (hn : 0 < n) : (if v.tmod n < 0 then v.tmod n + n else v.tmod n) = v % n := by
  by_cases hv : 0 ≤ v
  · rw [if_neg (by have := Int.tmod_nonneg n hv; omega), Int.tmod_eq_emod_of_nonneg hv]
  · have h3 : v.tmod n = -((-v) % n) := by
      rw [← Int.neg_neg v, Int.neg_tmod, Int.tmod_eq_emod_of_nonneg (by omega)]; simp
    have h1 := Int.emod_nonneg (-v) (show n ≠ 0 by omega)
    have h2 := Int.emod_lt_of_pos (-v) hn
    by_cases e : (-v) % n = 0
    · rw [h3, e]
      simp
      have := Int.dvd_of_emod_eq_zero e
      exact (Int.emod_eq_zero_of_dvd ((Int.dvd_neg).1 this)).symm
    · rw [if_pos (by omega), h3]
      rw [Int.neg_emod] at e ⊢
      by_cases hd : n ∣ v
      · rw [if_pos hd] at e; exact absurd rfl e
      · rw [if_neg hd]
        have hnn : (n.natAbs : Int) = n := by omega
        omega
end Go.Proofs.Ytfmmomdmemcbbaa.Pl

namespace Go.Proofs.Ytfmmomdmemcbbaa
set_option linter.unusedVariables false
open Go.RowKit

namespace Pl
theorem tmod_bd14 (x m : Int) (hm : 0 < m) : -m < x.tmod m ∧ x.tmod m < m := by
  by_cases h : 0 ≤ x
  · have h1 := Int.tmod_nonneg m h
    have h2 := Int.tmod_lt_of_pos x hm
    omega
  · have h1 := Int.tmod_nonneg m (show 0 ≤ -x by omega)
    have h2 := Int.tmod_lt_of_pos (-x) hm
    rw [Int.neg_tmod] at h1 h2
    omega
end Pl
theorem RowP.also {Pr : Nat → Prop} {W : World} {v : Value} {L : List Pl.Ob} (h : RowP Pr W v L) (x : Value) : RowP (fun c => Pr c ∨ x.ownBlock = some c) W v L := h.weaken (fun c q => .inl q)

end Go.Proofs.Ytfmmomdmemcbbaa

namespace Go.Proofs.Ytfmmomdmemcbbaa
set_option linter.unusedVariables false
open Go.RowKit

theorem RowV.take {W : World} {g o m cap : Nat} {A B : List Pl.Ob} (h : RowV W (.slice (some ⟨g, o, none⟩) m cap) (A ++ B)) (cap' : Nat) : RowV W (.slice (some ⟨g, o, none⟩) A.length cap') A := by
  obtain ⟨ao, c, hv, h⟩ := h
  injection hv with q1 q2 q3
  refine ⟨_, cap', rfl, ?_⟩
  rcases h with h | ⟨g2, o2, hq, hg, h⟩
  · exact .inl (List.append_eq_nil_iff.1 h).1
  · rw [hq] at q1
    injection q1 with q1
    injection q1 with q1 q4 q5
    subst q1
    subst q4
    refine .inr ⟨g, o, rfl, hg, fun j u hu => h j u ?_⟩
    rw [Pl.flat_append, List.getElem?_append_left (List.getElem?_eq_some_iff.1 hu).1]
    exact hu
theorem RowV.drop {W : World} {g o m cap : Nat} {A B : List Pl.Ob} (h : RowV W (.slice (some ⟨g, o, none⟩) m cap) (A ++ B)) (cap' : Nat) (ao : Option Addr) (ha : B ≠ [] → ao = some ⟨g, o + A.length * 6, none⟩) : RowV W (.slice ao B.length cap') B := by
  obtain ⟨ao2, c, hv, h⟩ := h
  injection hv with q1 q2 q3
  refine ⟨_, cap', rfl, ?_⟩
  by_cases hB : B = []
  · exact .inl hB
  rcases h with h | ⟨g2, o2, hq, hg, h⟩
  · exact .inl (List.append_eq_nil_iff.1 h).2
  · rw [hq] at q1
    injection q1 with q1
    injection q1 with q1 q4 q5
    subst q1
    subst q4
    refine .inr ⟨g, _, ha hB, hg, fun j u hu => ?_⟩
    have := h (A.length * 6 + j) u (by rw [Pl.flat_append, List.getElem?_append_right (by rw [Pl.flat_len]; omega), Pl.flat_len, Nat.add_sub_cancel_left]; exact hu)
    rwa [← Nat.add_assoc] at this

end Go.Proofs.Ytfmmomdmemcbbaa

namespace Go.Proofs.Ytfmmomdmemcbbaa
set_option linter.unusedVariables false
open Go.RowKit

end Go.Proofs.Ytfmmomdmemcbbaa

namespace Go.Proofs.Ytfmmomdmemcbbaa
set_option linter.unusedVariables false
open Go.RowKit

end Go.Proofs.Ytfmmomdmemcbbaa

namespace Go.Proofs.Ytfmmomdmemcbbaa
set_option linter.unusedVariables false
open Go.RowKit

/-- a slice of bools of the caller's -/
def RowB (W : World) (v : Value) (bs : List Bool) : Prop :=
  ∃ ao cap, v = .slice ao bs.length cap ∧ bs.length ≤ maxLen ∧ (bs = [] ∨ ∃ g o, ao = some ⟨g, o, none⟩ ∧ g < W.heap.size ∧ ∀ i b, bs[i]? = some b → W.cell? ⟨g, o + i, none⟩ = some (.bool b))
def Pl.mkO (b : Bool) : Pl.Ob := (if b then 6 else 1, false, 0, 0, 0, ⟨#[]⟩)
theorem Pl.mkO_may (b : Bool) : Pl.mayO (Pl.mkO b) := .inl ⟨by cases b <;> simp [Pl.mkO], rfl, rfl, rfl, rfl⟩
def Pl.optI : Option Nat → Int
  | some i => (i : Int)
  | none => -1
def Pl.want (L : List Pl.Ob) : Int := Pl.optI (L.reverse.findIdx? (fun q => q.1 == 6))
theorem Pl.want_nil : Pl.want [] = -1 := rfl
theorem Pl.want_true (L : List Pl.Ob) : Pl.want (L ++ [Pl.mkO true]) = 0 := by
  simp [Pl.want, Pl.mkO, List.findIdx?_cons, Pl.optI]
theorem Pl.want_false (L : List Pl.Ob) : Pl.want (L ++ [Pl.mkO false]) = if 0 ≤ Pl.want L then Pl.want L + 1 else -1 := by
  have h : (L ++ [Pl.mkO false]).reverse.findIdx? (fun q => q.1 == 6) = (L.reverse.findIdx? (fun q => q.1 == 6)).map (· + 1) := by
    simp [List.findIdx?_cons, Pl.mkO]
  rw [Pl.want, h, Pl.want]
  cases L.reverse.findIdx? (fun q => q.1 == 6) with
  | none => rfl
  | some i => simp [Pl.optI]
theorem Pl.want_ge (L : List Pl.Ob) : -1 ≤ Pl.want L := by
  unfold Pl.want
  cases h : L.reverse.findIdx? (fun q => q.1 == 6) with
  | none => simp [Pl.optI]
  | some i => simp [Pl.optI]
theorem Pl.want_le (L : List Pl.Ob) : Pl.want L ≤ L.length := by
  unfold Pl.want
  cases h : L.reverse.findIdx? (fun q => q.1 == 6) with
  | none => simp [Pl.optI]
  | some i =>
    have := (List.findIdx?_eq_some_iff_getElem.1 h).1
    simp [Pl.optI] at this ⊢
    omega
theorem Pl.toMark_want (L : List Pl.Ob) : (0 ≤ Pl.want L → Pl.toMark L = (Pl.want L, 0)) ∧ (Pl.want L < 0 → Pl.toMark L = (0, 10)) := by
  unfold Pl.want Pl.toMark
  cases h : L.reverse.findIdx? (fun q => q.1 == 6) with
  | none => simp [Pl.optI]
  | some i => simp [Pl.optI]

end Go.Proofs.Ytfmmomdmemcbbaa
