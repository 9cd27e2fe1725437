/- The walk of the reference's Roll. · Each method of the stack -/
import Derived.Test.YtfmmomdmemcbbaaGreatM4
import Derived.Test.YtfmmomdmemcbbaaGreatM3
import Derived.Test.YtfmmomdmemcbbaaGreatM2
set_option maxHeartbeats 4000000
set_option maxRecDepth 100000
namespace Go.Proofs.YtfmmomdmemcbbaaGreat
set_option linter.unusedVariables false
open Go.RowKit
theorem rroll_low (base p : Nat) (v : Value) (L : List Pl.Ob) (n : Int) (hn : n < 0) (j : Int) (W : World) (hS : StkV base p v L W) :
    Calls Tryz.prog 88 #[.pointer (some ⟨p, 0, none⟩), .int .i64 n, .int .i64 j] W fun e w' => e = .returned (.int .i64 2) ∧ Grown W w' := by
  clear hS
  go_enter Tryz.func88, Tryz.ntmps88
  go_wp2_with fail
  go_ret
  exact ⟨rfl, Grown.refl W⟩
theorem rroll_under (base p : Nat) (v : Value) (L : List Pl.Ob) (n : Int) (hn : (L.length : Int) < n) (j : Int) (W : World) (hS : StkV base p v L W) :
    Calls Tryz.prog 88 #[.pointer (some ⟨p, 0, none⟩), .int .i64 n, .int .i64 j] W fun e w' => e = .returned (.int .i64 7) ∧ Grown W w' := by
  obtain ⟨ao, cap, rfl⟩ := hS.slice
  have h0 := hS.1
  clear hS
  have h1 : ¬ n < 0 := by omega
  go_enter Tryz.func88, Tryz.ntmps88
  go_wp2_with fail
  go_ret
  exact ⟨rfl, Grown.refl W⟩
theorem rroll_none (base p : Nat) (v : Value) (L : List Pl.Ob) (j : Int) (W : World) (hS : StkV base p v L W) :
    Calls Tryz.prog 88 #[.pointer (some ⟨p, 0, none⟩), .int .i64 0, .int .i64 j] W fun e w' => e = .returned (.int .i64 0) ∧ Grown W w' := by
  obtain ⟨ao, cap, rfl⟩ := hS.slice
  have h0 := hS.1
  clear hS
  go_enter Tryz.func88, Tryz.ntmps88
  go_wp2_with fail
  go_ret
  exact ⟨rfl, Grown.refl W⟩
theorem own_part {w : World} {base g N cap : Nat} {X Y Z : List Pl.Ob} (h : w.ownsRow base 25 6 (.slice (some ⟨g, 0, none⟩) N cap) N (Pl.flat (X ++ (Y ++ Z)))) : ∀ j u, (Pl.flat Y)[j]? = some u → w.cell? ((⟨g, X.length * 6, none⟩ : Addr).add j) = some u := by
  intro j u hu
  have hj := (List.getElem?_eq_some_iff.1 hu).1
  have hl := h.1
  rw [Pl.flat_len, List.length_append, List.length_append] at hl
  rw [Pl.flat_len] at hj
  rw [show (⟨g, X.length * 6, none⟩ : Addr).add j = ⟨g, X.length * 6 + j, none⟩ from by simp [Addr.add]]
  rw [h.cellAt _ (by omega), Pl.flat_append, Pl.flat_append, List.getElem?_append_right (by rw [Pl.flat_len]; omega), List.getElem?_append_left (by rw [Pl.flat_len, Pl.flat_len]; omega), Pl.flat_len, ← hu]
  congr 1; omega
theorem rroll_core (base p g cap : Nat) (A B1 B2 : List Pl.Ob) (d e jj N M H : Nat) (j : Int) (hA : A.length = d) (h1 : B1.length = e) (h2 : B2.length = jj) (he : 1 ≤ e) (hN : N = e + jj) (hM : M = d + N) (hH : H = d + e) (hlen : M ≤ 300)
    (hj : (0 ≤ j.tmod N ∧ j.tmod N = jj) ∨ (j.tmod N < 0 ∧ j.tmod N + N = jj)) (hb : -300 < j.tmod N ∧ j.tmod N < 300)
    (W : World) (hbase : base ≤ W.heap.size) (hS : StkV base p (.slice (some ⟨g, 0, none⟩) M cap) (A ++ (B1 ++ B2)) W) :
    Calls Tryz.prog 88 #[.pointer (some ⟨p, 0, none⟩), .int .i64 (N : Int), .int .i64 j] W fun e' w' => e' = .returned (.int .i64 0) ∧
      (∃ v', StkV base p v' (A ++ (B2 ++ B1)) w' ∧ ∀ g, v'.ownBlock = some g → W.heap.size ≤ g) ∧ Fr (fun c => c = p) W w' := by
  have hL : (A ++ (B1 ++ B2)).length = M := by simp [hA, h1, h2]; omega
  obtain ⟨i0, hi, hz0, hz1, hz2⟩ := info_parts Tryz.objInfo
  obtain ⟨c0, f0, hown, hne, hp⟩ := id hS
  rw [hL] at hown
  have hcap : M ≤ cap := by
    rcases hown.2 with ⟨hq, _⟩ | ⟨g3, cap3, cur, hq, _, hg3, hc3, _⟩
    · cases hq
    · injection hq with q1 q2 q3
      omega
  have en0 : ((N : Int) == 0) = false := beq_eq_false_iff_ne.2 (by omega)
  have en1 : (N : Int) ≤ (M : Int) := by omega
  have en2 : (M : Int) - (N : Int) = (d : Int) := by omega
  have en3 : (M : Int) ≤ 300 := by omega
  have en4 : (1 : Int) ≤ (N : Int) := by omega
  have en5 : (N : Int) ≠ 0 := by omega
  have en6 : (M : Int) - (jj : Int) = (H : Int) := by omega
  have en7 : (H : Int) ≤ (M : Int) := by omega
  have en8 : (d : Int) ≤ (H : Int) := by omega
  have en9 : (M : Int) ≤ (cap : Int) := by omega
  have en10 : M - H = jj := by omega
  have en11 : H - d = e := by omega
  have en12 : ¬ cap = d := by omega
  have en13 : (H : Int) ≤ (cap : Int) := by omega
  have en14 : (d : Int) ≤ (cap : Int) := by omega
  have en15 : (0 : Int) ≤ (d : Int) := by omega
  have en16 : (0 : Int) ≤ (H : Int) := by omega
  have en17 : (d : Int) ≤ (M : Int) := by omega
  have wd : IntKind.i64.wrap (d : Int) = d := IntWalk.i64_in _ (by omega)
  have wH : IntKind.i64.wrap (H : Int) = H := IntWalk.i64_in _ (by omega)
  obtain ⟨hb0, hb1⟩ := hb
  have j0 : 0 ≤ (jj : Int) := by omega
  have j1 : (jj : Int) ≤ 300 := by omega
  have HLA : Hid ((Pl.flat A).length = d * 6) := Lib.hid (by rw [Pl.flat_len, hA])
  have HLB1 : Hid ((Pl.flat B1).length = e * 6) := Lib.hid (by rw [Pl.flat_len, h1])
  have HLB2 : Hid ((Pl.flat B2).length = jj * 6) := Lib.hid (by rw [Pl.flat_len, h2])
  have HS : Hid (∀ Z : World, Fr (fun _ => False) W Z → (∀ j u, (Pl.flat A)[j]? = some u → Z.cell? ((⟨g, 0, none⟩ : Addr).add j) = some u) ∧ (∀ j u, (Pl.flat B1)[j]? = some u → Z.cell? ((⟨g, d * 6, none⟩ : Addr).add j) = some u) ∧ (∀ j u, (Pl.flat B2)[j]? = some u → Z.cell? ((⟨g, H * 6, none⟩ : Addr).add j) = some u) ∧ base ≤ Z.heap.size ∧
      Z.cell? ⟨p, 0, none⟩ = some (.slice (some ⟨g, 0, none⟩) M cap) ∧ Z.frozen? ⟨p, 0, none⟩ = false) := Lib.hid (fun Z hZ => by
    have ho := own_fr (P := fun _ => False) hown hZ (fun _ _ f => f)
    have p1 := own_part (X := []) (Y := A) (Z := B1 ++ B2) ho
    have p2 := own_part (X := A) (Y := B1) (Z := B2) ho
    have p3 := own_part (X := A ++ B1) (Y := B2) (Z := []) (by rw [List.append_nil, List.append_assoc]; exact ho)
    rw [List.length_nil, Nat.zero_mul] at p1
    rw [hA] at p2
    rw [List.length_append, hA, h1, ← hH] at p3
    exact ⟨p1, p2, p3, Nat.le_trans hbase hZ.2.2.1, (hZ.cell (a := ⟨p, 0, none⟩) hp (fun f => f)).trans c0, (hZ.frozen (a := ⟨p, 0, none⟩) hp (fun f => f)).trans f0⟩)
  have HB : Hid (∀ (Z w2 : World) (v1 v2 : Value), Fr (fun _ => False) W Z → (∀ g, v1.ownBlock = some g → W.heap.size ≤ g) → Z.grownBy w2 v1.ownBlock → (∀ g, v2.ownBlock = some g → v1.ownBlock = some g ∨ Z.heap.size ≤ g) → Fr (fun _ => False) W w2 ∧ ∀ g, v2.ownBlock = some g → W.heap.size ≤ g) := Lib.hid (fun Z w2 v1 v2 hF hn1 hgr hbl => by
    refine ⟨hF.trans' (Fr.grown (fun c => v1.ownBlock = some c) hgr (fun k q => q)) (fun i q => .inr (hn1 i q)), fun g q => ?_⟩
    rcases hbl g q with h | h
    · exact hn1 g h
    · have := hF.2.2.1
      omega)
  have HNIL : Hid (∀ g, (Value.slice none 0 0).ownBlock = some g → W.heap.size ≤ g) := Lib.hid (fun g q => by simp [Value.ownBlock] at q)
  have END : Hid (∀ (w3 : World) (a2 : Option Addr) (c2 : Nat), w3.ownsRow base 25 6 (.slice a2 (d + jj + e) c2) (d + jj + e) (Pl.flat A ++ Pl.flat B2 ++ Pl.flat B1) → Fr (fun _ => False) W w3 → (∀ g, (Value.slice a2 (d + jj + e) c2).ownBlock = some g → W.heap.size ≤ g) →
      (∃ v', StkV base p v' (A ++ (B2 ++ B1)) (w3.setCell ⟨p, 0, none⟩ (.slice a2 (d + jj + e) c2)) ∧ ∀ g, v'.ownBlock = some g → W.heap.size ≤ g) ∧ Fr (fun c => c = p) W (w3.setCell ⟨p, 0, none⟩ (.slice a2 (d + jj + e) c2))) := Lib.hid (fun w3 a2 c2 hown2 hF hn => by
    have hc := (hF.cell (a := ⟨p, 0, none⟩) hp (fun f => f)).trans c0
    have hf := (hF.frozen (a := ⟨p, 0, none⟩) hp (fun f => f)).trans f0
    have hFF : Fr (fun c => c = p) W (w3.setCell ⟨p, 0, none⟩ (.slice a2 (d + jj + e) c2)) := (hF.weaken (fun c f => f.elim)).trans (Fr.setCell _ _ _ _ rfl)
    refine ⟨⟨_, ⟨World.cell?_setCell_same' _ _ _ (by rw [hc]; rfl), by simpa using hf, ?_, fun q => by have := hn p q; omega, Nat.lt_of_lt_of_le hp hFF.2.2.1⟩, hn⟩, hFF⟩
    rw [Pl.flat_append, Pl.flat_append, show (A ++ (B2 ++ B1)).length = d + jj + e from by simp [hA, h1, h2]; omega, ← List.append_assoc]
    exact own_fr (P := fun c => c = p) hown2 (Fr.setCell _ _ _ _ rfl) (fun g q h => by have := hn g q; omega))
  have HFA := Lib.hid (Pl.flat_one A)
  have HF1 := Lib.hid (Pl.flat_one B1)
  have HF2 := Lib.hid (Pl.flat_one B2)
  have h63 : Hid (d + jj + e ≤ maxLen) := Lib.hid (by unfold maxLen; omega)
  have h63' : Hid (d + jj ≤ maxLen) := Lib.hid (by unfold maxLen; omega)
  have hdje : Hid (d + jj + e ≤ 300) := Lib.hid (by omega)
  have HCC : Hid ((cap = H ∧ jj = 0) ∨ ¬ cap = H) := Lib.hid (by omega)
  clear hN hM hH hA h1 h2 hS hown hne hL hcap
  rcases hj with ⟨hj0, hj1⟩ | ⟨hj0, hj1⟩
  · rw [hj1] at hj0 hb0 hb1
    rcases HCC.out with ⟨hcH, hjz⟩ | hcH
    · have hcH' : H = cap := hcH.symm
      clear hcH
      subst hcH'
      have HJZ := Lib.hid hjz
      clear hjz
      go_enter Tryz.func88, Tryz.ntmps88
      go_wp2_with (at_builtin; refine wpList_append_all _ base 22 25 i0 _ 6 56 Tryz.underlying22 hi hz0 hz1 hz2 rfl (by decide) (.slice none 0 0) 0 [] (World.ownsRow_nil _ _ _ _) (some ⟨g, 0, none⟩) d H (Pl.flat A) (by intro q; cases q) HLA.out (by intro ad q; cases q; exact (HS.out _ (Fr.refl _ W)).1) HFA.out (by unfold maxLen; omega) (by omega) hbase (hgd := rfl) (.const (.slice none 0 0)) (.tmp 44) rfl (by simp [Act.eval]) (by simp [Act.eval]) ?hnext)
      case hnext =>
        intro v1 w1 hown1 hgr1 hbl1
        obtain ⟨a1, c1, rfl⟩ := own_slice hown1
        obtain ⟨hF1, hn1⟩ := HB.out W w1 _ _ (Fr.refl _ W) HNIL.out hgr1 hbl1
        obtain ⟨-, -, -, hb1', cp1, fz1⟩ := HS.out w1 hF1
        have Hown1 := Lib.hid hown1
        have HFr1 := Lib.hid hF1
        have Hn1 := Lib.hid hn1
        have Hb1 := Lib.hid hb1'
        clear hown1 hgr1 hbl1 hF1 hn1 hb1'
        go_wp2_with fail
        go_region_law (refine step_append_all w1.drew base 22 25 i0 _ 6 56 Tryz.underlying22 hi hz0 hz1 hz2 rfl (by decide) _ d (Pl.flat A) Hown1.out (some ⟨g, 0, none⟩) jj 0 (Pl.flat B2) (by intro q; cases q) HLB2.out (by intro ad q; cases q; exact (fun j u hu => by have h1 := (List.getElem?_eq_some_iff.1 hu).1; have h2 := HLB2.out; have h3 := HJZ.out; omega)) HF2.out h63'.out (by have := hdje.out; omega) Hb1.out rfl (.tmp 46) (.tmp 58) rfl (by simp [Act.eval, Act.put]) (by simp [Act.eval, Act.put]) ?_; intro v2 w2 hown2 hgr2 hbl2; obtain ⟨a2, c2, rfl⟩ := own_slice hown2; obtain ⟨hF2, hn2⟩ := HB.out _ w2 _ _ (Fr.drew HFr1.out) Hn1.out hgr2 hbl2; obtain ⟨-, -, -, hb2', cp2, fz2⟩ := HS.out w2 hF2; have Hown2 := Lib.hid hown2; have HFr2 := Lib.hid hF2; have Hn2 := Lib.hid hn2; have Hb2 := Lib.hid hb2'; clear hown2 hgr2 hbl2 hF2 hn2 hb2')
        all_goals
          go_wp2_with fail
          go_region_law (refine step_append_all w2.drew base 22 25 i0 _ 6 56 Tryz.underlying22 hi hz0 hz1 hz2 rfl (by decide) _ (d + jj) (Pl.flat A ++ Pl.flat B2) Hown2.out (some ⟨g, d * 6, none⟩) e e (Pl.flat B1) (by intro q; cases q) HLB1.out (by intro ad q; cases q; exact (HS.out _ (Fr.drew HFr2.out)).2.1) HF1.out h63.out (by have := hdje.out; omega) Hb2.out rfl (.tmp 61) (.tmp 74) rfl (by simp [Act.eval, Act.put]) (by simp [Act.eval, Act.put]) ?_; intro v3 w3 hown3 hgr3 hbl3; obtain ⟨a3, c3, rfl⟩ := own_slice hown3; obtain ⟨hF3, hn3⟩ := HB.out _ w3 _ _ (Fr.drew HFr2.out) Hn2.out hgr3 hbl3; obtain ⟨-, -, -, hb3', cp3, fz3⟩ := HS.out w3 hF3; have HEND := Lib.hid (END.out w3 a3 c3 hown3 hF3 hn3); clear hown3 hgr3 hbl3 hF3 hn3 hb3')
          all_goals
            go_wp2_with fail
            go_ret
            exact ⟨rfl, HEND.out⟩
    · have hcH' : ¬ cap = H := hcH
      go_enter Tryz.func88, Tryz.ntmps88
      go_wp2_with (at_builtin; refine wpList_append_all _ base 22 25 i0 _ 6 56 Tryz.underlying22 hi hz0 hz1 hz2 rfl (by decide) (.slice none 0 0) 0 [] (World.ownsRow_nil _ _ _ _) (some ⟨g, 0, none⟩) d cap (Pl.flat A) (by intro q; cases q) HLA.out (by intro ad q; cases q; exact (HS.out _ (Fr.refl _ W)).1) HFA.out (by unfold maxLen; omega) (by omega) hbase (hgd := rfl) (.const (.slice none 0 0)) (.tmp 44) rfl (by simp [Act.eval]) (by simp [Act.eval]) ?hnext)
      case hnext =>
        intro v1 w1 hown1 hgr1 hbl1
        obtain ⟨a1, c1, rfl⟩ := own_slice hown1
        obtain ⟨hF1, hn1⟩ := HB.out W w1 _ _ (Fr.refl _ W) HNIL.out hgr1 hbl1
        obtain ⟨-, -, -, hb1', cp1, fz1⟩ := HS.out w1 hF1
        have Hown1 := Lib.hid hown1
        have HFr1 := Lib.hid hF1
        have Hn1 := Lib.hid hn1
        have Hb1 := Lib.hid hb1'
        clear hown1 hgr1 hbl1 hF1 hn1 hb1'
        go_wp2_with fail
        go_region_law (refine step_append_all w1.drew base 22 25 i0 _ 6 56 Tryz.underlying22 hi hz0 hz1 hz2 rfl (by decide) _ d (Pl.flat A) Hown1.out (some ⟨g, H * 6, none⟩) jj (cap - H) (Pl.flat B2) (by intro q; cases q) HLB2.out (by intro ad q; cases q; exact (HS.out _ (Fr.drew HFr1.out)).2.2.1) HF2.out h63'.out (by have := hdje.out; omega) Hb1.out rfl (.tmp 46) (.tmp 58) rfl (by simp [Act.eval, Act.put]) (by simp [Act.eval, Act.put]) ?_; intro v2 w2 hown2 hgr2 hbl2; obtain ⟨a2, c2, rfl⟩ := own_slice hown2; obtain ⟨hF2, hn2⟩ := HB.out _ w2 _ _ (Fr.drew HFr1.out) Hn1.out hgr2 hbl2; obtain ⟨-, -, -, hb2', cp2, fz2⟩ := HS.out w2 hF2; have Hown2 := Lib.hid hown2; have HFr2 := Lib.hid hF2; have Hn2 := Lib.hid hn2; have Hb2 := Lib.hid hb2'; clear hown2 hgr2 hbl2 hF2 hn2 hb2')
        all_goals
          go_wp2_with fail
          go_region_law (refine step_append_all w2.drew base 22 25 i0 _ 6 56 Tryz.underlying22 hi hz0 hz1 hz2 rfl (by decide) _ (d + jj) (Pl.flat A ++ Pl.flat B2) Hown2.out (some ⟨g, d * 6, none⟩) e (cap - d) (Pl.flat B1) (by intro q; cases q) HLB1.out (by intro ad q; cases q; exact (HS.out _ (Fr.drew HFr2.out)).2.1) HF1.out h63.out (by have := hdje.out; omega) Hb2.out rfl (.tmp 61) (.tmp 74) rfl (by simp [Act.eval, Act.put]) (by simp [Act.eval, Act.put]) ?_; intro v3 w3 hown3 hgr3 hbl3; obtain ⟨a3, c3, rfl⟩ := own_slice hown3; obtain ⟨hF3, hn3⟩ := HB.out _ w3 _ _ (Fr.drew HFr2.out) Hn2.out hgr3 hbl3; obtain ⟨-, -, -, hb3', cp3, fz3⟩ := HS.out w3 hF3; have HEND := Lib.hid (END.out w3 a3 c3 hown3 hF3 hn3); clear hown3 hgr3 hbl3 hF3 hn3 hb3')
          all_goals
            go_wp2_with fail
            go_ret
            exact ⟨rfl, HEND.out⟩
  · have hj2 : ¬ (0 ≤ j.tmod N) := by omega
    rcases HCC.out with ⟨hcH, hjz⟩ | hcH
    · have hcH' : H = cap := hcH.symm
      clear hcH
      subst hcH'
      have HJZ := Lib.hid hjz
      clear hjz
      go_enter Tryz.func88, Tryz.ntmps88
      go_wp2_with (at_builtin; refine wpList_append_all _ base 22 25 i0 _ 6 56 Tryz.underlying22 hi hz0 hz1 hz2 rfl (by decide) (.slice none 0 0) 0 [] (World.ownsRow_nil _ _ _ _) (some ⟨g, 0, none⟩) d H (Pl.flat A) (by intro q; cases q) HLA.out (by intro ad q; cases q; exact (HS.out _ (Fr.refl _ W)).1) HFA.out (by unfold maxLen; omega) (by omega) hbase (hgd := rfl) (.const (.slice none 0 0)) (.tmp 44) rfl (by simp [Act.eval]) (by simp [Act.eval]) ?hnext)
      case hnext =>
        intro v1 w1 hown1 hgr1 hbl1
        obtain ⟨a1, c1, rfl⟩ := own_slice hown1
        obtain ⟨hF1, hn1⟩ := HB.out W w1 _ _ (Fr.refl _ W) HNIL.out hgr1 hbl1
        obtain ⟨-, -, -, hb1', cp1, fz1⟩ := HS.out w1 hF1
        have Hown1 := Lib.hid hown1
        have HFr1 := Lib.hid hF1
        have Hn1 := Lib.hid hn1
        have Hb1 := Lib.hid hb1'
        clear hown1 hgr1 hbl1 hF1 hn1 hb1'
        go_wp2_with fail
        go_region_law (refine step_append_all w1.drew base 22 25 i0 _ 6 56 Tryz.underlying22 hi hz0 hz1 hz2 rfl (by decide) _ d (Pl.flat A) Hown1.out (some ⟨g, 0, none⟩) jj 0 (Pl.flat B2) (by intro q; cases q) HLB2.out (by intro ad q; cases q; exact (fun j u hu => by have h1 := (List.getElem?_eq_some_iff.1 hu).1; have h2 := HLB2.out; have h3 := HJZ.out; omega)) HF2.out h63'.out (by have := hdje.out; omega) Hb1.out rfl (.tmp 46) (.tmp 58) rfl (by simp [Act.eval, Act.put]) (by simp [Act.eval, Act.put]) ?_; intro v2 w2 hown2 hgr2 hbl2; obtain ⟨a2, c2, rfl⟩ := own_slice hown2; obtain ⟨hF2, hn2⟩ := HB.out _ w2 _ _ (Fr.drew HFr1.out) Hn1.out hgr2 hbl2; obtain ⟨-, -, -, hb2', cp2, fz2⟩ := HS.out w2 hF2; have Hown2 := Lib.hid hown2; have HFr2 := Lib.hid hF2; have Hn2 := Lib.hid hn2; have Hb2 := Lib.hid hb2'; clear hown2 hgr2 hbl2 hF2 hn2 hb2')
        all_goals
          go_wp2_with fail
          go_region_law (refine step_append_all w2.drew base 22 25 i0 _ 6 56 Tryz.underlying22 hi hz0 hz1 hz2 rfl (by decide) _ (d + jj) (Pl.flat A ++ Pl.flat B2) Hown2.out (some ⟨g, d * 6, none⟩) e e (Pl.flat B1) (by intro q; cases q) HLB1.out (by intro ad q; cases q; exact (HS.out _ (Fr.drew HFr2.out)).2.1) HF1.out h63.out (by have := hdje.out; omega) Hb2.out rfl (.tmp 61) (.tmp 74) rfl (by simp [Act.eval, Act.put]) (by simp [Act.eval, Act.put]) ?_; intro v3 w3 hown3 hgr3 hbl3; obtain ⟨a3, c3, rfl⟩ := own_slice hown3; obtain ⟨hF3, hn3⟩ := HB.out _ w3 _ _ (Fr.drew HFr2.out) Hn2.out hgr3 hbl3; obtain ⟨-, -, -, hb3', cp3, fz3⟩ := HS.out w3 hF3; have HEND := Lib.hid (END.out w3 a3 c3 hown3 hF3 hn3); clear hown3 hgr3 hbl3 hF3 hn3 hb3')
          all_goals
            go_wp2_with fail
            go_ret
            exact ⟨rfl, HEND.out⟩
    · have hcH' : ¬ cap = H := hcH
      go_enter Tryz.func88, Tryz.ntmps88
      go_wp2_with (at_builtin; refine wpList_append_all _ base 22 25 i0 _ 6 56 Tryz.underlying22 hi hz0 hz1 hz2 rfl (by decide) (.slice none 0 0) 0 [] (World.ownsRow_nil _ _ _ _) (some ⟨g, 0, none⟩) d cap (Pl.flat A) (by intro q; cases q) HLA.out (by intro ad q; cases q; exact (HS.out _ (Fr.refl _ W)).1) HFA.out (by unfold maxLen; omega) (by omega) hbase (hgd := rfl) (.const (.slice none 0 0)) (.tmp 44) rfl (by simp [Act.eval]) (by simp [Act.eval]) ?hnext)
      case hnext =>
        intro v1 w1 hown1 hgr1 hbl1
        obtain ⟨a1, c1, rfl⟩ := own_slice hown1
        obtain ⟨hF1, hn1⟩ := HB.out W w1 _ _ (Fr.refl _ W) HNIL.out hgr1 hbl1
        obtain ⟨-, -, -, hb1', cp1, fz1⟩ := HS.out w1 hF1
        have Hown1 := Lib.hid hown1
        have HFr1 := Lib.hid hF1
        have Hn1 := Lib.hid hn1
        have Hb1 := Lib.hid hb1'
        clear hown1 hgr1 hbl1 hF1 hn1 hb1'
        go_wp2_with fail
        go_region_law (refine step_append_all w1.drew base 22 25 i0 _ 6 56 Tryz.underlying22 hi hz0 hz1 hz2 rfl (by decide) _ d (Pl.flat A) Hown1.out (some ⟨g, H * 6, none⟩) jj (cap - H) (Pl.flat B2) (by intro q; cases q) HLB2.out (by intro ad q; cases q; exact (HS.out _ (Fr.drew HFr1.out)).2.2.1) HF2.out h63'.out (by have := hdje.out; omega) Hb1.out rfl (.tmp 46) (.tmp 58) rfl (by simp [Act.eval, Act.put]) (by simp [Act.eval, Act.put]) ?_; intro v2 w2 hown2 hgr2 hbl2; obtain ⟨a2, c2, rfl⟩ := own_slice hown2; obtain ⟨hF2, hn2⟩ := HB.out _ w2 _ _ (Fr.drew HFr1.out) Hn1.out hgr2 hbl2; obtain ⟨-, -, -, hb2', cp2, fz2⟩ := HS.out w2 hF2; have Hown2 := Lib.hid hown2; have HFr2 := Lib.hid hF2; have Hn2 := Lib.hid hn2; have Hb2 := Lib.hid hb2'; clear hown2 hgr2 hbl2 hF2 hn2 hb2')
        all_goals
          go_wp2_with fail
          go_region_law (refine step_append_all w2.drew base 22 25 i0 _ 6 56 Tryz.underlying22 hi hz0 hz1 hz2 rfl (by decide) _ (d + jj) (Pl.flat A ++ Pl.flat B2) Hown2.out (some ⟨g, d * 6, none⟩) e (cap - d) (Pl.flat B1) (by intro q; cases q) HLB1.out (by intro ad q; cases q; exact (HS.out _ (Fr.drew HFr2.out)).2.1) HF1.out h63.out (by have := hdje.out; omega) Hb2.out rfl (.tmp 61) (.tmp 74) rfl (by simp [Act.eval, Act.put]) (by simp [Act.eval, Act.put]) ?_; intro v3 w3 hown3 hgr3 hbl3; obtain ⟨a3, c3, rfl⟩ := own_slice hown3; obtain ⟨hF3, hn3⟩ := HB.out _ w3 _ _ (Fr.drew HFr2.out) Hn2.out hgr3 hbl3; obtain ⟨-, -, -, hb3', cp3, fz3⟩ := HS.out w3 hF3; have HEND := Lib.hid (END.out w3 a3 c3 hown3 hF3 hn3); clear hown3 hgr3 hbl3 hF3 hn3 hb3')
          all_goals
            go_wp2_with fail
            go_ret
            exact ⟨rfl, HEND.out⟩
theorem rroll_ok (base p : Nat) (v : Value) (L : List Pl.Ob) (n : Nat) (j : Int) (hn : n ≤ L.length) (hlen : L.length ≤ 300) (W : World) (hb : base ≤ W.heap.size) (hS : StkV base p v L W) :
    Calls Tryz.prog 88 #[.pointer (some ⟨p, 0, none⟩), .int .i64 (n : Int), .int .i64 j] W fun e w' => e = .returned (.int .i64 0) ∧ (∃ v', StkV base p v' (Pl.rot L n j) w' ∧ ∀ g, v'.ownBlock = some g → v.ownBlock = some g ∨ W.heap.size ≤ g) ∧ Fr (fun c => c = p) W w' := by
  rcases Nat.eq_zero_or_pos n with rfl | hpos
  · refine (rroll_none base p v L j W hS).mono ?_
    rintro e w' ⟨rfl, g⟩
    rw [Pl.rot_zero]
    exact ⟨rfl, ⟨v, hS.fr (P := fun _ => False) (Fr.of_grown _ g) (fun f => f) (fun _ _ f => f), fun g q => .inl q⟩, Fr.of_grown _ g⟩
  · obtain ⟨o, ho⟩ : ∃ o, L[0]? = some o := ⟨_, List.getElem?_eq_getElem (by omega)⟩
    obtain ⟨g, cap, rfl, hcap, _⟩ := hS.at 0 o ho
    have hA : (L.take (L.length - n)).length = L.length - n := by simp
    have hR : (L.drop (L.length - n)).length = n := by simp; omega
    have hk0 := Int.emod_nonneg j (show (n : Int) ≠ 0 by omega)
    have hk1 := Int.emod_lt_of_pos j (show (0 : Int) < n by omega)
    have hte : (0 ≤ j.tmod n ∧ j.tmod n = j % n) ∨ (j.tmod n < 0 ∧ j.tmod n + n = j % n ∧ 0 < j % n) := by
      rcases Int.lt_or_le j 0 with hj | hj
      · have e1 : j.tmod n = -((-j) % n) := by
          have := Int.neg_tmod (-j) n
          rw [Int.neg_neg] at this
          rw [this, Int.tmod_eq_emod_of_nonneg (by omega)]
        have h0 := Int.emod_nonneg (-j) (show (n : Int) ≠ 0 by omega)
        have h1 := Int.emod_lt_of_pos (-j) (show (0 : Int) < n by omega)
        by_cases hz : (-j) % n = 0
        · left
          refine ⟨by omega, ?_⟩
          rw [e1, hz]
          have : (n : Int) ∣ j := by
            have := Int.dvd_of_emod_eq_zero hz
            exact Int.dvd_neg.1 this
          rw [Int.emod_eq_zero_of_dvd this]; rfl
        · right
          refine ⟨by omega, ?_⟩
          suffices j.tmod n + n = j % n by omega
          obtain ⟨q, hq⟩ : ∃ q : Int, j = -((-j) % n) + n * q := ⟨-((-j) / n), by
            have h3 := Int.emod_add_mul_ediv (-j) n
            have h4 : (n : Int) * (-((-j) / n)) = -(n * ((-j) / n)) := Int.mul_neg _ _
            omega⟩
          rw [e1]
          generalize (-j) % (n : Int) = r at *
          rw [hq, Int.add_mul_emod_self_left, ← Int.add_emod_right, Int.emod_eq_of_lt (by omega) (by omega)]
      · left
        rw [Int.tmod_eq_emod_of_nonneg hj]
        exact ⟨hk0, rfl⟩
    have hLs : L = L.take (L.length - n) ++ L.drop (L.length - n) := (List.take_append_drop _ _).symm
    have hRs : L.drop (L.length - n) = (L.drop (L.length - n)).take (n - (j % (n : Int)).toNat) ++ (L.drop (L.length - n)).drop (n - (j % (n : Int)).toNat) := (List.take_append_drop _ _).symm
    have hS' : StkV base p (.slice (some ⟨g, 0, none⟩) L.length cap) (L.take (L.length - n) ++ ((L.drop (L.length - n)).take (n - (j % (n : Int)).toNat) ++ (L.drop (L.length - n)).drop (n - (j % (n : Int)).toNat))) W := by rw [← hRs, ← hLs]; exact hS
    refine (rroll_core base p g cap _ _ _ (L.length - n) (n - (j % (n : Int)).toNat) (j % (n : Int)).toNat n L.length (L.length - n + (n - (j % (n : Int)).toNat)) j hA (by rw [List.length_take, hR]; omega) (by rw [List.length_drop, hR]; omega) (by omega) (by omega) (by omega) (by omega) hlen (by omega) (by omega) W hb hS').mono ?_
    rintro e w' ⟨rfl, h2, h3⟩
    exact ⟨rfl, h2.imp (fun v' h => ⟨h.1, fun g q => .inr (h.2 g q)⟩), h3⟩
end Go.Proofs.YtfmmomdmemcbbaaGreat
namespace Go.Proofs.YtfmmomdmemcbbaaGreat
set_option linter.unusedVariables false
open Go.RowKit
open Classical in
noncomputable def Pl.pushR (L : List Pl.Ob) (o : Pl.Ob) : Int × List Pl.Ob := if Pl.mayO o then (if L.length < 200 then (0, L ++ [o]) else (8, L)) else (1, L)
def Pl.popR (L : List Pl.Ob) : Pl.Ob × Int × List Pl.Ob := match L.getLast? with
  | none => (Pl.zer, 7, L)
  | some o => (o, 0, L.dropLast)
def Pl.peekR (L : List Pl.Ob) (i : Int) : Pl.Ob × Int := if i < 0 then (Pl.zer, 2) else match L.reverse[i.toNat]? with
  | none => (Pl.zer, 7)
  | some o => (o, 0)
open Classical in
section
variable (W0 : World) (Pr : Nat → Prop) (p : Nat) (L : List Pl.Ob) (W : World) (hlen : L.length ≤ 200) (h : Stk W0 Pr p L W)
include h hlen
theorem push_all (o : Pl.Ob) :
    Calls Tryz.prog 59 #[.pointer (some ⟨p, 0, none⟩), Pl.ov o] W fun e w' => e = .returned (.int .i64 (Pl.pushR L o).1) ∧ Stk W0 Pr p (Pl.pushR L o).2 w' ∧ FrS W0 Pr W w' := by
  unfold Pl.pushR
  by_cases hm : Pl.mayO o
  · rw [if_pos hm]
    by_cases hn : L.length < 200
    · rw [if_pos hn]
      exact stk_push W0 Pr p L W h o hm hn
    · rw [if_neg hn]
      refine (stk_push_full W0 Pr p L W h o hm (by omega) (by omega)).mono ?_
      rintro e w' ⟨he, hs, g⟩
      exact ⟨he, hs, Fr.of_grown _ g⟩
  · rw [if_neg hm]
    refine (stk_push_bad W0 Pr p L W h o hm).mono ?_
    rintro e w' ⟨he, hs, g⟩
    exact ⟨he, hs, Fr.of_grown _ g⟩
theorem pop_all :
    Calls Tryz.prog 58 #[.pointer (some ⟨p, 0, none⟩)] W fun e w' => e = .returned (.tuple #[Pl.ov (Pl.popR L).1, .int .i64 (Pl.popR L).2.1]) ∧ Stk W0 Pr p (Pl.popR L).2.2 w' ∧ FrS W0 Pr W w' := by
  rcases List.eq_nil_or_concat L with rfl | ⟨A, o, hAo⟩
  · refine (stk_pop_none W0 Pr p [] W h rfl).mono ?_
    rintro e w' ⟨he, hs, g⟩
    exact ⟨he, hs, Fr.of_grown _ g⟩
  · rw [List.concat_eq_append] at hAo
    subst hAo
    have e1 : Pl.popR (A ++ [o]) = (o, 0, A) := by simp [Pl.popR]
    rw [e1]
    exact stk_pop W0 Pr p _ W h A o rfl (by simp at hlen; omega)
theorem peek_all (i : Int) :
    Calls Tryz.prog 35 #[.pointer (some ⟨p, 0, none⟩), .int .i64 i] W fun e w' => e = .returned (.tuple #[Pl.ov (Pl.peekR L i).1, .int .i64 (Pl.peekR L i).2]) ∧ Stk W0 Pr p L w' ∧ Grown W w' := by
  unfold Pl.peekR
  by_cases hi : i < 0
  · rw [if_pos hi]
    exact stk_peek_low W0 Pr p L W h i hi
  · rw [if_neg hi]
    obtain ⟨n, rfl⟩ : ∃ n : Nat, i = (n : Int) := ⟨i.toNat, by omega⟩
    rw [Int.toNat_natCast]
    cases ho : L.reverse[n]? with
    | none =>
      have := List.getElem?_eq_none_iff.1 ho
      rw [List.length_reverse] at this
      exact stk_peek_under W0 Pr p L W h n (by omega) (by omega)
    | some o => exact stk_peek W0 Pr p L W h n o ho (by omega)
end
end Go.Proofs.YtfmmomdmemcbbaaGreat
namespace Go.Proofs.YtfmmomdmemcbbaaGreat
set_option linter.unusedVariables false
open Go.RowKit
theorem Pl.and_mask_i64 (k : Nat) (hk : k ≤ 62) (x : Int) : bits .and .i64 x (2 ^ k - 1) = x % 2 ^ k := by
  have h := Pl.and_mask_u64 k (by omega) x
  have hp0 : (0 : Int) < 2 ^ k := Int.pow_pos (by decide)
  have hp : (2 : Int) ^ k ≤ 2 ^ 62 := by
    have := Nat.pow_le_pow_right (n := 2) (by decide) hk
    exact_mod_cast this
  have h1 := Int.emod_nonneg x (show (2 : Int) ^ k ≠ 0 by omega)
  have h2 := Int.emod_lt_of_pos x hp0
  have e : (2 : Int) ^ 62 = 4611686018427387904 := by decide
  change IntKind.u64.wrap ((BitVec.ofInt 64 x &&& BitVec.ofInt 64 ((2 : Int) ^ k - 1)).toNat : Int) = _ at h
  show IntKind.i64.wrap ((BitVec.ofInt 64 x &&& BitVec.ofInt 64 ((2 : Int) ^ k - 1)).toNat : Int) = _
  have hb := (BitVec.ofInt 64 x &&& BitVec.ofInt 64 ((2 : Int) ^ k - 1)).isLt
  rw [IntKind.wrap_u64] at h
  rw [IntKind.wrap_i64]
  omega
theorem Pl.and_1_i64 (x : Int) : bits .and .i64 x 1 = x % 2 := Pl.and_mask_i64 1 (by decide) x
def Pl.fits (kinds k : Int) : Bool := (kinds / 2 ^ k.toNat) % 2 == 1
theorem Pl.mayO_kind {o : Pl.Ob} (h : Pl.mayO o) : 1 ≤ o.1 ∧ o.1 ≤ 11 := by
  unfold Pl.mayO Pl.may at h
  omega
theorem is_any (o : Pl.Ob) (kinds : Int) (hk : 1 ≤ o.1 ∧ o.1 ≤ 11) (W : World) :
    Calls Tryz.prog 55 #[Pl.ov o, .int .i64 kinds] W fun e w' => e = .returned (.bool (Pl.fits kinds o.1)) ∧ Grown W w' := by
  obtain ⟨k, x, n, a, l, s⟩ := o
  unfold Pl.fits
  simp only at hk
  obtain ⟨r, hr⟩ : ∃ r, r = (kinds / 2 ^ k.toNat) % 2 := ⟨_, rfl⟩
  have h1 : bits .and .i64 (kinds / 2 ^ k.toNat) 1 = r := by rw [Pl.and_1_i64, hr]
  have h0 : (0 : Int) ≤ k := by omega
  have h64 : k ≤ 64 := by omega
  simp only [← hr]
  clear hr
  go_enter Tryz.func55, Tryz.ntmps55
  go_wp2
  go_ret
  exact ⟨by simp, (Grown.refl W).alloc _ _⟩
theorem whole_obj (v : Int) (W : World) :
    Calls Tryz.prog 39 #[.int .i64 v] W fun e w' => e = .returned (.tuple #[Pl.ov (3, false, v, 0, 0, ⟨#[]⟩), .bool (decide (-2147483647 ≤ v ∧ v ≤ 2147483647))]) ∧ Grown W w' := by
  by_cases h1 : -2147483647 ≤ v
  · by_cases h2 : v ≤ 2147483647
    · rw [decide_eq_true ⟨h1, h2⟩]
      go_enter Tryz.func39, Tryz.ntmps39
      go_wp2
      exact bodyPost_ret (by simp [results, Tryz.results39, go_sem]) rfl ⟨rfl, (Grown.refl W).alloc _ _⟩
    · rw [decide_eq_false (fun h => h2 h.2)]
      go_enter Tryz.func39, Tryz.ntmps39
      go_wp2
      exact bodyPost_ret (by simp [results, Tryz.results39, go_sem]) rfl ⟨rfl, (Grown.refl W).alloc _ _⟩
  · rw [decide_eq_false (fun h => h1 h.1)]
    go_enter Tryz.func39, Tryz.ntmps39
    go_wp2
    exact bodyPost_ret (by simp [results, Tryz.results39, go_sem]) rfl ⟨rfl, (Grown.refl W).alloc _ _⟩
theorem fixed_obj (v : Int) (W : World) :
    Calls Tryz.prog 77 #[.int .i64 v] W fun e w' => e = .returned (.tuple #[Pl.ov (4, false, v, 0, 0, ⟨#[]⟩), .bool (decide (-1073741823 ≤ v ∧ v ≤ 1073741823))]) ∧ Grown W w' := by
  by_cases h1 : -1073741823 ≤ v
  · by_cases h2 : v ≤ 1073741823
    · rw [decide_eq_true ⟨h1, h2⟩]
      go_enter Tryz.func77, Tryz.ntmps77
      go_wp2
      exact bodyPost_ret (by simp [results, Tryz.results77, go_sem]) rfl ⟨rfl, (Grown.refl W).alloc _ _⟩
    · rw [decide_eq_false (fun h => h2 h.2)]
      go_enter Tryz.func77, Tryz.ntmps77
      go_wp2
      exact bodyPost_ret (by simp [results, Tryz.results77, go_sem]) rfl ⟨rfl, (Grown.refl W).alloc _ _⟩
  · rw [decide_eq_false (fun h => h1 h.1)]
    go_enter Tryz.func77, Tryz.ntmps77
    go_wp2
    exact bodyPost_ret (by simp [results, Tryz.results77, go_sem]) rfl ⟨rfl, (Grown.refl W).alloc _ _⟩
def Pl.truth (b : Bool) : Pl.Ob := (2, false, if b then 1 else 0, 0, 0, ⟨#[]⟩)
theorem truth_obj (b : Bool) (W : World) :
    Calls Tryz.prog 25 #[.bool b] W fun e w' => e = .returned (Pl.ov (Pl.truth b)) ∧ Grown W w' := by
  unfold Pl.truth
  cases b
  · go_enter Tryz.func25, Tryz.ntmps25
    go_wp2
    exact bodyPost_ret (by simp [results, Tryz.results25, go_sem]) rfl ⟨rfl, ((Grown.refl W).alloc _ _).alloc _ _⟩
  · go_enter Tryz.func25, Tryz.ntmps25
    go_wp2
    exact bodyPost_ret (by simp [results, Tryz.results25, go_sem]) rfl ⟨rfl, ((Grown.refl W).alloc _ _).alloc _ _⟩
theorem room_any (W0 : World) (Pr : Nat → Prop) (p : Nat) (L : List Pl.Ob) (W : World) (hlen : L.length ≤ 300) (h : Stk W0 Pr p L W) (n m : Int) (hn : 0 ≤ n ∧ n ≤ 1000) (hm : 0 ≤ m ∧ m ≤ 1000) :
    Calls Tryz.prog 57 #[.pointer (some ⟨p, 0, none⟩), .int .i64 n, .int .i64 m] W fun e w' => e = .returned (.bool (decide ((L.length : Int) - n + m ≤ 200))) ∧ w' = W := by
  have HL := Lib.hid (stk_len W0 Pr p L W h)
  obtain ⟨M, hM⟩ : ∃ M, M = L.length := ⟨_, rfl⟩
  rw [← hM] at HL hlen ⊢
  clear hM h
  go_enter Tryz.func57, Tryz.ntmps57
  go_wp2_with fail
  refine HL.out.mono ?_
  rintro e w' ⟨rfl, rfl⟩
  go_wp2_with fail
  go_ret
  exact ⟨rfl, rfl⟩
end Go.Proofs.YtfmmomdmemcbbaaGreat
namespace Go.Proofs.YtfmmomdmemcbbaaGreat
set_option linter.unusedVariables false
open Go.RowKit
def Blk (W : World) (p : Nat) (L : List Value) (Z : World) : Prop := W.heap.size ≤ p ∧ p < Z.heap.size ∧ (∀ j u, L[j]? = some u → Z.cell? ⟨p, j, none⟩ = some u) ∧ ∀ j, Z.frozen? ⟨p, j, none⟩ = false
theorem Blk.new {W Z : World} (A : Array Value) (t : TypeId) (h : W.heap.size ≤ Z.heap.size) : Blk W Z.heap.size A.toList (Z.alloc (.cells A t)) :=
  ⟨h, by simp, fun j u hu => by have := alloc_cell Z A t j u hu; rw [Addr.add_lit, Nat.zero_add] at this; exact this, fun j => by rw [frozen?_alloc_cells]; simp [World.frozen?]⟩
theorem Blk.grow {W Z Z' : World} {p : Nat} {L : List Value} (h : Blk W p L Z) (g : Grown Z Z') : Blk W p L Z' := by
  obtain ⟨h1, h2, h3, h4⟩ := h
  have hb := grown_heap g p h2
  exact ⟨h1, Nat.lt_of_lt_of_le h2 g.2.2, fun j u hu => (World.cell?_of_block (a := ⟨p, j, none⟩) hb).trans (h3 j u hu), fun j => (World.frozen?_of_block (a := ⟨p, j, none⟩) hb).trans (h4 j)⟩
theorem Blk.drew {W Z : World} {p : Nat} {L : List Value} (h : Blk W p L Z) : Blk W p L Z.drew := h
theorem Blk.drewN {W Z : World} {p : Nat} {L : List Value} (h : Blk W p L Z) (n : Nat) : Blk W p L (Z.drewN n) := h
theorem Blk.alloc {W Z : World} {p : Nat} {L : List Value} (h : Blk W p L Z) (A : Array Value) (t : TypeId) : Blk W p L (Z.alloc (.cells A t)) := h.grow ((Grown.refl _).alloc A t)
theorem Blk.at {W Z : World} {p : Nat} {L : List Value} (h : Blk W p L Z) (j : Nat) (u : Value) (hu : L[j]? = some u) : Z.cell? ⟨p, j, none⟩ = some u := h.2.2.1 j u hu
theorem Blk.set {W Z : World} {p : Nat} {L : List Value} (h : Blk W p L Z) (i : Nat) (hi : i < L.length) (v : Value) : Blk W p (L.set i v) (Z.setCell ⟨p, i, none⟩ v) := by
  obtain ⟨h1, h2, h3, h4⟩ := h
  refine ⟨h1, by simp; exact h2, fun j u hu => ?_, fun j => by simp; exact h4 j⟩
  by_cases e : j = i
  · subst e
    rw [List.getElem?_set_self hi] at hu
    injection hu with hu
    subst hu
    exact World.cell?_setCell_same' _ _ _ (by rw [h3 j L[j] (List.getElem?_eq_getElem hi)]; rfl)
  · rw [List.getElem?_set_ne (fun q => e q.symm)] at hu
    rw [World.cell?_setCell_other _ _ _ _ (by simp)]
    exact h3 j u hu
theorem Blk.other {W Z : World} {q p k : Nat} {E : List Value} (h : Blk W q E Z) (hp : q ≠ p) (v : Value) : Blk W q E (Z.setCell ⟨p, k, none⟩ v) := by
  obtain ⟨h1, h2, h3, h4⟩ := h
  refine ⟨h1, by simp; exact h2, fun j u hu => ?_, fun j => by simp; exact h4 j⟩
  rw [World.cell?_setCell_other _ _ _ _ (by simp)]
  exact h3 j u hu
theorem Blk.fr {W Z Z' : World} {p : Nat} {L : List Value} {P : Nat → Prop} (h : Blk W p L Z) (f : Fr P Z Z') (hp : ¬ P p) : Blk W p L Z' := by
  obtain ⟨h1, h2, h3, h4⟩ := h
  exact ⟨h1, Nat.lt_of_lt_of_le h2 f.2.2.1, fun j u hu => (f.cell (a := ⟨p, j, none⟩) h2 hp).trans (h3 j u hu), fun j => (f.frozen (a := ⟨p, j, none⟩) h2 hp).trans (h4 j)⟩
theorem Fr.setNew {P : Nat → Prop} {W Z : World} {q k : Nat} (h : Fr P W Z) (hq : W.heap.size ≤ q) (v : Value) : Fr P W (Z.setCell ⟨q, k, none⟩ v) :=
  h.trans' (Fr.setCell (fun c => c = q) _ _ _ rfl) (fun i e => .inr (by omega))
theorem Blk.at6 {W Z : World} {p : Nat} {a b c d e f : Value} (h : Blk W p [a, b, c, d, e, f] Z) : Z.cell? ⟨p, 0, none⟩ = some a ∧ Z.cell? ⟨p, 1, none⟩ = some b ∧ Z.cell? ⟨p, 2, none⟩ = some c ∧ Z.cell? ⟨p, 3, none⟩ = some d ∧ Z.cell? ⟨p, 4, none⟩ = some e ∧ Z.cell? ⟨p, 5, none⟩ = some f :=
  ⟨h.at 0 _ rfl, h.at 1 _ rfl, h.at 2 _ rfl, h.at 3 _ rfl, h.at 4 _ rfl, h.at 5 _ rfl⟩
theorem Blk.at12 {W Z : World} {p : Nat} {a b c d e f a' b' c' d' e' f' : Value} (h : Blk W p [a, b, c, d, e, f, a', b', c', d', e', f'] Z) : Z.cell? ⟨p, 0, none⟩ = some a ∧ Z.cell? ⟨p, 1, none⟩ = some b ∧ Z.cell? ⟨p, 2, none⟩ = some c ∧ Z.cell? ⟨p, 3, none⟩ = some d ∧ Z.cell? ⟨p, 4, none⟩ = some e ∧ Z.cell? ⟨p, 5, none⟩ = some f ∧ Z.cell? ⟨p, 6, none⟩ = some a' ∧ Z.cell? ⟨p, 7, none⟩ = some b' ∧ Z.cell? ⟨p, 8, none⟩ = some c' ∧ Z.cell? ⟨p, 9, none⟩ = some d' ∧ Z.cell? ⟨p, 10, none⟩ = some e' ∧ Z.cell? ⟨p, 11, none⟩ = some f' :=
  ⟨h.at 0 _ rfl, h.at 1 _ rfl, h.at 2 _ rfl, h.at 3 _ rfl, h.at 4 _ rfl, h.at 5 _ rfl, h.at 6 _ rfl, h.at 7 _ rfl, h.at 8 _ rfl, h.at 9 _ rfl, h.at 10 _ rfl, h.at 11 _ rfl⟩
theorem Blk.six {W Z : World} {p : Nat} {a b c d e f a' b' c' d' e' f' : Value} (h : Blk W p [a, b, c, d, e, f] Z) : Blk W p [a', b', c', d', e', f'] ((((((Z.setCell ⟨p, 0, none⟩ a').setCell ⟨p, 1, none⟩ b').setCell ⟨p, 2, none⟩ c').setCell ⟨p, 3, none⟩ d').setCell ⟨p, 4, none⟩ e').setCell ⟨p, 5, none⟩ f') :=
  ((((((h.set 0 (by simp) a').set 1 (by simp) b').set 2 (by simp) c').set 3 (by simp) d').set 4 (by simp) e').set 5 (by simp) f')
theorem Blk.lo6 {W Z : World} {p : Nat} {a b c d e f a' b' c' d' e' f' g h i j k l : Value} (hh : Blk W p [a, b, c, d, e, f, g, h, i, j, k, l] Z) : Blk W p [a', b', c', d', e', f', g, h, i, j, k, l] ((((((Z.setCell ⟨p, 0, none⟩ a').setCell ⟨p, 1, none⟩ b').setCell ⟨p, 2, none⟩ c').setCell ⟨p, 3, none⟩ d').setCell ⟨p, 4, none⟩ e').setCell ⟨p, 5, none⟩ f') :=
  ((((((hh.set 0 (by simp) a').set 1 (by simp) b').set 2 (by simp) c').set 3 (by simp) d').set 4 (by simp) e').set 5 (by simp) f')
theorem Blk.hi6 {W Z : World} {p : Nat} {a b c d e f a' b' c' d' e' f' g h i j k l : Value} (hh : Blk W p [g, h, i, j, k, l, a, b, c, d, e, f] Z) : Blk W p [g, h, i, j, k, l, a', b', c', d', e', f'] ((((((Z.setCell ⟨p, 6, none⟩ a').setCell ⟨p, 7, none⟩ b').setCell ⟨p, 8, none⟩ c').setCell ⟨p, 9, none⟩ d').setCell ⟨p, 10, none⟩ e').setCell ⟨p, 11, none⟩ f') :=
  ((((((hh.set 6 (by simp) a').set 7 (by simp) b').set 8 (by simp) c').set 9 (by simp) d').set 10 (by simp) e').set 11 (by simp) f')
theorem grown_six {W Z : World} {p o : Nat} {a' b' c' d' e' f' : Value} (h : Grown W Z) (hp : W.heap.size ≤ p) : Grown W ((((((Z.setCell ⟨p, 0, none⟩ a').setCell ⟨p, 1, none⟩ b').setCell ⟨p, 2, none⟩ c').setCell ⟨p, 3, none⟩ d').setCell ⟨p, 4, none⟩ e').setCell ⟨p, 5, none⟩ f') := (Grown.setCell (Grown.setCell (Grown.setCell (Grown.setCell (Grown.setCell (Grown.setCell h hp _) hp _) hp _) hp _) hp _) hp _)
theorem grown_hi6 {W Z : World} {p o : Nat} {a' b' c' d' e' f' : Value} (h : Grown W Z) (hp : W.heap.size ≤ p) : Grown W ((((((Z.setCell ⟨p, 6, none⟩ a').setCell ⟨p, 7, none⟩ b').setCell ⟨p, 8, none⟩ c').setCell ⟨p, 9, none⟩ d').setCell ⟨p, 10, none⟩ e').setCell ⟨p, 11, none⟩ f') := (Grown.setCell (Grown.setCell (Grown.setCell (Grown.setCell (Grown.setCell (Grown.setCell h hp _) hp _) hp _) hp _) hp _) hp _)
theorem cell_six {Z : World} {p b k : Nat} {a b' c d e f : Value} (h : b ≠ p) : ((((((Z.setCell ⟨p, 0, none⟩ a).setCell ⟨p, 1, none⟩ b').setCell ⟨p, 2, none⟩ c).setCell ⟨p, 3, none⟩ d).setCell ⟨p, 4, none⟩ e).setCell ⟨p, 5, none⟩ f).cell? ⟨b, k, none⟩ = Z.cell? ⟨b, k, none⟩ := by
  have hn : ∀ j : Nat, (⟨b, k, none⟩ : Addr) ≠ ⟨p, j, none⟩ := fun j q => h (congrArg Addr.block q)
  rw [World.cell?_setCell_other _ _ _ _ (by first | exact hn _ | exact (hn _).symm), World.cell?_setCell_other _ _ _ _ (by first | exact hn _ | exact (hn _).symm), World.cell?_setCell_other _ _ _ _ (by first | exact hn _ | exact (hn _).symm), World.cell?_setCell_other _ _ _ _ (by first | exact hn _ | exact (hn _).symm), World.cell?_setCell_other _ _ _ _ (by first | exact hn _ | exact (hn _).symm), World.cell?_setCell_other _ _ _ _ (by first | exact hn _ | exact (hn _).symm)]
theorem cell_hi6 {Z : World} {p b k : Nat} {a b' c d e f : Value} (h : b ≠ p) : ((((((Z.setCell ⟨p, 6, none⟩ a).setCell ⟨p, 7, none⟩ b').setCell ⟨p, 8, none⟩ c).setCell ⟨p, 9, none⟩ d).setCell ⟨p, 10, none⟩ e).setCell ⟨p, 11, none⟩ f).cell? ⟨b, k, none⟩ = Z.cell? ⟨b, k, none⟩ := by
  have hn : ∀ j : Nat, (⟨b, k, none⟩ : Addr) ≠ ⟨p, j, none⟩ := fun j q => h (congrArg Addr.block q)
  rw [World.cell?_setCell_other _ _ _ _ (by first | exact hn _ | exact (hn _).symm), World.cell?_setCell_other _ _ _ _ (by first | exact hn _ | exact (hn _).symm), World.cell?_setCell_other _ _ _ _ (by first | exact hn _ | exact (hn _).symm), World.cell?_setCell_other _ _ _ _ (by first | exact hn _ | exact (hn _).symm), World.cell?_setCell_other _ _ _ _ (by first | exact hn _ | exact (hn _).symm), World.cell?_setCell_other _ _ _ _ (by first | exact hn _ | exact (hn _).symm)]
end Go.Proofs.YtfmmomdmemcbbaaGreat
