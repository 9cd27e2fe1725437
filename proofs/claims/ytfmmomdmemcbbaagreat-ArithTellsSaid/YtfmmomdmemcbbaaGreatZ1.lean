/- The reference's stack in layer 18: what its Take and Give an -/
import Derived.Test.YtfmmomdmemcbbaaGreatM5
import Derived.Test.YtfmmomdmemcbbaaGreatM7
import Derived.Test.YtfmmomdmemcbbaaGreatM7
import Derived.Test.YtfmmomdmemcbbaaGreatM7
import Derived.Deep.QuietTactic
set_option maxHeartbeats 4000000
set_option maxRecDepth 100000
namespace Go.Proofs.YtfmmomdmemcbbaaGreat
set_option linter.unusedVariables false
set_option linter.unusedSimpArgs false
open Go.RowKit
theorem RowV.fr9 {W W' : World} {v : Value} {A : List Pl.Ob} (h : RowV W v A) (k : Fr (fun _ => False) W W') : RowV W' v A := by
  obtain ⟨ao, cap, rfl, _⟩ := id h
  exact RowV.fr h k (fun _ _ f => f)
def RS (base p : Nat) (L : List Pl.Ob) (W : World) : Prop := ∃ v, StkV base p v L W
theorem RS.fresh {base p : Nat} {L : List Pl.Ob} {W W' : World} (h : RS base p L W) (k : Fr (fun _ => False) W W') : RS base p L W' := by
  obtain ⟨v, hS⟩ := h
  exact ⟨v, hS.fr k (fun f => f) (fun _ _ f => f)⟩
theorem RS.grown {base p : Nat} {L : List Pl.Ob} {W W' : World} (h : RS base p L W) (k : Grown W W') : RS base p L W' := h.fresh (Fr.of_grown _ k)
theorem RS.lt {base p : Nat} {L : List Pl.Ob} {W : World} (h : RS base p L W) : p < W.heap.size := by
  obtain ⟨v, hS⟩ := h
  exact hS.2.2.2.2
theorem RS.tail {base p : Nat} {L : List Pl.Ob} {W : World} (h : RS base p L W) (J n : Nat) (hn : L.length = J + (n + 1)) : ∃ g cap, W.cell? ⟨p, 0, none⟩ = some (.slice (some ⟨g, 0, none⟩) (J + (n + 1)) cap) ∧ W.frozen? ⟨p, 0, none⟩ = false ∧ J + (n + 1) ≤ cap ∧ g ≠ p ∧ g < W.heap.size ∧
    ∀ (i : Nat) (o : Pl.Ob), L[J + i]? = some o → ∀ (j : Nat) (u : Value), (Pl.oc o)[j]? = some u → W.cell? ⟨g, (J + i) * 6 + j, none⟩ = some u := by
  obtain ⟨v, hS⟩ := h
  obtain ⟨h0, h1, hown, hne, hp⟩ := hS
  obtain ⟨g, cap, rfl, hb⟩ := own_some' hown (by omega)
  have hg := own_lt hown g rfl
  have hc : J + (n + 1) ≤ cap := by
    rcases hown.2 with ⟨h, _⟩ | ⟨g2, cap2, cur, h, _, _, hcc, _⟩
    · cases h
    · injection h with _ _ h
      subst h
      omega
  rw [hn] at h0
  refine ⟨g, cap, h0, h1, hc, fun e => hne (by rw [e]; rfl), hg, fun i o hi j u hu => ?_⟩
  have hj : j < 6 := by
    have := (List.getElem?_eq_some_iff.1 hu).1
    simpa [Pl.oc] using this
  have hf := Pl.flat_get L (J + i) o hi j hj
  rw [hu] at hf
  have := hown.cells rfl ((J + i) * 6 + j) u hf
  rw [Addr.add_lit, Nat.zero_add] at this
  exact this
def Pl.rfits (kind k : Int) : Bool := if kind = 100 then true else if kind = 101 then (k == 3 || k == 4) else if kind = 102 then (k == 2 || k == 3) else k == kind
theorem rfits_any (o : Pl.Ob) (kind : Int) (hk : kind = 100 ∨ kind = 101 ∨ kind = 102 ∨ kind = 3) (W : World) :
    Calls Tryz.prog 115 #[Pl.ov o, .int .i64 kind] W fun e w' => e = .returned (.bool (Pl.rfits kind o.1)) ∧ Grown W w' := by
  obtain ⟨k, x, n, a, l, s⟩ := o
  have hd : ∀ j : Int, (k == j) = true ∨ (k == j) = false := fun j => by cases h : (k == j) <;> simp
  have G := (Grown.refl W).alloc #[.int .i64 k, .bool x, .int .i64 n, .int .i64 a, .int .i64 l, .string s] 25
  unfold Pl.rfits
  rcases hk with rfl | rfl | rfl | rfl
  · clear hd
    go_enter Tryz.func115, Tryz.ntmps115
    go_wp2_with fail
    go_ret
    exact ⟨rfl, G⟩
  · rcases hd 3 with h3 | h3 <;> rcases hd 4 with h4 | h4
    all_goals
      clear hd
      go_enter Tryz.func115, Tryz.ntmps115
      go_wp2_with fail
      go_ret
      exact ⟨by simp [h3, h4], G⟩
  · rcases hd 2 with h3 | h3 <;> rcases hd 3 with h4 | h4
    all_goals
      clear hd
      go_enter Tryz.func115, Tryz.ntmps115
      go_wp2_with fail
      go_ret
      exact ⟨by simp [h3, h4], G⟩
  · rcases hd 3 with h3 | h3
    all_goals
      clear hd
      go_enter Tryz.func115, Tryz.ntmps115
      go_wp2_with fail
      go_ret
      exact ⟨by simp [h3], G⟩
theorem rint_any (n : Int) (W : World) : Calls Tryz.prog 116 #[.int .i64 n] W fun e w' => e = .returned (Pl.ov (Pl.intO n)) ∧ Grown W w' := by
  unfold Pl.intO
  go_enter Tryz.func116, Tryz.ntmps116
  go_wp2_with fail
  exact bodyPost_ret (by simp [results, Tryz.results116, go_sem]) rfl ⟨rfl, by (repeat (first | exact Grown.refl _ | assumption | apply Grown.drew | apply Grown.alloc | (refine Grown.setCell ?_ (by simp) _)))⟩
theorem rfix_any (n : Int) (W : World) : Calls Tryz.prog 121 #[.int .i64 n] W fun e w' => e = .returned (Pl.ov (Pl.fixO n)) ∧ Grown W w' := by
  unfold Pl.fixO
  go_enter Tryz.func121, Tryz.ntmps121
  go_wp2_with fail
  exact bodyPost_ret (by simp [results, Tryz.results121, go_sem]) rfl ⟨rfl, by (repeat (first | exact Grown.refl _ | assumption | apply Grown.drew | apply Grown.alloc | (refine Grown.setCell ?_ (by simp) _)))⟩
theorem rbool_any (b : Bool) (W : World) : Calls Tryz.prog 96 #[.bool b] W fun e w' => e = .returned (Pl.ov (Pl.truth b)) ∧ Grown W w' := by
  unfold Pl.truth
  cases b
  all_goals
    go_enter Tryz.func96, Tryz.ntmps96
    go_wp2_with fail
    exact bodyPost_ret (by simp [results, Tryz.results96, go_sem]) rfl ⟨rfl, by (repeat (first | exact Grown.refl _ | assumption | apply Grown.drew | apply Grown.alloc | (refine Grown.setCell ?_ (by simp) _)))⟩
def Lies (W : World) (g off : Nat) (l : List Value) : Prop := g < W.heap.size ∧ ∀ j u, l[j]? = some u → W.cell? ⟨g, off + j, none⟩ = some u
theorem Lies.fr {P : Nat → Prop} {W W' : World} {g off : Nat} {l : List Value} (h : Lies W g off l) (k : Fr P W W') (hg : ¬ P g) : Lies W' g off l := ⟨Nat.lt_of_lt_of_le h.1 k.2.2.1, fun j u hj => (k.cell (a := ⟨g, off + j, none⟩) h.1 hg).trans (h.2 j u hj)⟩
section
variable (base p : Nat) (L : List Pl.Ob) (W : World) (hlen : L.length ≤ 300) (h : RS base p L W)
include hlen h
omit hlen in
theorem rtake_under (n : Nat) (hn : n = 1 ∨ n = 2) (hL : L.length < n) (b c : Nat) :
    Calls Tryz.prog 85 #[.pointer (some ⟨p, 0, none⟩), .slice (some ⟨b, 0, none⟩) n c] W fun e w' => e = .returned (.tuple #[.slice none 0 0, .int .i64 7]) ∧ Fr (fun _ => False) W w' := by
  obtain ⟨v, hS⟩ := h
  obtain ⟨ao, cap, rfl⟩ := hS.slice
  have h0 := hS.1
  obtain ⟨M, hM⟩ : ∃ M, M = L.length := ⟨_, rfl⟩
  rw [← hM] at h0 hL
  have e1 : (M : Int) < (n : Int) := by omega
  clear hS hM hn hL
  go_enter Tryz.func85, Tryz.ntmps85
  go_wp2_with fail
  go_ret2
  exact ⟨rfl, Fr.refl _ _⟩
theorem rtake2_ok (o0 o1 : Pl.Ob) (J : Nat) (hn : L.length = J + 2) (h0 : L[J + 0]? = some o0) (h1 : L[J + 1]? = some o1) (b c : Nat) (hc : 2 ≤ c) (k0 k1 : Int) (hk0 : k0 = 100 ∨ k0 = 101 ∨ k0 = 102 ∨ k0 = 3) (hk1 : k1 = 100 ∨ k1 = 101 ∨ k1 = 102 ∨ k1 = 3) (c0 : W.cell? ⟨b, 0, none⟩ = some (.int .i64 k0)) (c1 : W.cell? ⟨b, 1, none⟩ = some (.int .i64 k1)) (f1 : Pl.rfits k1 o1.1 = true) (f0 : Pl.rfits k0 o0.1 = true) :
    Calls Tryz.prog 85 #[.pointer (some ⟨p, 0, none⟩), .slice (some ⟨b, 0, none⟩) 2 c] W fun e w' => Fr (fun _ => False) W w' ∧ ∃ g cap, g ≠ p ∧ Lies w' g (J * 6) (Pl.oc o0 ++ Pl.oc o1) ∧ 2 ≤ cap ∧ e = .returned (.tuple #[.slice (some ⟨g, J * 6, none⟩) 2 cap, .int .i64 0]) := by
  obtain ⟨g, cap, p0, _, hcap, hgp, hgl, hrow⟩ := h.tail J 1 hn
  have hb := block_lt_of_cell c0
  have F1 := Lib.hid (fun Z => rfits_any o1 k1 hk1 Z)
  rw [f1] at F1
  have F0 := Lib.hid (fun Z => rfits_any o0 k0 hk0 Z)
  rw [f0] at F0
  obtain ⟨q0, x0, n0, a0, l0, s0⟩ := o0
  have r0 := hrow 0 _ h0
  obtain ⟨q1, x1, n1, a1, l1, s1⟩ := o1
  have r1 := hrow 1 _ h1
  obtain ⟨C, hC⟩ : ∃ C : World → Prop, C = Cells W [((⟨p, 0, none⟩ : Addr), (.slice (some ⟨g, 0, none⟩) (J + 2) cap : Value)), ((⟨g, J * 6, none⟩ : Addr), (.int .i64 q0 : Value)), ((⟨g, J * 6 + 1, none⟩ : Addr), (.bool x0 : Value)), ((⟨g, J * 6 + 2, none⟩ : Addr), (.int .i64 n0 : Value)), ((⟨g, J * 6 + 3, none⟩ : Addr), (.int .i64 a0 : Value)), ((⟨g, J * 6 + 4, none⟩ : Addr), (.int .i64 l0 : Value)), ((⟨g, J * 6 + 5, none⟩ : Addr), (.string s0 : Value)), ((⟨g, J * 6 + 6, none⟩ : Addr), (.int .i64 q1 : Value)), ((⟨g, J * 6 + 7, none⟩ : Addr), (.bool x1 : Value)), ((⟨g, J * 6 + 8, none⟩ : Addr), (.int .i64 n1 : Value)), ((⟨g, J * 6 + 9, none⟩ : Addr), (.int .i64 a1 : Value)), ((⟨g, J * 6 + 10, none⟩ : Addr), (.int .i64 l1 : Value)), ((⟨g, J * 6 + 11, none⟩ : Addr), (.string s1 : Value)), ((⟨b, 0, none⟩ : Addr), (.int .i64 k0 : Value)), ((⟨b, 1, none⟩ : Addr), (.int .i64 k1 : Value))] := ⟨_, rfl⟩
  have HC0 : Hid (C W) := Lib.hid (by rw [hC]; exact ⟨p0, (by have := r0 0 _ rfl; rw [show (J + 0) * 6 + 0 = J * 6 + 0 by omega] at this; exact this), (by have := r0 1 _ rfl; rw [show (J + 0) * 6 + 1 = J * 6 + 1 by omega] at this; exact this), (by have := r0 2 _ rfl; rw [show (J + 0) * 6 + 2 = J * 6 + 2 by omega] at this; exact this), (by have := r0 3 _ rfl; rw [show (J + 0) * 6 + 3 = J * 6 + 3 by omega] at this; exact this), (by have := r0 4 _ rfl; rw [show (J + 0) * 6 + 4 = J * 6 + 4 by omega] at this; exact this), (by have := r0 5 _ rfl; rw [show (J + 0) * 6 + 5 = J * 6 + 5 by omega] at this; exact this), (by have := r1 0 _ rfl; rw [show (J + 1) * 6 + 0 = J * 6 + 6 by omega] at this; exact this), (by have := r1 1 _ rfl; rw [show (J + 1) * 6 + 1 = J * 6 + 7 by omega] at this; exact this), (by have := r1 2 _ rfl; rw [show (J + 1) * 6 + 2 = J * 6 + 8 by omega] at this; exact this), (by have := r1 3 _ rfl; rw [show (J + 1) * 6 + 3 = J * 6 + 9 by omega] at this; exact this), (by have := r1 4 _ rfl; rw [show (J + 1) * 6 + 4 = J * 6 + 10 by omega] at this; exact this), (by have := r1 5 _ rfl; rw [show (J + 1) * 6 + 5 = J * 6 + 11 by omega] at this; exact this), c0, c1, Fr.refl _ _⟩)
  have T0 : ∀ Z, C Z → Z.cell? ⟨p, 0, none⟩ = some (.slice (some ⟨g, 0, none⟩) (J + 2) cap) := fun Z h => by rw [hC] at h; exact h.1
  have T1 : ∀ Z, C Z → Z.cell? ⟨g, J * 6, none⟩ = some (.int .i64 q0) := fun Z h => by rw [hC] at h; exact h.2.1
  have T2 : ∀ Z, C Z → Z.cell? ⟨g, J * 6 + 1, none⟩ = some (.bool x0) := fun Z h => by rw [hC] at h; exact h.2.2.1
  have T3 : ∀ Z, C Z → Z.cell? ⟨g, J * 6 + 2, none⟩ = some (.int .i64 n0) := fun Z h => by rw [hC] at h; exact h.2.2.2.1
  have T4 : ∀ Z, C Z → Z.cell? ⟨g, J * 6 + 3, none⟩ = some (.int .i64 a0) := fun Z h => by rw [hC] at h; exact h.2.2.2.2.1
  have T5 : ∀ Z, C Z → Z.cell? ⟨g, J * 6 + 4, none⟩ = some (.int .i64 l0) := fun Z h => by rw [hC] at h; exact h.2.2.2.2.2.1
  have T6 : ∀ Z, C Z → Z.cell? ⟨g, J * 6 + 5, none⟩ = some (.string s0) := fun Z h => by rw [hC] at h; exact h.2.2.2.2.2.2.1
  have T7 : ∀ Z, C Z → Z.cell? ⟨g, J * 6 + 6, none⟩ = some (.int .i64 q1) := fun Z h => by rw [hC] at h; exact h.2.2.2.2.2.2.2.1
  have T8 : ∀ Z, C Z → Z.cell? ⟨g, J * 6 + 7, none⟩ = some (.bool x1) := fun Z h => by rw [hC] at h; exact h.2.2.2.2.2.2.2.2.1
  have T9 : ∀ Z, C Z → Z.cell? ⟨g, J * 6 + 8, none⟩ = some (.int .i64 n1) := fun Z h => by rw [hC] at h; exact h.2.2.2.2.2.2.2.2.2.1
  have T10 : ∀ Z, C Z → Z.cell? ⟨g, J * 6 + 9, none⟩ = some (.int .i64 a1) := fun Z h => by rw [hC] at h; exact h.2.2.2.2.2.2.2.2.2.2.1
  have T11 : ∀ Z, C Z → Z.cell? ⟨g, J * 6 + 10, none⟩ = some (.int .i64 l1) := fun Z h => by rw [hC] at h; exact h.2.2.2.2.2.2.2.2.2.2.2.1
  have T12 : ∀ Z, C Z → Z.cell? ⟨g, J * 6 + 11, none⟩ = some (.string s1) := fun Z h => by rw [hC] at h; exact h.2.2.2.2.2.2.2.2.2.2.2.2.1
  have T13 : ∀ Z, C Z → Z.cell? ⟨b, 0, none⟩ = some (.int .i64 k0) := fun Z h => by rw [hC] at h; exact h.2.2.2.2.2.2.2.2.2.2.2.2.2.1
  have T14 : ∀ Z, C Z → Z.cell? ⟨b, 1, none⟩ = some (.int .i64 k1) := fun Z h => by rw [hC] at h; exact h.2.2.2.2.2.2.2.2.2.2.2.2.2.2.1
  have CF : Hid (∀ Z Z', C Z → Fr (fun _ => False) Z Z' → C Z') := Lib.hid (fun Z Z' h k => by rw [hC] at h ⊢; exact h.fr k)
  have TF : Hid (∀ Z, C Z → Fr (fun _ => False) W Z) := Lib.hid (fun Z h => by rw [hC] at h; exact h.frame)
  clear hC
  have G1 : Hid (∀ Z, Calls Tryz.prog 115 #[.agg #[.int .i64 q1, .bool x1, .int .i64 n1, .int .i64 a1, .int .i64 l1, .string s1], .int .i64 k1] Z fun e w' => e = .returned (.bool true) ∧ Grown Z w') := F1
  have G0 : Hid (∀ Z, Calls Tryz.prog 115 #[.agg #[.int .i64 q0, .bool x0, .int .i64 n0, .int .i64 a0, .int .i64 l0, .string s0], .int .i64 k0] Z fun e w' => e = .returned (.bool true) ∧ Grown Z w') := F0
  have LF1 := Lib.hid (fun Z (h : C Z) => (G1.out Z).mono fun en w' hh => (⟨hh.1, CF.out _ _ h (Fr.of_grown _ hh.2)⟩ : _ ∧ C w'))
  have LF0 := Lib.hid (fun Z (h : C Z) => (G0.out Z).mono fun en w' hh => (⟨hh.1, CF.out _ _ h (Fr.of_grown _ hh.2)⟩ : _ ∧ C w'))
  clear F1 G1 f1 hk1 F0 G0 f0 hk0
  have e1 : ((J + 2 : Nat) : Int) - 2 = (J : Int) := by omega
  have e2 : (J : Int) ≤ 300 := by omega
  have e3 : (J : Int) ≤ (cap : Int) := by omega
  have e4 : (0 : Int) ≤ (J : Int) := by omega
  have e5 : ¬ (((J + 2 : Nat) : Int) < 2) := by omega
  have e6 : (J : Int) ≤ (J : Int) + 2 := by omega
  have e7 : ¬ cap = J := by omega
  have ew : IntKind.i64.wrap (J : Int) = (J : Int) := by unfold IntKind.wrap IntKind.bits IntKind.signed; simp; omega
  have HG := Lib.hid (And.intro hgp (And.intro hgl hcap))
  clear hcap hgp hgl hrow hb hn hlen h r0 h0 c0 r1 h1 c1
  go_enter Tryz.func85, Tryz.ntmps85
  go_wp2_with fail
  refine wp_region_class (C := C) (by kernel_rfl) (by kernel_rfl) (CF.out _ _ HC0.out ((Fr.refl _ _).drew)) ?_
  repeat
    first
      | (refine quiet_no (by rfl) ?_
         try simp only [Act.put, List.setIfInBounds_toArray, List.set_cons_zero, List.set_cons_succ])
      | (refine quiet_yes ?_ (by rfl) (fun Z hZ => ?_) ?_
         rotate_left
         · unfold qAt Oper.quietAt
           first
             | (go_simp
                (all_goals first | with_reducible rfl )
                done)
             | (have t0 := T0 Z hZ; have t1 := T1 Z hZ; have t2 := T2 Z hZ; have t3 := T3 Z hZ; have t4 := T4 Z hZ; have t5 := T5 Z hZ; have t6 := T6 Z hZ; have t7 := T7 Z hZ; have t8 := T8 Z hZ; have t9 := T9 Z hZ; have t10 := T10 Z hZ; have t11 := T11 Z hZ; have t12 := T12 Z hZ; have t13 := T13 Z hZ; have t14 := T14 Z hZ
                go_simp
                (all_goals with_reducible rfl)
                done)
         try simp only [Act.put, List.setIfInBounds_toArray, List.set_cons_zero, List.set_cons_succ])
  refine quiet_nil ?_
  intro Z1 hZ1
  clear p0 HC0
  go_wp2_with fail
  refine wp_loop_rounds 3 ?_
  rw [rounds_succ]
  go_wp2_with fail
  refine wp_region_class (C := C) (by kernel_rfl) (by kernel_rfl) (CF.out _ _ hZ1 ((Fr.refl _ _).drew)) ?_
  repeat
    first
      | (refine quiet_no (by rfl) ?_
         try simp only [Act.put, List.setIfInBounds_toArray, List.set_cons_zero, List.set_cons_succ])
      | (refine quiet_yes ?_ (by rfl) (fun Z hZ => ?_) ?_
         rotate_left
         · unfold qAt Oper.quietAt
           first
             | (go_simp
                (all_goals first | with_reducible rfl | (with_reducible exact LF1.out Z hZ))
                done)
             | (have t0 := T0 Z hZ; have t1 := T1 Z hZ; have t2 := T2 Z hZ; have t3 := T3 Z hZ; have t4 := T4 Z hZ; have t5 := T5 Z hZ; have t6 := T6 Z hZ; have t7 := T7 Z hZ; have t8 := T8 Z hZ; have t9 := T9 Z hZ; have t10 := T10 Z hZ; have t11 := T11 Z hZ; have t12 := T12 Z hZ; have t13 := T13 Z hZ; have t14 := T14 Z hZ
                go_simp
                (all_goals with_reducible rfl)
                done)
         try simp only [Act.put, List.setIfInBounds_toArray, List.set_cons_zero, List.set_cons_succ])
  refine quiet_nil ?_
  intro Z2 hZ2
  clear LF1
  go_wp2_with fail
  rw [rounds_succ]
  go_wp2_with fail
  refine wp_region_class (C := C) (by kernel_rfl) (by kernel_rfl) (CF.out _ _ hZ2 ((Fr.refl _ _).drew)) ?_
  repeat
    first
      | (refine quiet_no (by rfl) ?_
         try simp only [Act.put, List.setIfInBounds_toArray, List.set_cons_zero, List.set_cons_succ])
      | (refine quiet_yes ?_ (by rfl) (fun Z hZ => ?_) ?_
         rotate_left
         · unfold qAt Oper.quietAt
           first
             | (go_simp
                (all_goals first | with_reducible rfl | (with_reducible exact LF0.out Z hZ))
                done)
             | (have t0 := T0 Z hZ; have t1 := T1 Z hZ; have t2 := T2 Z hZ; have t3 := T3 Z hZ; have t4 := T4 Z hZ; have t5 := T5 Z hZ; have t6 := T6 Z hZ; have t7 := T7 Z hZ; have t8 := T8 Z hZ; have t9 := T9 Z hZ; have t10 := T10 Z hZ; have t11 := T11 Z hZ; have t12 := T12 Z hZ; have t13 := T13 Z hZ; have t14 := T14 Z hZ
                go_simp
                (all_goals with_reducible rfl)
                done)
         try simp only [Act.put, List.setIfInBounds_toArray, List.set_cons_zero, List.set_cons_succ])
  refine quiet_nil ?_
  intro Z3 hZ3
  clear LF0
  go_wp2_with fail
  rw [rounds_succ]
  go_wp2_with fail
  go_ret2
  have FZ := TF.out _ hZ3
  refine ⟨FZ, g, _, HG.out.1, ⟨Nat.lt_of_lt_of_le HG.out.2.1 FZ.2.2.1, fun j u hu => ?_⟩, ?_, rfl⟩
  · have hj := (List.getElem?_eq_some_iff.1 hu).1
    simp only [Pl.oc, List.cons_append, List.nil_append, List.length_cons, List.length_nil] at hj
    rcases (show j = 0 ∨ j = 1 ∨ j = 2 ∨ j = 3 ∨ j = 4 ∨ j = 5 ∨ j = 6 ∨ j = 7 ∨ j = 8 ∨ j = 9 ∨ j = 10 ∨ j = 11 by omega) with rfl | rfl | rfl | rfl | rfl | rfl | rfl | rfl | rfl | rfl | rfl | rfl
    all_goals
      simp [Pl.oc] at hu
      subst hu
      first | exact T1 _ hZ3 | exact T2 _ hZ3 | exact T3 _ hZ3 | exact T4 _ hZ3 | exact T5 _ hZ3 | exact T6 _ hZ3 | exact T7 _ hZ3 | exact T8 _ hZ3 | exact T9 _ hZ3 | exact T10 _ hZ3 | exact T11 _ hZ3 | exact T12 _ hZ3
  · have := HG.out.2.2
    omega
theorem rtake2_bad (o0 o1 : Pl.Ob) (J : Nat) (hn : L.length = J + 2) (h0 : L[J + 0]? = some o0) (h1 : L[J + 1]? = some o1) (b c : Nat) (hc : 2 ≤ c) (k0 k1 : Int) (hk0 : k0 = 100 ∨ k0 = 101 ∨ k0 = 102 ∨ k0 = 3) (hk1 : k1 = 100 ∨ k1 = 101 ∨ k1 = 102 ∨ k1 = 3) (c0 : W.cell? ⟨b, 0, none⟩ = some (.int .i64 k0)) (c1 : W.cell? ⟨b, 1, none⟩ = some (.int .i64 k1)) (f1 : Pl.rfits k1 o1.1 = false) :
    Calls Tryz.prog 85 #[.pointer (some ⟨p, 0, none⟩), .slice (some ⟨b, 0, none⟩) 2 c] W fun e w' => e = .returned (.tuple #[.slice none 0 0, .int .i64 6]) ∧ Fr (fun _ => False) W w' := by
  obtain ⟨g, cap, p0, _, hcap, hgp, hgl, hrow⟩ := h.tail J 1 hn
  have hb := block_lt_of_cell c0
  have F1 := Lib.hid (fun Z => rfits_any o1 k1 hk1 Z)
  rw [f1] at F1
  obtain ⟨q0, x0, n0, a0, l0, s0⟩ := o0
  have r0 := hrow 0 _ h0
  obtain ⟨q1, x1, n1, a1, l1, s1⟩ := o1
  have r1 := hrow 1 _ h1
  obtain ⟨C, hC⟩ : ∃ C : World → Prop, C = Cells W [((⟨p, 0, none⟩ : Addr), (.slice (some ⟨g, 0, none⟩) (J + 2) cap : Value)), ((⟨g, J * 6, none⟩ : Addr), (.int .i64 q0 : Value)), ((⟨g, J * 6 + 1, none⟩ : Addr), (.bool x0 : Value)), ((⟨g, J * 6 + 2, none⟩ : Addr), (.int .i64 n0 : Value)), ((⟨g, J * 6 + 3, none⟩ : Addr), (.int .i64 a0 : Value)), ((⟨g, J * 6 + 4, none⟩ : Addr), (.int .i64 l0 : Value)), ((⟨g, J * 6 + 5, none⟩ : Addr), (.string s0 : Value)), ((⟨g, J * 6 + 6, none⟩ : Addr), (.int .i64 q1 : Value)), ((⟨g, J * 6 + 7, none⟩ : Addr), (.bool x1 : Value)), ((⟨g, J * 6 + 8, none⟩ : Addr), (.int .i64 n1 : Value)), ((⟨g, J * 6 + 9, none⟩ : Addr), (.int .i64 a1 : Value)), ((⟨g, J * 6 + 10, none⟩ : Addr), (.int .i64 l1 : Value)), ((⟨g, J * 6 + 11, none⟩ : Addr), (.string s1 : Value)), ((⟨b, 0, none⟩ : Addr), (.int .i64 k0 : Value)), ((⟨b, 1, none⟩ : Addr), (.int .i64 k1 : Value))] := ⟨_, rfl⟩
  have HC0 : Hid (C W) := Lib.hid (by rw [hC]; exact ⟨p0, (by have := r0 0 _ rfl; rw [show (J + 0) * 6 + 0 = J * 6 + 0 by omega] at this; exact this), (by have := r0 1 _ rfl; rw [show (J + 0) * 6 + 1 = J * 6 + 1 by omega] at this; exact this), (by have := r0 2 _ rfl; rw [show (J + 0) * 6 + 2 = J * 6 + 2 by omega] at this; exact this), (by have := r0 3 _ rfl; rw [show (J + 0) * 6 + 3 = J * 6 + 3 by omega] at this; exact this), (by have := r0 4 _ rfl; rw [show (J + 0) * 6 + 4 = J * 6 + 4 by omega] at this; exact this), (by have := r0 5 _ rfl; rw [show (J + 0) * 6 + 5 = J * 6 + 5 by omega] at this; exact this), (by have := r1 0 _ rfl; rw [show (J + 1) * 6 + 0 = J * 6 + 6 by omega] at this; exact this), (by have := r1 1 _ rfl; rw [show (J + 1) * 6 + 1 = J * 6 + 7 by omega] at this; exact this), (by have := r1 2 _ rfl; rw [show (J + 1) * 6 + 2 = J * 6 + 8 by omega] at this; exact this), (by have := r1 3 _ rfl; rw [show (J + 1) * 6 + 3 = J * 6 + 9 by omega] at this; exact this), (by have := r1 4 _ rfl; rw [show (J + 1) * 6 + 4 = J * 6 + 10 by omega] at this; exact this), (by have := r1 5 _ rfl; rw [show (J + 1) * 6 + 5 = J * 6 + 11 by omega] at this; exact this), c0, c1, Fr.refl _ _⟩)
  have T0 : ∀ Z, C Z → Z.cell? ⟨p, 0, none⟩ = some (.slice (some ⟨g, 0, none⟩) (J + 2) cap) := fun Z h => by rw [hC] at h; exact h.1
  have T1 : ∀ Z, C Z → Z.cell? ⟨g, J * 6, none⟩ = some (.int .i64 q0) := fun Z h => by rw [hC] at h; exact h.2.1
  have T2 : ∀ Z, C Z → Z.cell? ⟨g, J * 6 + 1, none⟩ = some (.bool x0) := fun Z h => by rw [hC] at h; exact h.2.2.1
  have T3 : ∀ Z, C Z → Z.cell? ⟨g, J * 6 + 2, none⟩ = some (.int .i64 n0) := fun Z h => by rw [hC] at h; exact h.2.2.2.1
  have T4 : ∀ Z, C Z → Z.cell? ⟨g, J * 6 + 3, none⟩ = some (.int .i64 a0) := fun Z h => by rw [hC] at h; exact h.2.2.2.2.1
  have T5 : ∀ Z, C Z → Z.cell? ⟨g, J * 6 + 4, none⟩ = some (.int .i64 l0) := fun Z h => by rw [hC] at h; exact h.2.2.2.2.2.1
  have T6 : ∀ Z, C Z → Z.cell? ⟨g, J * 6 + 5, none⟩ = some (.string s0) := fun Z h => by rw [hC] at h; exact h.2.2.2.2.2.2.1
  have T7 : ∀ Z, C Z → Z.cell? ⟨g, J * 6 + 6, none⟩ = some (.int .i64 q1) := fun Z h => by rw [hC] at h; exact h.2.2.2.2.2.2.2.1
  have T8 : ∀ Z, C Z → Z.cell? ⟨g, J * 6 + 7, none⟩ = some (.bool x1) := fun Z h => by rw [hC] at h; exact h.2.2.2.2.2.2.2.2.1
  have T9 : ∀ Z, C Z → Z.cell? ⟨g, J * 6 + 8, none⟩ = some (.int .i64 n1) := fun Z h => by rw [hC] at h; exact h.2.2.2.2.2.2.2.2.2.1
  have T10 : ∀ Z, C Z → Z.cell? ⟨g, J * 6 + 9, none⟩ = some (.int .i64 a1) := fun Z h => by rw [hC] at h; exact h.2.2.2.2.2.2.2.2.2.2.1
  have T11 : ∀ Z, C Z → Z.cell? ⟨g, J * 6 + 10, none⟩ = some (.int .i64 l1) := fun Z h => by rw [hC] at h; exact h.2.2.2.2.2.2.2.2.2.2.2.1
  have T12 : ∀ Z, C Z → Z.cell? ⟨g, J * 6 + 11, none⟩ = some (.string s1) := fun Z h => by rw [hC] at h; exact h.2.2.2.2.2.2.2.2.2.2.2.2.1
  have T13 : ∀ Z, C Z → Z.cell? ⟨b, 0, none⟩ = some (.int .i64 k0) := fun Z h => by rw [hC] at h; exact h.2.2.2.2.2.2.2.2.2.2.2.2.2.1
  have T14 : ∀ Z, C Z → Z.cell? ⟨b, 1, none⟩ = some (.int .i64 k1) := fun Z h => by rw [hC] at h; exact h.2.2.2.2.2.2.2.2.2.2.2.2.2.2.1
  have CF : Hid (∀ Z Z', C Z → Fr (fun _ => False) Z Z' → C Z') := Lib.hid (fun Z Z' h k => by rw [hC] at h ⊢; exact h.fr k)
  have TF : Hid (∀ Z, C Z → Fr (fun _ => False) W Z) := Lib.hid (fun Z h => by rw [hC] at h; exact h.frame)
  clear hC
  have G1 : Hid (∀ Z, Calls Tryz.prog 115 #[.agg #[.int .i64 q1, .bool x1, .int .i64 n1, .int .i64 a1, .int .i64 l1, .string s1], .int .i64 k1] Z fun e w' => e = .returned (.bool false) ∧ Grown Z w') := F1
  have LF1 := Lib.hid (fun Z (h : C Z) => (G1.out Z).mono fun en w' hh => (⟨hh.1, CF.out _ _ h (Fr.of_grown _ hh.2)⟩ : _ ∧ C w'))
  clear F1 G1 f1 hk1
  have e1 : ((J + 2 : Nat) : Int) - 2 = (J : Int) := by omega
  have e2 : (J : Int) ≤ 300 := by omega
  have e3 : (J : Int) ≤ (cap : Int) := by omega
  have e4 : (0 : Int) ≤ (J : Int) := by omega
  have e5 : ¬ (((J + 2 : Nat) : Int) < 2) := by omega
  have e6 : (J : Int) ≤ (J : Int) + 2 := by omega
  have e7 : ¬ cap = J := by omega
  have ew : IntKind.i64.wrap (J : Int) = (J : Int) := by unfold IntKind.wrap IntKind.bits IntKind.signed; simp; omega
  have HG := Lib.hid (And.intro hgp (And.intro hgl hcap))
  clear hcap hgp hgl hrow hb hn hlen h r0 h0 c0 r1 h1 c1
  go_enter Tryz.func85, Tryz.ntmps85
  go_wp2_with fail
  refine wp_region_class (C := C) (by kernel_rfl) (by kernel_rfl) (CF.out _ _ HC0.out ((Fr.refl _ _).drew)) ?_
  repeat
    first
      | (refine quiet_no (by rfl) ?_
         try simp only [Act.put, List.setIfInBounds_toArray, List.set_cons_zero, List.set_cons_succ])
      | (refine quiet_yes ?_ (by rfl) (fun Z hZ => ?_) ?_
         rotate_left
         · unfold qAt Oper.quietAt
           first
             | (go_simp
                (all_goals first | with_reducible rfl )
                done)
             | (have t0 := T0 Z hZ; have t1 := T1 Z hZ; have t2 := T2 Z hZ; have t3 := T3 Z hZ; have t4 := T4 Z hZ; have t5 := T5 Z hZ; have t6 := T6 Z hZ; have t7 := T7 Z hZ; have t8 := T8 Z hZ; have t9 := T9 Z hZ; have t10 := T10 Z hZ; have t11 := T11 Z hZ; have t12 := T12 Z hZ; have t13 := T13 Z hZ; have t14 := T14 Z hZ
                go_simp
                (all_goals with_reducible rfl)
                done)
         try simp only [Act.put, List.setIfInBounds_toArray, List.set_cons_zero, List.set_cons_succ])
  refine quiet_nil ?_
  intro Z1 hZ1
  clear p0 HC0
  go_wp2_with fail
  refine wp_loop_rounds 3 ?_
  rw [rounds_succ]
  go_wp2_with fail
  refine wp_region_class (C := C) (by kernel_rfl) (by kernel_rfl) (CF.out _ _ hZ1 ((Fr.refl _ _).drew)) ?_
  repeat
    first
      | (refine quiet_no (by rfl) ?_
         try simp only [Act.put, List.setIfInBounds_toArray, List.set_cons_zero, List.set_cons_succ])
      | (refine quiet_yes ?_ (by rfl) (fun Z hZ => ?_) ?_
         rotate_left
         · unfold qAt Oper.quietAt
           first
             | (go_simp
                (all_goals first | with_reducible rfl | (with_reducible exact LF1.out Z hZ))
                done)
             | (have t0 := T0 Z hZ; have t1 := T1 Z hZ; have t2 := T2 Z hZ; have t3 := T3 Z hZ; have t4 := T4 Z hZ; have t5 := T5 Z hZ; have t6 := T6 Z hZ; have t7 := T7 Z hZ; have t8 := T8 Z hZ; have t9 := T9 Z hZ; have t10 := T10 Z hZ; have t11 := T11 Z hZ; have t12 := T12 Z hZ; have t13 := T13 Z hZ; have t14 := T14 Z hZ
                go_simp
                (all_goals with_reducible rfl)
                done)
         try simp only [Act.put, List.setIfInBounds_toArray, List.set_cons_zero, List.set_cons_succ])
  refine quiet_nil ?_
  intro Z2 hZ2
  clear LF1
  go_wp2_with fail
  go_ret2
  exact ⟨rfl, TF.out _ hZ2⟩
theorem rtake2_bad0 (o0 o1 : Pl.Ob) (J : Nat) (hn : L.length = J + 2) (h0 : L[J + 0]? = some o0) (h1 : L[J + 1]? = some o1) (b c : Nat) (hc : 2 ≤ c) (k0 k1 : Int) (hk0 : k0 = 100 ∨ k0 = 101 ∨ k0 = 102 ∨ k0 = 3) (hk1 : k1 = 100 ∨ k1 = 101 ∨ k1 = 102 ∨ k1 = 3) (c0 : W.cell? ⟨b, 0, none⟩ = some (.int .i64 k0)) (c1 : W.cell? ⟨b, 1, none⟩ = some (.int .i64 k1)) (f1 : Pl.rfits k1 o1.1 = true) (f0 : Pl.rfits k0 o0.1 = false) :
    Calls Tryz.prog 85 #[.pointer (some ⟨p, 0, none⟩), .slice (some ⟨b, 0, none⟩) 2 c] W fun e w' => e = .returned (.tuple #[.slice none 0 0, .int .i64 6]) ∧ Fr (fun _ => False) W w' := by
  obtain ⟨g, cap, p0, _, hcap, hgp, hgl, hrow⟩ := h.tail J 1 hn
  have hb := block_lt_of_cell c0
  have F1 := Lib.hid (fun Z => rfits_any o1 k1 hk1 Z)
  rw [f1] at F1
  have F0 := Lib.hid (fun Z => rfits_any o0 k0 hk0 Z)
  rw [f0] at F0
  obtain ⟨q0, x0, n0, a0, l0, s0⟩ := o0
  have r0 := hrow 0 _ h0
  obtain ⟨q1, x1, n1, a1, l1, s1⟩ := o1
  have r1 := hrow 1 _ h1
  obtain ⟨C, hC⟩ : ∃ C : World → Prop, C = Cells W [((⟨p, 0, none⟩ : Addr), (.slice (some ⟨g, 0, none⟩) (J + 2) cap : Value)), ((⟨g, J * 6, none⟩ : Addr), (.int .i64 q0 : Value)), ((⟨g, J * 6 + 1, none⟩ : Addr), (.bool x0 : Value)), ((⟨g, J * 6 + 2, none⟩ : Addr), (.int .i64 n0 : Value)), ((⟨g, J * 6 + 3, none⟩ : Addr), (.int .i64 a0 : Value)), ((⟨g, J * 6 + 4, none⟩ : Addr), (.int .i64 l0 : Value)), ((⟨g, J * 6 + 5, none⟩ : Addr), (.string s0 : Value)), ((⟨g, J * 6 + 6, none⟩ : Addr), (.int .i64 q1 : Value)), ((⟨g, J * 6 + 7, none⟩ : Addr), (.bool x1 : Value)), ((⟨g, J * 6 + 8, none⟩ : Addr), (.int .i64 n1 : Value)), ((⟨g, J * 6 + 9, none⟩ : Addr), (.int .i64 a1 : Value)), ((⟨g, J * 6 + 10, none⟩ : Addr), (.int .i64 l1 : Value)), ((⟨g, J * 6 + 11, none⟩ : Addr), (.string s1 : Value)), ((⟨b, 0, none⟩ : Addr), (.int .i64 k0 : Value)), ((⟨b, 1, none⟩ : Addr), (.int .i64 k1 : Value))] := ⟨_, rfl⟩
  have HC0 : Hid (C W) := Lib.hid (by rw [hC]; exact ⟨p0, (by have := r0 0 _ rfl; rw [show (J + 0) * 6 + 0 = J * 6 + 0 by omega] at this; exact this), (by have := r0 1 _ rfl; rw [show (J + 0) * 6 + 1 = J * 6 + 1 by omega] at this; exact this), (by have := r0 2 _ rfl; rw [show (J + 0) * 6 + 2 = J * 6 + 2 by omega] at this; exact this), (by have := r0 3 _ rfl; rw [show (J + 0) * 6 + 3 = J * 6 + 3 by omega] at this; exact this), (by have := r0 4 _ rfl; rw [show (J + 0) * 6 + 4 = J * 6 + 4 by omega] at this; exact this), (by have := r0 5 _ rfl; rw [show (J + 0) * 6 + 5 = J * 6 + 5 by omega] at this; exact this), (by have := r1 0 _ rfl; rw [show (J + 1) * 6 + 0 = J * 6 + 6 by omega] at this; exact this), (by have := r1 1 _ rfl; rw [show (J + 1) * 6 + 1 = J * 6 + 7 by omega] at this; exact this), (by have := r1 2 _ rfl; rw [show (J + 1) * 6 + 2 = J * 6 + 8 by omega] at this; exact this), (by have := r1 3 _ rfl; rw [show (J + 1) * 6 + 3 = J * 6 + 9 by omega] at this; exact this), (by have := r1 4 _ rfl; rw [show (J + 1) * 6 + 4 = J * 6 + 10 by omega] at this; exact this), (by have := r1 5 _ rfl; rw [show (J + 1) * 6 + 5 = J * 6 + 11 by omega] at this; exact this), c0, c1, Fr.refl _ _⟩)
  have T0 : ∀ Z, C Z → Z.cell? ⟨p, 0, none⟩ = some (.slice (some ⟨g, 0, none⟩) (J + 2) cap) := fun Z h => by rw [hC] at h; exact h.1
  have T1 : ∀ Z, C Z → Z.cell? ⟨g, J * 6, none⟩ = some (.int .i64 q0) := fun Z h => by rw [hC] at h; exact h.2.1
  have T2 : ∀ Z, C Z → Z.cell? ⟨g, J * 6 + 1, none⟩ = some (.bool x0) := fun Z h => by rw [hC] at h; exact h.2.2.1
  have T3 : ∀ Z, C Z → Z.cell? ⟨g, J * 6 + 2, none⟩ = some (.int .i64 n0) := fun Z h => by rw [hC] at h; exact h.2.2.2.1
  have T4 : ∀ Z, C Z → Z.cell? ⟨g, J * 6 + 3, none⟩ = some (.int .i64 a0) := fun Z h => by rw [hC] at h; exact h.2.2.2.2.1
  have T5 : ∀ Z, C Z → Z.cell? ⟨g, J * 6 + 4, none⟩ = some (.int .i64 l0) := fun Z h => by rw [hC] at h; exact h.2.2.2.2.2.1
  have T6 : ∀ Z, C Z → Z.cell? ⟨g, J * 6 + 5, none⟩ = some (.string s0) := fun Z h => by rw [hC] at h; exact h.2.2.2.2.2.2.1
  have T7 : ∀ Z, C Z → Z.cell? ⟨g, J * 6 + 6, none⟩ = some (.int .i64 q1) := fun Z h => by rw [hC] at h; exact h.2.2.2.2.2.2.2.1
  have T8 : ∀ Z, C Z → Z.cell? ⟨g, J * 6 + 7, none⟩ = some (.bool x1) := fun Z h => by rw [hC] at h; exact h.2.2.2.2.2.2.2.2.1
  have T9 : ∀ Z, C Z → Z.cell? ⟨g, J * 6 + 8, none⟩ = some (.int .i64 n1) := fun Z h => by rw [hC] at h; exact h.2.2.2.2.2.2.2.2.2.1
  have T10 : ∀ Z, C Z → Z.cell? ⟨g, J * 6 + 9, none⟩ = some (.int .i64 a1) := fun Z h => by rw [hC] at h; exact h.2.2.2.2.2.2.2.2.2.2.1
  have T11 : ∀ Z, C Z → Z.cell? ⟨g, J * 6 + 10, none⟩ = some (.int .i64 l1) := fun Z h => by rw [hC] at h; exact h.2.2.2.2.2.2.2.2.2.2.2.1
  have T12 : ∀ Z, C Z → Z.cell? ⟨g, J * 6 + 11, none⟩ = some (.string s1) := fun Z h => by rw [hC] at h; exact h.2.2.2.2.2.2.2.2.2.2.2.2.1
  have T13 : ∀ Z, C Z → Z.cell? ⟨b, 0, none⟩ = some (.int .i64 k0) := fun Z h => by rw [hC] at h; exact h.2.2.2.2.2.2.2.2.2.2.2.2.2.1
  have T14 : ∀ Z, C Z → Z.cell? ⟨b, 1, none⟩ = some (.int .i64 k1) := fun Z h => by rw [hC] at h; exact h.2.2.2.2.2.2.2.2.2.2.2.2.2.2.1
  have CF : Hid (∀ Z Z', C Z → Fr (fun _ => False) Z Z' → C Z') := Lib.hid (fun Z Z' h k => by rw [hC] at h ⊢; exact h.fr k)
  have TF : Hid (∀ Z, C Z → Fr (fun _ => False) W Z) := Lib.hid (fun Z h => by rw [hC] at h; exact h.frame)
  clear hC
  have G1 : Hid (∀ Z, Calls Tryz.prog 115 #[.agg #[.int .i64 q1, .bool x1, .int .i64 n1, .int .i64 a1, .int .i64 l1, .string s1], .int .i64 k1] Z fun e w' => e = .returned (.bool true) ∧ Grown Z w') := F1
  have G0 : Hid (∀ Z, Calls Tryz.prog 115 #[.agg #[.int .i64 q0, .bool x0, .int .i64 n0, .int .i64 a0, .int .i64 l0, .string s0], .int .i64 k0] Z fun e w' => e = .returned (.bool false) ∧ Grown Z w') := F0
  have LF1 := Lib.hid (fun Z (h : C Z) => (G1.out Z).mono fun en w' hh => (⟨hh.1, CF.out _ _ h (Fr.of_grown _ hh.2)⟩ : _ ∧ C w'))
  have LF0 := Lib.hid (fun Z (h : C Z) => (G0.out Z).mono fun en w' hh => (⟨hh.1, CF.out _ _ h (Fr.of_grown _ hh.2)⟩ : _ ∧ C w'))
  clear F1 G1 f1 hk1 F0 G0 f0 hk0
  have e1 : ((J + 2 : Nat) : Int) - 2 = (J : Int) := by omega
  have e2 : (J : Int) ≤ 300 := by omega
  have e3 : (J : Int) ≤ (cap : Int) := by omega
  have e4 : (0 : Int) ≤ (J : Int) := by omega
  have e5 : ¬ (((J + 2 : Nat) : Int) < 2) := by omega
  have e6 : (J : Int) ≤ (J : Int) + 2 := by omega
  have e7 : ¬ cap = J := by omega
  have ew : IntKind.i64.wrap (J : Int) = (J : Int) := by unfold IntKind.wrap IntKind.bits IntKind.signed; simp; omega
  have HG := Lib.hid (And.intro hgp (And.intro hgl hcap))
  clear hcap hgp hgl hrow hb hn hlen h r0 h0 c0 r1 h1 c1
  go_enter Tryz.func85, Tryz.ntmps85
  go_wp2_with fail
  refine wp_region_class (C := C) (by kernel_rfl) (by kernel_rfl) (CF.out _ _ HC0.out ((Fr.refl _ _).drew)) ?_
  repeat
    first
      | (refine quiet_no (by rfl) ?_
         try simp only [Act.put, List.setIfInBounds_toArray, List.set_cons_zero, List.set_cons_succ])
      | (refine quiet_yes ?_ (by rfl) (fun Z hZ => ?_) ?_
         rotate_left
         · unfold qAt Oper.quietAt
           first
             | (go_simp
                (all_goals first | with_reducible rfl )
                done)
             | (have t0 := T0 Z hZ; have t1 := T1 Z hZ; have t2 := T2 Z hZ; have t3 := T3 Z hZ; have t4 := T4 Z hZ; have t5 := T5 Z hZ; have t6 := T6 Z hZ; have t7 := T7 Z hZ; have t8 := T8 Z hZ; have t9 := T9 Z hZ; have t10 := T10 Z hZ; have t11 := T11 Z hZ; have t12 := T12 Z hZ; have t13 := T13 Z hZ; have t14 := T14 Z hZ
                go_simp
                (all_goals with_reducible rfl)
                done)
         try simp only [Act.put, List.setIfInBounds_toArray, List.set_cons_zero, List.set_cons_succ])
  refine quiet_nil ?_
  intro Z1 hZ1
  clear p0 HC0
  go_wp2_with fail
  refine wp_loop_rounds 3 ?_
  rw [rounds_succ]
  go_wp2_with fail
  refine wp_region_class (C := C) (by kernel_rfl) (by kernel_rfl) (CF.out _ _ hZ1 ((Fr.refl _ _).drew)) ?_
  repeat
    first
      | (refine quiet_no (by rfl) ?_
         try simp only [Act.put, List.setIfInBounds_toArray, List.set_cons_zero, List.set_cons_succ])
      | (refine quiet_yes ?_ (by rfl) (fun Z hZ => ?_) ?_
         rotate_left
         · unfold qAt Oper.quietAt
           first
             | (go_simp
                (all_goals first | with_reducible rfl | (with_reducible exact LF1.out Z hZ))
                done)
             | (have t0 := T0 Z hZ; have t1 := T1 Z hZ; have t2 := T2 Z hZ; have t3 := T3 Z hZ; have t4 := T4 Z hZ; have t5 := T5 Z hZ; have t6 := T6 Z hZ; have t7 := T7 Z hZ; have t8 := T8 Z hZ; have t9 := T9 Z hZ; have t10 := T10 Z hZ; have t11 := T11 Z hZ; have t12 := T12 Z hZ; have t13 := T13 Z hZ; have t14 := T14 Z hZ
                go_simp
                (all_goals with_reducible rfl)
                done)
         try simp only [Act.put, List.setIfInBounds_toArray, List.set_cons_zero, List.set_cons_succ])
  refine quiet_nil ?_
  intro Z2 hZ2
  clear LF1
  go_wp2_with fail
  rw [rounds_succ]
  go_wp2_with fail
  refine wp_region_class (C := C) (by kernel_rfl) (by kernel_rfl) (CF.out _ _ hZ2 ((Fr.refl _ _).drew)) ?_
  repeat
    first
      | (refine quiet_no (by rfl) ?_
         try simp only [Act.put, List.setIfInBounds_toArray, List.set_cons_zero, List.set_cons_succ])
      | (refine quiet_yes ?_ (by rfl) (fun Z hZ => ?_) ?_
         rotate_left
         · unfold qAt Oper.quietAt
           first
             | (go_simp
                (all_goals first | with_reducible rfl | (with_reducible exact LF0.out Z hZ))
                done)
             | (have t0 := T0 Z hZ; have t1 := T1 Z hZ; have t2 := T2 Z hZ; have t3 := T3 Z hZ; have t4 := T4 Z hZ; have t5 := T5 Z hZ; have t6 := T6 Z hZ; have t7 := T7 Z hZ; have t8 := T8 Z hZ; have t9 := T9 Z hZ; have t10 := T10 Z hZ; have t11 := T11 Z hZ; have t12 := T12 Z hZ; have t13 := T13 Z hZ; have t14 := T14 Z hZ
                go_simp
                (all_goals with_reducible rfl)
                done)
         try simp only [Act.put, List.setIfInBounds_toArray, List.set_cons_zero, List.set_cons_succ])
  refine quiet_nil ?_
  intro Z3 hZ3
  clear LF0
  go_wp2_with fail
  go_ret2
  exact ⟨rfl, TF.out _ hZ3⟩
theorem rtake1_ok (o0 : Pl.Ob) (J : Nat) (hn : L.length = J + 1) (h0 : L[J + 0]? = some o0) (b c : Nat) (hc : 1 ≤ c) (k0 : Int) (hk0 : k0 = 100 ∨ k0 = 101 ∨ k0 = 102 ∨ k0 = 3) (c0 : W.cell? ⟨b, 0, none⟩ = some (.int .i64 k0)) (f0 : Pl.rfits k0 o0.1 = true) :
    Calls Tryz.prog 85 #[.pointer (some ⟨p, 0, none⟩), .slice (some ⟨b, 0, none⟩) 1 c] W fun e w' => Fr (fun _ => False) W w' ∧ ∃ g cap, g ≠ p ∧ Lies w' g (J * 6) (Pl.oc o0) ∧ 1 ≤ cap ∧ e = .returned (.tuple #[.slice (some ⟨g, J * 6, none⟩) 1 cap, .int .i64 0]) := by
  obtain ⟨g, cap, p0, _, hcap, hgp, hgl, hrow⟩ := h.tail J 0 hn
  have hb := block_lt_of_cell c0
  have F0 := Lib.hid (fun Z => rfits_any o0 k0 hk0 Z)
  rw [f0] at F0
  obtain ⟨q0, x0, n0, a0, l0, s0⟩ := o0
  have r0 := hrow 0 _ h0
  obtain ⟨C, hC⟩ : ∃ C : World → Prop, C = Cells W [((⟨p, 0, none⟩ : Addr), (.slice (some ⟨g, 0, none⟩) (J + 1) cap : Value)), ((⟨g, J * 6, none⟩ : Addr), (.int .i64 q0 : Value)), ((⟨g, J * 6 + 1, none⟩ : Addr), (.bool x0 : Value)), ((⟨g, J * 6 + 2, none⟩ : Addr), (.int .i64 n0 : Value)), ((⟨g, J * 6 + 3, none⟩ : Addr), (.int .i64 a0 : Value)), ((⟨g, J * 6 + 4, none⟩ : Addr), (.int .i64 l0 : Value)), ((⟨g, J * 6 + 5, none⟩ : Addr), (.string s0 : Value)), ((⟨b, 0, none⟩ : Addr), (.int .i64 k0 : Value))] := ⟨_, rfl⟩
  have HC0 : Hid (C W) := Lib.hid (by rw [hC]; exact ⟨p0, (by have := r0 0 _ rfl; rw [show (J + 0) * 6 + 0 = J * 6 + 0 by omega] at this; exact this), (by have := r0 1 _ rfl; rw [show (J + 0) * 6 + 1 = J * 6 + 1 by omega] at this; exact this), (by have := r0 2 _ rfl; rw [show (J + 0) * 6 + 2 = J * 6 + 2 by omega] at this; exact this), (by have := r0 3 _ rfl; rw [show (J + 0) * 6 + 3 = J * 6 + 3 by omega] at this; exact this), (by have := r0 4 _ rfl; rw [show (J + 0) * 6 + 4 = J * 6 + 4 by omega] at this; exact this), (by have := r0 5 _ rfl; rw [show (J + 0) * 6 + 5 = J * 6 + 5 by omega] at this; exact this), c0, Fr.refl _ _⟩)
  have T0 : ∀ Z, C Z → Z.cell? ⟨p, 0, none⟩ = some (.slice (some ⟨g, 0, none⟩) (J + 1) cap) := fun Z h => by rw [hC] at h; exact h.1
  have T1 : ∀ Z, C Z → Z.cell? ⟨g, J * 6, none⟩ = some (.int .i64 q0) := fun Z h => by rw [hC] at h; exact h.2.1
  have T2 : ∀ Z, C Z → Z.cell? ⟨g, J * 6 + 1, none⟩ = some (.bool x0) := fun Z h => by rw [hC] at h; exact h.2.2.1
  have T3 : ∀ Z, C Z → Z.cell? ⟨g, J * 6 + 2, none⟩ = some (.int .i64 n0) := fun Z h => by rw [hC] at h; exact h.2.2.2.1
  have T4 : ∀ Z, C Z → Z.cell? ⟨g, J * 6 + 3, none⟩ = some (.int .i64 a0) := fun Z h => by rw [hC] at h; exact h.2.2.2.2.1
  have T5 : ∀ Z, C Z → Z.cell? ⟨g, J * 6 + 4, none⟩ = some (.int .i64 l0) := fun Z h => by rw [hC] at h; exact h.2.2.2.2.2.1
  have T6 : ∀ Z, C Z → Z.cell? ⟨g, J * 6 + 5, none⟩ = some (.string s0) := fun Z h => by rw [hC] at h; exact h.2.2.2.2.2.2.1
  have T7 : ∀ Z, C Z → Z.cell? ⟨b, 0, none⟩ = some (.int .i64 k0) := fun Z h => by rw [hC] at h; exact h.2.2.2.2.2.2.2.1
  have CF : Hid (∀ Z Z', C Z → Fr (fun _ => False) Z Z' → C Z') := Lib.hid (fun Z Z' h k => by rw [hC] at h ⊢; exact h.fr k)
  have TF : Hid (∀ Z, C Z → Fr (fun _ => False) W Z) := Lib.hid (fun Z h => by rw [hC] at h; exact h.frame)
  clear hC
  have G0 : Hid (∀ Z, Calls Tryz.prog 115 #[.agg #[.int .i64 q0, .bool x0, .int .i64 n0, .int .i64 a0, .int .i64 l0, .string s0], .int .i64 k0] Z fun e w' => e = .returned (.bool true) ∧ Grown Z w') := F0
  have LF0 := Lib.hid (fun Z (h : C Z) => (G0.out Z).mono fun en w' hh => (⟨hh.1, CF.out _ _ h (Fr.of_grown _ hh.2)⟩ : _ ∧ C w'))
  clear F0 G0 f0 hk0
  have e1 : ((J + 1 : Nat) : Int) - 1 = (J : Int) := by omega
  have e2 : (J : Int) ≤ 300 := by omega
  have e3 : (J : Int) ≤ (cap : Int) := by omega
  have e4 : (0 : Int) ≤ (J : Int) := by omega
  have e5 : ¬ (((J + 1 : Nat) : Int) < 1) := by omega
  have e6 : (J : Int) ≤ (J : Int) + 1 := by omega
  have e7 : ¬ cap = J := by omega
  have ew : IntKind.i64.wrap (J : Int) = (J : Int) := by unfold IntKind.wrap IntKind.bits IntKind.signed; simp; omega
  have HG := Lib.hid (And.intro hgp (And.intro hgl hcap))
  clear hcap hgp hgl hrow hb hn hlen h r0 h0 c0
  go_enter Tryz.func85, Tryz.ntmps85
  go_wp2_with fail
  refine wp_region_class (C := C) (by kernel_rfl) (by kernel_rfl) (CF.out _ _ HC0.out ((Fr.refl _ _).drew)) ?_
  repeat
    first
      | (refine quiet_no (by rfl) ?_
         try simp only [Act.put, List.setIfInBounds_toArray, List.set_cons_zero, List.set_cons_succ])
      | (refine quiet_yes ?_ (by rfl) (fun Z hZ => ?_) ?_
         rotate_left
         · unfold qAt Oper.quietAt
           first
             | (go_simp
                (all_goals first | with_reducible rfl )
                done)
             | (have t0 := T0 Z hZ; have t1 := T1 Z hZ; have t2 := T2 Z hZ; have t3 := T3 Z hZ; have t4 := T4 Z hZ; have t5 := T5 Z hZ; have t6 := T6 Z hZ; have t7 := T7 Z hZ
                go_simp
                (all_goals with_reducible rfl)
                done)
         try simp only [Act.put, List.setIfInBounds_toArray, List.set_cons_zero, List.set_cons_succ])
  refine quiet_nil ?_
  intro Z1 hZ1
  clear p0 HC0
  go_wp2_with fail
  refine wp_loop_rounds 3 ?_
  rw [rounds_succ]
  go_wp2_with fail
  refine wp_region_class (C := C) (by kernel_rfl) (by kernel_rfl) (CF.out _ _ hZ1 ((Fr.refl _ _).drew)) ?_
  repeat
    first
      | (refine quiet_no (by rfl) ?_
         try simp only [Act.put, List.setIfInBounds_toArray, List.set_cons_zero, List.set_cons_succ])
      | (refine quiet_yes ?_ (by rfl) (fun Z hZ => ?_) ?_
         rotate_left
         · unfold qAt Oper.quietAt
           first
             | (go_simp
                (all_goals first | with_reducible rfl | (with_reducible exact LF0.out Z hZ))
                done)
             | (have t0 := T0 Z hZ; have t1 := T1 Z hZ; have t2 := T2 Z hZ; have t3 := T3 Z hZ; have t4 := T4 Z hZ; have t5 := T5 Z hZ; have t6 := T6 Z hZ; have t7 := T7 Z hZ
                go_simp
                (all_goals with_reducible rfl)
                done)
         try simp only [Act.put, List.setIfInBounds_toArray, List.set_cons_zero, List.set_cons_succ])
  refine quiet_nil ?_
  intro Z2 hZ2
  clear LF0
  go_wp2_with fail
  rw [rounds_succ]
  go_wp2_with fail
  go_ret2
  have FZ := TF.out _ hZ2
  refine ⟨FZ, g, _, HG.out.1, ⟨Nat.lt_of_lt_of_le HG.out.2.1 FZ.2.2.1, fun j u hu => ?_⟩, ?_, rfl⟩
  · have hj := (List.getElem?_eq_some_iff.1 hu).1
    simp only [Pl.oc, List.cons_append, List.nil_append, List.length_cons, List.length_nil] at hj
    rcases (show j = 0 ∨ j = 1 ∨ j = 2 ∨ j = 3 ∨ j = 4 ∨ j = 5 by omega) with rfl | rfl | rfl | rfl | rfl | rfl
    all_goals
      simp [Pl.oc] at hu
      subst hu
      first | exact T1 _ hZ2 | exact T2 _ hZ2 | exact T3 _ hZ2 | exact T4 _ hZ2 | exact T5 _ hZ2 | exact T6 _ hZ2
  · have := HG.out.2.2
    omega
theorem rtake1_bad (o0 : Pl.Ob) (J : Nat) (hn : L.length = J + 1) (h0 : L[J + 0]? = some o0) (b c : Nat) (hc : 1 ≤ c) (k0 : Int) (hk0 : k0 = 100 ∨ k0 = 101 ∨ k0 = 102 ∨ k0 = 3) (c0 : W.cell? ⟨b, 0, none⟩ = some (.int .i64 k0)) (f0 : Pl.rfits k0 o0.1 = false) :
    Calls Tryz.prog 85 #[.pointer (some ⟨p, 0, none⟩), .slice (some ⟨b, 0, none⟩) 1 c] W fun e w' => e = .returned (.tuple #[.slice none 0 0, .int .i64 6]) ∧ Fr (fun _ => False) W w' := by
  obtain ⟨g, cap, p0, _, hcap, hgp, hgl, hrow⟩ := h.tail J 0 hn
  have hb := block_lt_of_cell c0
  have F0 := Lib.hid (fun Z => rfits_any o0 k0 hk0 Z)
  rw [f0] at F0
  obtain ⟨q0, x0, n0, a0, l0, s0⟩ := o0
  have r0 := hrow 0 _ h0
  obtain ⟨C, hC⟩ : ∃ C : World → Prop, C = Cells W [((⟨p, 0, none⟩ : Addr), (.slice (some ⟨g, 0, none⟩) (J + 1) cap : Value)), ((⟨g, J * 6, none⟩ : Addr), (.int .i64 q0 : Value)), ((⟨g, J * 6 + 1, none⟩ : Addr), (.bool x0 : Value)), ((⟨g, J * 6 + 2, none⟩ : Addr), (.int .i64 n0 : Value)), ((⟨g, J * 6 + 3, none⟩ : Addr), (.int .i64 a0 : Value)), ((⟨g, J * 6 + 4, none⟩ : Addr), (.int .i64 l0 : Value)), ((⟨g, J * 6 + 5, none⟩ : Addr), (.string s0 : Value)), ((⟨b, 0, none⟩ : Addr), (.int .i64 k0 : Value))] := ⟨_, rfl⟩
  have HC0 : Hid (C W) := Lib.hid (by rw [hC]; exact ⟨p0, (by have := r0 0 _ rfl; rw [show (J + 0) * 6 + 0 = J * 6 + 0 by omega] at this; exact this), (by have := r0 1 _ rfl; rw [show (J + 0) * 6 + 1 = J * 6 + 1 by omega] at this; exact this), (by have := r0 2 _ rfl; rw [show (J + 0) * 6 + 2 = J * 6 + 2 by omega] at this; exact this), (by have := r0 3 _ rfl; rw [show (J + 0) * 6 + 3 = J * 6 + 3 by omega] at this; exact this), (by have := r0 4 _ rfl; rw [show (J + 0) * 6 + 4 = J * 6 + 4 by omega] at this; exact this), (by have := r0 5 _ rfl; rw [show (J + 0) * 6 + 5 = J * 6 + 5 by omega] at this; exact this), c0, Fr.refl _ _⟩)
  have T0 : ∀ Z, C Z → Z.cell? ⟨p, 0, none⟩ = some (.slice (some ⟨g, 0, none⟩) (J + 1) cap) := fun Z h => by rw [hC] at h; exact h.1
  have T1 : ∀ Z, C Z → Z.cell? ⟨g, J * 6, none⟩ = some (.int .i64 q0) := fun Z h => by rw [hC] at h; exact h.2.1
  have T2 : ∀ Z, C Z → Z.cell? ⟨g, J * 6 + 1, none⟩ = some (.bool x0) := fun Z h => by rw [hC] at h; exact h.2.2.1
  have T3 : ∀ Z, C Z → Z.cell? ⟨g, J * 6 + 2, none⟩ = some (.int .i64 n0) := fun Z h => by rw [hC] at h; exact h.2.2.2.1
  have T4 : ∀ Z, C Z → Z.cell? ⟨g, J * 6 + 3, none⟩ = some (.int .i64 a0) := fun Z h => by rw [hC] at h; exact h.2.2.2.2.1
  have T5 : ∀ Z, C Z → Z.cell? ⟨g, J * 6 + 4, none⟩ = some (.int .i64 l0) := fun Z h => by rw [hC] at h; exact h.2.2.2.2.2.1
  have T6 : ∀ Z, C Z → Z.cell? ⟨g, J * 6 + 5, none⟩ = some (.string s0) := fun Z h => by rw [hC] at h; exact h.2.2.2.2.2.2.1
  have T7 : ∀ Z, C Z → Z.cell? ⟨b, 0, none⟩ = some (.int .i64 k0) := fun Z h => by rw [hC] at h; exact h.2.2.2.2.2.2.2.1
  have CF : Hid (∀ Z Z', C Z → Fr (fun _ => False) Z Z' → C Z') := Lib.hid (fun Z Z' h k => by rw [hC] at h ⊢; exact h.fr k)
  have TF : Hid (∀ Z, C Z → Fr (fun _ => False) W Z) := Lib.hid (fun Z h => by rw [hC] at h; exact h.frame)
  clear hC
  have G0 : Hid (∀ Z, Calls Tryz.prog 115 #[.agg #[.int .i64 q0, .bool x0, .int .i64 n0, .int .i64 a0, .int .i64 l0, .string s0], .int .i64 k0] Z fun e w' => e = .returned (.bool false) ∧ Grown Z w') := F0
  have LF0 := Lib.hid (fun Z (h : C Z) => (G0.out Z).mono fun en w' hh => (⟨hh.1, CF.out _ _ h (Fr.of_grown _ hh.2)⟩ : _ ∧ C w'))
  clear F0 G0 f0 hk0
  have e1 : ((J + 1 : Nat) : Int) - 1 = (J : Int) := by omega
  have e2 : (J : Int) ≤ 300 := by omega
  have e3 : (J : Int) ≤ (cap : Int) := by omega
  have e4 : (0 : Int) ≤ (J : Int) := by omega
  have e5 : ¬ (((J + 1 : Nat) : Int) < 1) := by omega
  have e6 : (J : Int) ≤ (J : Int) + 1 := by omega
  have e7 : ¬ cap = J := by omega
  have ew : IntKind.i64.wrap (J : Int) = (J : Int) := by unfold IntKind.wrap IntKind.bits IntKind.signed; simp; omega
  have HG := Lib.hid (And.intro hgp (And.intro hgl hcap))
  clear hcap hgp hgl hrow hb hn hlen h r0 h0 c0
  go_enter Tryz.func85, Tryz.ntmps85
  go_wp2_with fail
  refine wp_region_class (C := C) (by kernel_rfl) (by kernel_rfl) (CF.out _ _ HC0.out ((Fr.refl _ _).drew)) ?_
  repeat
    first
      | (refine quiet_no (by rfl) ?_
         try simp only [Act.put, List.setIfInBounds_toArray, List.set_cons_zero, List.set_cons_succ])
      | (refine quiet_yes ?_ (by rfl) (fun Z hZ => ?_) ?_
         rotate_left
         · unfold qAt Oper.quietAt
           first
             | (go_simp
                (all_goals first | with_reducible rfl )
                done)
             | (have t0 := T0 Z hZ; have t1 := T1 Z hZ; have t2 := T2 Z hZ; have t3 := T3 Z hZ; have t4 := T4 Z hZ; have t5 := T5 Z hZ; have t6 := T6 Z hZ; have t7 := T7 Z hZ
                go_simp
                (all_goals with_reducible rfl)
                done)
         try simp only [Act.put, List.setIfInBounds_toArray, List.set_cons_zero, List.set_cons_succ])
  refine quiet_nil ?_
  intro Z1 hZ1
  clear p0 HC0
  go_wp2_with fail
  refine wp_loop_rounds 3 ?_
  rw [rounds_succ]
  go_wp2_with fail
  refine wp_region_class (C := C) (by kernel_rfl) (by kernel_rfl) (CF.out _ _ hZ1 ((Fr.refl _ _).drew)) ?_
  repeat
    first
      | (refine quiet_no (by rfl) ?_
         try simp only [Act.put, List.setIfInBounds_toArray, List.set_cons_zero, List.set_cons_succ])
      | (refine quiet_yes ?_ (by rfl) (fun Z hZ => ?_) ?_
         rotate_left
         · unfold qAt Oper.quietAt
           first
             | (go_simp
                (all_goals first | with_reducible rfl | (with_reducible exact LF0.out Z hZ))
                done)
             | (have t0 := T0 Z hZ; have t1 := T1 Z hZ; have t2 := T2 Z hZ; have t3 := T3 Z hZ; have t4 := T4 Z hZ; have t5 := T5 Z hZ; have t6 := T6 Z hZ; have t7 := T7 Z hZ
                go_simp
                (all_goals with_reducible rfl)
                done)
         try simp only [Act.put, List.setIfInBounds_toArray, List.set_cons_zero, List.set_cons_succ])
  refine quiet_nil ?_
  intro Z2 hZ2
  clear LF0
  go_wp2_with fail
  go_ret2
  exact ⟨rfl, TF.out _ hZ2⟩
end
theorem row_take {W : World} {ao : Option Addr} {n cap : Nat} {L : List Pl.Ob} (h : RowV W (.slice ao n cap) L) (J : Nat) (hJ : J ≤ L.length) : RowV W (.slice ao J cap) (L.take J) := by
  obtain ⟨ao2, cap2, hv, h⟩ := h
  injection hv with q1 q2 q3
  subst q1
  refine ⟨ao, cap, by rw [List.length_take, Nat.min_eq_left hJ], ?_⟩
  rcases h with rfl | ⟨g, o, ho, hg, hc⟩
  · exact .inl (by simp)
  · refine .inr ⟨g, o, ho, hg, fun j u hj => hc j u ?_⟩
    have e : Pl.flat L = Pl.flat (L.take J) ++ Pl.flat (L.drop J) := by rw [← Pl.flat_append, List.take_append_drop]
    rw [e, List.getElem?_append_left (List.getElem?_eq_some_iff.1 hj).1]
    exact hj
section
variable (base p : Nat) (L : List Pl.Ob) (W : World) (hlen : L.length ≤ 300) (h : RS base p L W)
include hlen h
omit h hlen in
theorem rgive_none (hb : base ≤ W.heap.size) (J gone : Nat) (hJ : L.length = J + gone) (M : List Pl.Ob) (hM : M.length ≤ 10) (am : Option Addr) (m cm : Nat) (hm : m = M.length) (hR : RowV W (.slice am m cm) M) (v0 : Value) (hS : StkV base p v0 L W) (hv : v0 = .slice none L.length 0) (hc : L.length = 0) :
    Calls Tryz.prog 86 #[.pointer (some ⟨p, 0, none⟩), .int .i64 (gone : Int), .slice am m cm] W fun e w' => e = .returned (.int .i64 (Pl.giveR L gone M).1) ∧ RS base p (Pl.giveR L gone M).2 w' ∧ Fr (fun c => c = p) W w' := by
  obtain ⟨h0, h1, hown, hne, hp⟩ := id hS
  subst hv
  have hlt : (L.take J).length = J := by rw [List.length_take]; omega
  have rt := row_take (own_row hown) J (by omega)
  rw [hJ] at h0
  have HR := Lib.hid hR
  have HS := Lib.hid hS
  have HM := Lib.hid (And.intro hm hM)
  have HB := Lib.hid hb
  have e1 : ((J + gone : Nat) : Int) - (gone : Int) = (J : Int) := by omega
  have e4 : (J : Int) ≤ 300 := by omega
  have e5 : (m : Int) ≤ 10 := by omega
  have e6 : (0 : Int) ≤ (J : Int) := by omega
  have e7 : (J : Int) ≤ (0 : Int) := by omega
  unfold Pl.giveR
  rw [hJ, Nat.add_sub_cancel, ← hm]
  generalize L.take J = TL at hlt rt ⊢
  have RT := Lib.hid rt
  have HLT : Hid (TL.length = J ∧ J ≤ 300) := Lib.hid ⟨hlt, by omega⟩
  clear hlt rt
  by_cases hfit : J + m ≤ 200
  · rw [if_pos hfit]
    have e2 : ¬ (200 < (J : Int) + (m : Int)) := by omega
    have e3 : (J : Int) + (m : Int) ≤ 200 := by omega
    clear hS hown hne hR hm hM hJ hb
    go_enter Tryz.func86, Tryz.ntmps86
    go_wp2_with (at_builtin; refine append_obs _ W.heap.size (.slice none 0 0) [] TL (World.ownsRow_nil _ _ _ _) none J 0 HLT.out.1.symm RT.out (by have := HLT.out; simp; omega) (Nat.le_refl _) (by rfl) (.const (.slice none 0 0)) (.tmp 26) rfl (by simp [Act.eval]) (by simp [Act.eval]) ?_)
    intro v6 w6 o6 f6
    have F6 : Hid (Fr (fun _ => False) W w6) := Lib.hid (f6.weaken (fun k q => by cases q))
    have O6 : Hid (w6.ownsRow W.heap.size 25 6 v6 TL.length (Pl.flat TL)) := Lib.hid o6
    have R6 := Lib.hid (HR.out.fr9 F6.out)
    clear o6 f6 HR RT
    go_wp2_with (at_builtin; refine append_obs _ W.heap.size v6 TL M O6.out am m cm HM.out.1 R6.out (by have := HLT.out; have := HM.out; omega) F6.out.2.2.1 (by rfl) (.tmp 27) (.tmp 28) rfl (by simp [Act.eval]) (by simp [Act.eval]) ?_)
    intro v7 w7 o7 f7
    have F7 : Hid (Fr (fun _ => False) W w7) := Lib.hid (F6.out.trans' f7 (fun k hk => .inr (own_base O6.out k hk)))
    have O7 : Hid (w7.ownsRow W.heap.size 25 6 v7 (TL.length + M.length) (Pl.flat (TL ++ M))) := Lib.hid o7
    have c0 := (F7.out.cell (a := ⟨p, 0, none⟩) hp (fun f => f)).trans h0
    have k0 := (F7.out.frozen (a := ⟨p, 0, none⟩) hp (fun f => f)).trans h1
    have HP := Lib.hid (show p < w7.heap.size from Nat.lt_of_lt_of_le hp F7.out.2.2.1)
    have HPW := Lib.hid hp
    have hs7 := O7.out
    obtain ⟨a7, c7, rfl⟩ := own_slice hs7
    clear o7 f7 R6 O6 F6 h0 h1 hp hs7
    go_wp2_with fail
    go_ret
    have hne : ∀ g, (Value.slice a7 (TL.length + M.length) c7).ownBlock = some g → ¬ g = p := fun g q e => by
      have := own_base O7.out g q
      have := HPW.out
      omega
    exact ⟨rfl, ⟨_, World.cell?_setCell_same' _ _ _ (by rw [c0]; rfl), by simpa using k0, by rw [List.length_append]; exact own_fr (P := fun c => c = p) (own_weaken O7.out HB.out) (Fr.setCell _ _ _ _ rfl) hne, fun q => hne p q rfl, by simpa using HP.out⟩, (F7.out.weaken (fun _ f => f.elim)).trans (Fr.setCell _ _ _ _ rfl)⟩
  · exact absurd (show J + m ≤ 200 by omega) hfit
omit h in
theorem rgive_some (hb : base ≤ W.heap.size) (J gone : Nat) (hJ : L.length = J + gone) (M : List Pl.Ob) (hM : M.length ≤ 10) (am : Option Addr) (m cm : Nat) (hm : m = M.length) (hR : RowV W (.slice am m cm) M) (v0 : Value) (hS : StkV base p v0 L W) (g cap : Nat) (hv : v0 = .slice (some ⟨g, 0, none⟩) L.length cap) (hc : L.length ≤ cap) :
    Calls Tryz.prog 86 #[.pointer (some ⟨p, 0, none⟩), .int .i64 (gone : Int), .slice am m cm] W fun e w' => e = .returned (.int .i64 (Pl.giveR L gone M).1) ∧ RS base p (Pl.giveR L gone M).2 w' ∧ Fr (fun c => c = p) W w' := by
  obtain ⟨h0, h1, hown, hne, hp⟩ := id hS
  subst hv
  have hlt : (L.take J).length = J := by rw [List.length_take]; omega
  have rt := row_take (own_row hown) J (by omega)
  rw [hJ] at h0
  have HR := Lib.hid hR
  have HS := Lib.hid hS
  have HM := Lib.hid (And.intro hm hM)
  have HB := Lib.hid hb
  have e1 : ((J + gone : Nat) : Int) - (gone : Int) = (J : Int) := by omega
  have e4 : (J : Int) ≤ 300 := by omega
  have e5 : (m : Int) ≤ 10 := by omega
  have e6 : (0 : Int) ≤ (J : Int) := by omega
  have e7 : (J : Int) ≤ (cap : Int) := by omega
  unfold Pl.giveR
  rw [hJ, Nat.add_sub_cancel, ← hm]
  generalize L.take J = TL at hlt rt ⊢
  have RT := Lib.hid rt
  have HLT : Hid (TL.length = J ∧ J ≤ 300) := Lib.hid ⟨hlt, by omega⟩
  clear hlt rt
  by_cases hfit : J + m ≤ 200
  · rw [if_pos hfit]
    have e2 : ¬ (200 < (J : Int) + (m : Int)) := by omega
    have e3 : (J : Int) + (m : Int) ≤ 200 := by omega
    clear hS hown hne hR hm hM hJ hb hlen
    go_enter Tryz.func86, Tryz.ntmps86
    go_wp2_with (at_builtin; refine append_obs _ W.heap.size (.slice none 0 0) [] TL (World.ownsRow_nil _ _ _ _) (some ⟨g, 0, none⟩) J cap HLT.out.1.symm RT.out (by have := HLT.out; simp; omega) (Nat.le_refl _) (by rfl) (.const (.slice none 0 0)) (.tmp 26) rfl (by simp [Act.eval]) (by simp [Act.eval]) ?_)
    intro v6 w6 o6 f6
    have F6 : Hid (Fr (fun _ => False) W w6) := Lib.hid (f6.weaken (fun k q => by cases q))
    have O6 : Hid (w6.ownsRow W.heap.size 25 6 v6 TL.length (Pl.flat TL)) := Lib.hid o6
    have R6 := Lib.hid (HR.out.fr9 F6.out)
    clear o6 f6 HR RT
    go_wp2_with (at_builtin; refine append_obs _ W.heap.size v6 TL M O6.out am m cm HM.out.1 R6.out (by have := HLT.out; have := HM.out; omega) F6.out.2.2.1 (by rfl) (.tmp 27) (.tmp 28) rfl (by simp [Act.eval]) (by simp [Act.eval]) ?_)
    intro v7 w7 o7 f7
    have F7 : Hid (Fr (fun _ => False) W w7) := Lib.hid (F6.out.trans' f7 (fun k hk => .inr (own_base O6.out k hk)))
    have O7 : Hid (w7.ownsRow W.heap.size 25 6 v7 (TL.length + M.length) (Pl.flat (TL ++ M))) := Lib.hid o7
    have c0 := (F7.out.cell (a := ⟨p, 0, none⟩) hp (fun f => f)).trans h0
    have k0 := (F7.out.frozen (a := ⟨p, 0, none⟩) hp (fun f => f)).trans h1
    have HP := Lib.hid (show p < w7.heap.size from Nat.lt_of_lt_of_le hp F7.out.2.2.1)
    have HPW := Lib.hid hp
    have hs7 := O7.out
    obtain ⟨a7, c7, rfl⟩ := own_slice hs7
    clear o7 f7 R6 O6 F6 h0 h1 hp hs7
    go_wp2_with fail
    go_ret
    have hne : ∀ g, (Value.slice a7 (TL.length + M.length) c7).ownBlock = some g → ¬ g = p := fun g q e => by
      have := own_base O7.out g q
      have := HPW.out
      omega
    exact ⟨rfl, ⟨_, World.cell?_setCell_same' _ _ _ (by rw [c0]; rfl), by simpa using k0, by rw [List.length_append]; exact own_fr (P := fun c => c = p) (own_weaken O7.out HB.out) (Fr.setCell _ _ _ _ rfl) hne, fun q => hne p q rfl, by simpa using HP.out⟩, (F7.out.weaken (fun _ f => f.elim)).trans (Fr.setCell _ _ _ _ rfl)⟩
  · rw [if_neg hfit]
    have e2 : 200 < (J : Int) + (m : Int) := by omega
    have HRS := Lib.hid (show RS base p L W from ⟨_, hS⟩)
    clear hS hown hne hR hm hM hJ hb hlen HR RT HS HM HB HLT h1 hp hfit
    go_enter Tryz.func86, Tryz.ntmps86
    go_wp2_with fail
    go_ret
    exact ⟨rfl, HRS.out, Fr.refl _ _⟩
theorem rgive_any (hb : base ≤ W.heap.size) (gone : Nat) (hg : gone ≤ L.length) (M : List Pl.Ob) (hM : M.length ≤ 10) (v : Value) (hR : RowV W v M) :
    Calls Tryz.prog 86 #[.pointer (some ⟨p, 0, none⟩), .int .i64 (gone : Int), v] W fun e w' => e = .returned (.int .i64 (Pl.giveR L gone M).1) ∧ RS base p (Pl.giveR L gone M).2 w' ∧ Fr (fun c => c = p) W w' := by
  obtain ⟨v0, hS⟩ := id h
  obtain ⟨am, cm, rfl, _⟩ := id hR
  rcases hS.2.2.1.2 with ⟨hv, h0⟩ | ⟨g, cap, cur, hv, _, _, hc, _⟩
  · exact rgive_none base p L W hb (L.length - gone) gone (by omega) M hM am _ cm rfl hR v0 hS (by rw [hv, h0]) h0
  · exact rgive_some base p L W hlen hb (L.length - gone) gone (by omega) M hM am _ cm rfl hR v0 hS g cap hv hc
theorem rgiveint_any (hb : base ≤ W.heap.size) (gone : Nat) (hg : gone ≤ L.length) (v : Int) :
    Calls Tryz.prog 89 #[.pointer (some ⟨p, 0, none⟩), .int .i64 (gone : Int), .int .i64 v] W fun e w' => e = .returned (.int .i64 (Pl.wholeR L gone v).1) ∧ RS base p (Pl.wholeR L gone v).2 w' ∧ Fr (fun c => c = p) W w' := by
  have HS := Lib.hid h
  have hp := h.lt
  have HB := Lib.hid hb
  unfold Pl.wholeR
  by_cases hin : Pl.inInt v
  · rw [if_pos hin]
    have CG := Lib.hid (fun Z (hZ : RS base p L Z) (hbZ : base ≤ Z.heap.size) u (hR : RowV Z u [Pl.intO v]) => rgive_any base p L Z hlen hZ hbZ gone hg [Pl.intO v] (by simp) u hR)
    have RI := Lib.hid (fun Z => rint_any v Z)
    unfold Pl.intO at RI
    unfold Pl.inInt at hin
    obtain ⟨b1, b2⟩ := hin
    clear hlen h hb hg
    go_enter Tryz.func89, Tryz.ntmps89
    go_wp2_with fail
    refine (RI.out _).mono ?_
    rintro e w1 ⟨rfl, g1⟩
    have R1 := Lib.hid (row_new w1 [Pl.intO v] #[.int .i64 3, .bool false, .int .i64 v, .int .i64 0, .int .i64 0, .string ⟨#[]⟩] rfl 1 rfl)
    have F1 := Lib.hid ((Fr.of_grown (fun _ => False) g1).trans (Fr.alloc (fun _ => False) w1 (.cells #[.int .i64 3, .bool false, .int .i64 v, .int .i64 0, .int .i64 0, .string ⟨#[]⟩] 25)))
    clear g1 RI
    go_wp2_with fail
    refine (CG.out _ (HS.out.fresh F1.out) (Nat.le_trans HB.out F1.out.2.2.1) _ R1.out).mono ?_
    rintro e w2 ⟨rfl, hs, hf⟩
    have H2 := Lib.hid (And.intro hs ((F1.out.weaken (fun _ f => f.elim)).trans hf))
    clear hs hf CG R1 F1
    go_wp2_with fail
    go_ret
    exact ⟨rfl, H2.out⟩
  · rw [if_neg hin]
    have b3 : v < -2147483647 ∨ (-2147483647 ≤ v ∧ 2147483647 < v) := by unfold Pl.inInt at hin; omega
    clear hlen h hb hg hin
    rcases b3 with b3 | ⟨b3, b4⟩
    all_goals
      go_enter Tryz.func89, Tryz.ntmps89
      go_wp2_with fail
      go_ret
      exact ⟨rfl, HS.out, Fr.refl _ _⟩
theorem rgivefix_any (hb : base ≤ W.heap.size) (gone : Nat) (hg : gone ≤ L.length) (v : Int) (ok : Bool) :
    Calls Tryz.prog 95 #[.pointer (some ⟨p, 0, none⟩), .int .i64 (gone : Int), .int .i64 v, .bool ok] W fun e w' => e = .returned (.int .i64 (Pl.fixedR L gone v ok).1) ∧ RS base p (Pl.fixedR L gone v ok).2 w' ∧ Fr (fun c => c = p) W w' := by
  have HS := Lib.hid h
  have hp := h.lt
  have HB := Lib.hid hb
  unfold Pl.fixedR
  cases ok with
  | false =>
    rw [if_neg (by simp)]
    clear hlen h hb hg
    go_enter Tryz.func95, Tryz.ntmps95
    go_wp2_with fail
    go_ret
    exact ⟨rfl, HS.out, Fr.refl _ _⟩
  | true =>
    by_cases hin : Pl.inFix v
    · rw [if_pos ⟨rfl, hin⟩]
      have CG := Lib.hid (fun Z (hZ : RS base p L Z) (hbZ : base ≤ Z.heap.size) u (hR : RowV Z u [Pl.fixO v]) => rgive_any base p L Z hlen hZ hbZ gone hg [Pl.fixO v] (by simp) u hR)
      have RI := Lib.hid (fun Z => rfix_any v Z)
      have RM := Lib.hid (fun Z => r3may_any v true (by unfold Pl.inFix at hin; simp [hin]) Z)
      unfold Pl.fixO at RI
      clear hlen h hb hg hin
      go_enter Tryz.func95, Tryz.ntmps95
      go_wp2_with fail
      refine (RM.out _).mono ?_
      rintro e w0 ⟨rfl, rfl⟩
      go_wp2_with fail
      refine (RI.out _).mono ?_
      rintro e w1 ⟨rfl, g1⟩
      have R1 := Lib.hid (row_new w1 [Pl.fixO v] #[.int .i64 4, .bool false, .int .i64 v, .int .i64 0, .int .i64 0, .string ⟨#[]⟩] rfl 1 rfl)
      have F1 := Lib.hid ((Fr.of_grown (fun _ => False) g1).trans (Fr.alloc (fun _ => False) w1 (.cells #[.int .i64 4, .bool false, .int .i64 v, .int .i64 0, .int .i64 0, .string ⟨#[]⟩] 25)))
      clear g1 RI RM
      go_wp2_with fail
      refine (CG.out _ (HS.out.fresh F1.out) (Nat.le_trans HB.out F1.out.2.2.1) _ R1.out).mono ?_
      rintro e w2 ⟨rfl, hs, hf⟩
      have H2 := Lib.hid (And.intro hs ((F1.out.weaken (fun _ f => f.elim)).trans hf))
      clear hs hf CG R1 F1
      go_wp2_with fail
      go_ret
      exact ⟨rfl, H2.out⟩
    · rw [if_neg (fun q => hin q.2)]
      have RM := Lib.hid (fun Z => r3may_any v false (by unfold Pl.inFix at hin; simp; omega) Z)
      clear hlen h hb hg hin
      go_enter Tryz.func95, Tryz.ntmps95
      go_wp2_with fail
      refine (RM.out _).mono ?_
      rintro e w0 ⟨rfl, rfl⟩
      go_wp2_with fail
      go_ret
      exact ⟨rfl, HS.out, Fr.refl _ _⟩
end
end Go.Proofs.YtfmmomdmemcbbaaGreat
