/- Push where it is refused, Peek. -/
import Derived.Test.YtenmbkngkabonaaT3
namespace Go.Proofs.Ytenmbkngkabonaa
set_option linter.unusedVariables false
open Go.RowKit

theorem push_bad (base p : Nat) (v : Value) (L : List Pl.Ob) (k : Int) (x : Bool) (n a l : Int) (s : ByteArray) (hm : ¬ Pl.may k n a l s) (W : World) (hS : StkV base p v L W) :
    Calls Try.prog 38 #[.pointer (some ⟨p, 0, none⟩), obv k x n a l s] W fun e w' => e = .returned (.int .i64 1) ∧ Grown W w' := by
  have CM := Lib.hid (fun W => may_no k x n a l s hm W)
  clear hm hS
  go_enter Try.func38, Try.ntmps38
  go_wp2_with fail
  refine (CM.out _).mono ?_
  rintro e w1 ⟨rfl, g1⟩
  go_wp2_with fail
  go_ret
  exact ⟨rfl, grown_trans (by (repeat (first | exact Grown.refl _ | apply Grown.drew | apply Grown.alloc))) g1⟩
theorem push_full (base p : Nat) (v : Value) (L : List Pl.Ob) (k : Int) (x : Bool) (n a l : Int) (s : ByteArray) (hm : Pl.may k n a l s) (hn : 200 ≤ L.length) (W : World) (hS : StkV base p v L W) :
    Calls Try.prog 38 #[.pointer (some ⟨p, 0, none⟩), obv k x n a l s] W fun e w' => e = .returned (.int .i64 8) ∧ Grown W w' := by
  have CM := Lib.hid (fun W => may_yes k x n a l s hm W)
  obtain ⟨ao, cap, rfl⟩ := hS.slice
  obtain ⟨h0, h1, hown, hne, hp⟩ := id hS
  have hlen : 200 ≤ (L.length : Int) := by omega
  clear hm hS
  go_enter Try.func38, Try.ntmps38
  go_wp2_with fail
  refine (CM.out _).mono ?_
  rintro e w1 ⟨rfl, g1⟩
  have g2 : Grown W w1 := grown_trans (by (repeat (first | exact Grown.refl _ | apply Grown.drew | apply Grown.alloc))) g1
  have hp1 : w1.cell? ⟨p, 0, none⟩ = some (.slice ao L.length cap) := grown_cell g2 h0
  go_wp2_with fail
  go_ret
  exact ⟨rfl, g2⟩

/-- the cells of one of a list's objects -/
theorem Pl.flat_get : ∀ (L : List Pl.Ob) (j : Nat) (o : Pl.Ob), L[j]? = some o → ∀ r, r < 6 → (Pl.flat L)[j * 6 + r]? = (Pl.oc o)[r]?
  | [], j, o, h, _, _ => by simp at h
  | q :: L, 0, o, h, r, hr => by
    simp at h
    subst h
    simp only [Pl.flat, Nat.zero_mul, Nat.zero_add]
    rw [List.getElem?_append_left (by simp [Pl.oc]; exact hr)]
  | q :: L, j + 1, o, h, r, hr => by
    have := Pl.flat_get L j o (by simpa using h) r hr
    simp only [Pl.flat]
    rw [List.getElem?_append_right (by simp [Pl.oc]; omega), ← this]
    congr 1
    simp [Pl.oc]; omega
theorem StkV.at {base p : Nat} {v : Value} {L : List Pl.Ob} {W : World} (h : StkV base p v L W) (j : Nat) (o : Pl.Ob) (hj : L[j]? = some o) : ∃ g cap, v = .slice (some ⟨g, 0, none⟩) L.length cap ∧ L.length ≤ cap ∧
    W.cell? ⟨g, j * 6, none⟩ = some (.int .i64 o.1) ∧ W.cell? ⟨g, j * 6 + 1, none⟩ = some (.bool o.2.1) ∧ W.cell? ⟨g, j * 6 + 2, none⟩ = some (.int .i64 o.2.2.1) ∧ W.cell? ⟨g, j * 6 + 3, none⟩ = some (.int .i64 o.2.2.2.1) ∧
    W.cell? ⟨g, j * 6 + 4, none⟩ = some (.int .i64 o.2.2.2.2.1) ∧ W.cell? ⟨g, j * 6 + 5, none⟩ = some (.string o.2.2.2.2.2) := by
  have hl : j < L.length := (List.getElem?_eq_some_iff.1 hj).1
  rcases h.2.2.1.2 with ⟨rfl, h0⟩ | ⟨g, cap, cur, rfl, hb, hg, hc, r⟩
  · omega
  · have c := h.2.2.1
    refine ⟨g, cap, rfl, hc, ?_, ?_, ?_, ?_, ?_, ?_⟩ <;> rw [c.cellAt _ (by omega)]
    · exact (Pl.flat_get L j o hj 0 (by omega)).trans rfl
    · exact (Pl.flat_get L j o hj 1 (by omega)).trans rfl
    · exact (Pl.flat_get L j o hj 2 (by omega)).trans rfl
    · exact (Pl.flat_get L j o hj 3 (by omega)).trans rfl
    · exact (Pl.flat_get L j o hj 4 (by omega)).trans rfl
    · exact (Pl.flat_get L j o hj 5 (by omega)).trans rfl

theorem peek_low (base p : Nat) (v : Value) (L : List Pl.Ob) (i : Int) (hi : i < 0) (W : World) (hS : StkV base p v L W) :
    Calls Try.prog 40 #[.pointer (some ⟨p, 0, none⟩), .int .i64 i] W fun e w' => e = .returned (.tuple #[obv 0 false 0 0 0 ⟨#[]⟩, .int .i64 2]) ∧ Grown W w' := by
  clear hS
  go_enter Try.func40, Try.ntmps40
  go_wp2_with fail
  refine bodyPost_ret (v := .tuple #[obv 0 false 0 0 0 ⟨#[]⟩, .int .i64 2]) (by simp [results, Try.results40, go_sem]) rfl ⟨rfl, by (repeat (first | exact Grown.refl _ | assumption | apply Grown.drew | apply Grown.alloc | (refine Grown.setCell ?_ (by simp) _)))⟩
theorem peek_under (base p : Nat) (v : Value) (L : List Pl.Ob) (i : Int) (hi0 : 0 ≤ i) (hi : (L.length : Int) ≤ i) (W : World) (hS : StkV base p v L W) :
    Calls Try.prog 40 #[.pointer (some ⟨p, 0, none⟩), .int .i64 i] W fun e w' => e = .returned (.tuple #[obv 0 false 0 0 0 ⟨#[]⟩, .int .i64 7]) ∧ Grown W w' := by
  obtain ⟨ao, cap, rfl⟩ := hS.slice
  obtain ⟨h0, h1, hown, hne, hp⟩ := id hS
  clear hS
  have hp0 : ∀ o t, (W.alloc (.cells o t)).cell? ⟨p, 0, none⟩ = some (.slice ao L.length cap) := fun o t => by rw [World.cell?_alloc_past _ _ _ hp]; exact h0
  go_enter Try.func40, Try.ntmps40
  go_wp2_with fail
  refine bodyPost_ret (v := .tuple #[obv 0 false 0 0 0 ⟨#[]⟩, .int .i64 7]) (by simp [results, Try.results40, go_sem]) rfl ⟨rfl, by (repeat (first | exact Grown.refl _ | assumption | apply Grown.drew | apply Grown.alloc | (refine Grown.setCell ?_ (by simp) _)))⟩

set_option maxHeartbeats 1000000 in
theorem peek_ok (base p : Nat) (v : Value) (L : List Pl.Ob) (i j : Nat) (k : Int) (x : Bool) (n a l : Int) (s : ByteArray) (hij : i + j + 1 = L.length) (hj : L[j]? = some (k, x, n, a, l, s)) (hlen : L.length ≤ 300) (W : World) (hS : StkV base p v L W) :
    Calls Try.prog 40 #[.pointer (some ⟨p, 0, none⟩), .int .i64 (i : Int)] W fun e w' => e = .returned (.tuple #[obv k x n a l s, .int .i64 0]) ∧ Grown W w' := by
  obtain ⟨g, cap, rfl, hcap, c0, c1, c2, c3, c4, c5⟩ := hS.at j _ hj
  obtain ⟨h0, h1, hown, hne, hp⟩ := id hS
  have hg := own_lt hown g rfl
  clear hS
  have hO : ObS W W.heap.size 0 false 0 0 0 ⟨#[]⟩ (W.alloc (.cells #[.int .i64 0, .bool false, .int .i64 0, .int .i64 0, .int .i64 0, .string ⟨#[]⟩] 38)) := ⟨by simp [go_sem], by simp [go_sem], by simp [go_sem], by simp [go_sem], by simp [go_sem], by simp [go_sem], (Grown.refl W).alloc _ _⟩
  have hp0 : ∀ o t, (W.alloc (.cells o t)).cell? ⟨p, 0, none⟩ = some (.slice (some ⟨g, 0, none⟩) L.length cap) := fun o t => by rw [World.cell?_alloc_past _ _ _ hp]; exact h0
  have d0 : ∀ o t, (W.alloc (.cells o t)).cell? ⟨g, j * 6, none⟩ = _ := fun o t => (World.cell?_alloc_past _ _ _ hg).trans c0
  have d1 : ∀ o t, (W.alloc (.cells o t)).cell? ⟨g, j * 6 + 1, none⟩ = _ := fun o t => (World.cell?_alloc_past _ _ _ hg).trans c1
  have d2 : ∀ o t, (W.alloc (.cells o t)).cell? ⟨g, j * 6 + 2, none⟩ = _ := fun o t => (World.cell?_alloc_past _ _ _ hg).trans c2
  have d3 : ∀ o t, (W.alloc (.cells o t)).cell? ⟨g, j * 6 + 3, none⟩ = _ := fun o t => (World.cell?_alloc_past _ _ _ hg).trans c3
  have d4 : ∀ o t, (W.alloc (.cells o t)).cell? ⟨g, j * 6 + 4, none⟩ = _ := fun o t => (World.cell?_alloc_past _ _ _ hg).trans c4
  have d5 : ∀ o t, (W.alloc (.cells o t)).cell? ⟨g, j * 6 + 5, none⟩ = _ := fun o t => (World.cell?_alloc_past _ _ _ hg).trans c5
  have e1 : (L.length : Int) - 1 - i = j := by omega
  have e2 : (j : Int) < L.length := by omega
  have e3 : (i : Int) < L.length := by omega
  have e4 : (L.length : Int) ≤ 300 := by omega
  have e5 : 1 ≤ (L.length : Int) := by omega
  go_enter Try.func40, Try.ntmps40
  go_wp2_with fail
  go_region
  all_goals
    go_wp2_with fail
    refine bodyPost_ret (v := .tuple #[obv k x n a l s, .int .i64 0]) (by simp [results, Try.results40, go_sem]) rfl ⟨rfl, by (repeat (first | exact Grown.refl _ | assumption | apply Grown.drew | apply Grown.alloc | (refine Grown.setCell ?_ (by simp) _)))⟩
end Go.Proofs.Ytenmbkngkabonaa
