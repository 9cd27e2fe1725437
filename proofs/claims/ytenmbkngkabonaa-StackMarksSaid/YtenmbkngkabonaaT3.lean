/- The walk of (*stack.Stack).Push. -/
import Derived.Test.YtenmbkngkabonaaT2
namespace Go.Proofs.Ytenmbkngkabonaa
set_option linter.unusedVariables false
open Go.RowKit

set_option maxHeartbeats 2000000 in
set_option maxRecDepth 100000 in
theorem push_ok (base p : Nat) (v : Value) (L : List Pl.Ob) (k : Int) (x : Bool) (n a l : Int) (s : ByteArray) (hm : Pl.may k n a l s) (hn : L.length < 200) (W : World) (hS : StkV base p v L W) (hb : base ≤ W.heap.size) :
    Calls Try.prog 38 #[.pointer (some ⟨p, 0, none⟩), obv k x n a l s] W fun e w' => e = .returned (.int .i64 0) ∧
      (∃ v', StkV base p v' (L ++ [(k, x, n, a, l, s)]) w' ∧ ∀ g, v'.ownBlock = some g → v.ownBlock = some g ∨ W.heap.size ≤ g) ∧ Fr (fun c => c = p ∨ v.ownBlock = some c) W w' := by
  obtain ⟨i0, hi, hz0, hz1, hz2⟩ := info_parts Try.objInfo
  have CM := Lib.hid (fun W => may_yes k x n a l s hm W)
  obtain ⟨ao, cap, rfl⟩ := hS.slice
  obtain ⟨h0, h1, hown, hne, hp⟩ := id hS
  have hlen : (L.length : Int) < 200 := by omega
  have hp0 : ∀ o t, (W.alloc (.cells o t)).cell? ⟨p, 0, none⟩ = some (.slice ao L.length cap) := fun o t => by rw [World.cell?_alloc_past _ _ _ hp]; exact h0
  clear hm hS
  go_enter Try.func38, Try.ntmps38
  go_wp2_with fail
  refine (CM.out _).mono ?_
  rintro e w1 ⟨rfl, g1⟩
  have hO : ObS W W.heap.size k x n a l s w1 := ObS.grow (by exact ⟨by simp [go_sem], by simp [go_sem], by simp [go_sem], by simp [go_sem], by simp [go_sem], by simp [go_sem], by (repeat (first | exact Grown.refl _ | assumption | apply Grown.drew | apply Grown.alloc))⟩) g1
  have F1 : Fr (fun c => c = p ∨ (Value.slice ao L.length cap).ownBlock = some c) W w1 := Fr.of_grown _ hO.2.2.2.2.2.2
  have hp1 : w1.cell? ⟨p, 0, none⟩ = some (.slice ao L.length cap) := grown_cell hO.2.2.2.2.2.2 h0
  have hf1 : w1.frozen? ⟨p, 0, none⟩ = false := by rw [hO.2.2.2.2.2.2.2.1]; exact h1
  have hown1 := own_fr (P := fun _ => False) hown (Fr.of_grown _ hO.2.2.2.2.2.2) (fun _ _ f => f)
  have hsz := hO.2.2.2.2.2.2.2.2
  obtain ⟨o0, o1, o2, o3, o4, o5, og⟩ := id hO
  go_wp2_with fail
  have hp2 := Lib.hid (fun (A : Array Value) (t : TypeId) => (show (w1.alloc (.cells A t)).cell? ⟨p, 0, none⟩ = some (.slice ao L.length cap) from by rw [World.cell?_alloc_past _ _ _ (by omega)]; exact hp1))
  have hf2 := Lib.hid (fun (A : Array Value) (t : TypeId) => (frozen?_alloc_cells w1 A t ⟨p, 0, none⟩).trans hf1)
  have HO2 := Lib.hid (fun (A : Array Value) (t : TypeId) => own_fr (P := fun _ => False) hown1 (Fr.alloc _ w1 (.cells A t)) (fun _ _ f => f))
  have HN := Lib.hid (fun (A : Array Value) (t : TypeId) (hA : A.toList = Pl.oc (k, x, n, a, l, s)) (j : Nat) (u : Value) (hu : (Pl.oc (k, x, n, a, l, s))[j]? = some u) => alloc_cell w1 A t j u (by rw [hA]; exact hu))
  have H1 : Hid (∀ u ∈ Pl.oc (k, x, n, a, l, s), u.oneCell' = true) := Lib.hid (by intro u hu; simp [Pl.oc] at hu; rcases hu with rfl | rfl | rfl | rfl | rfl | rfl <;> rfl)
  have q0 := fun (A : Array Value) (t : TypeId) => (hO.grow ((Grown.refl w1).alloc A t)).1
  have q1 := fun (A : Array Value) (t : TypeId) => (hO.grow ((Grown.refl w1).alloc A t)).2.1
  have q2 := fun (A : Array Value) (t : TypeId) => (hO.grow ((Grown.refl w1).alloc A t)).2.2.1
  have p2 := fun (A : Array Value) (t : TypeId) => hp2.out A t
  have hszL := Lib.hid hsz
  have hpp : p < w1.heap.size := by omega
  have hbb : base ≤ w1.heap.size := by omega
  by_cases hroom : L.length + 1 ≤ cap
  · obtain ⟨g, rfl⟩ : ∃ g, ao = some ⟨g, 0, none⟩ := by
      rcases hown.2 with ⟨h, _⟩ | ⟨g, cap', cur, h, _⟩
      · injection h with h1 h2 h3; omega
      · injection h with h1 h2 h3; exact ⟨g, h1⟩
    have hgp : g ≠ p := fun e => hne (by rw [e]; rfl)
    go_region_law (refine step_append_spare rfl (.tmp 24) (.tmp 26) 32 rfl base 38 i0 6 Try.underlying32 hi hz1 g L.length cap (Pl.flat L) (by simp [Act.eval]) (HO2.out _ _) ⟨w1.heap.size, 0, none⟩ 1 1 (Pl.oc (k, x, n, a, l, s)) (by simp [Act.eval]) rfl (HN.out _ _ rfl) H1.out hroom ?_; intro w' hown' hgr; have hcp := hgr.cell (hp2.out _ _) (fun e => hgp (Option.some.inj e).symm); have hfp := (World.frozen?_of_block (a := ⟨p, 0, none⟩) (hgr.block p (by simp; omega) (fun e => hgp (Option.some.inj e).symm))).trans (hf2.out _ _))
    all_goals
      go_wp2_with fail
      go_ret
      refine ⟨rfl, ⟨.slice (some ⟨g, 0, none⟩) (L.length + 1) cap, ⟨World.cell?_setCell_same' _ _ _ (by rw [hcp]; rfl), by simpa using hfp, ?_, fun e => hgp (Option.some.inj e), ?_⟩, fun g2 e => .inl e⟩, ?_⟩
      · rw [List.length_append, Pl.flat_append]
        have := own_fr (P := fun c => c = p) hown' (Fr.setCell (fun c => c = p) w' ⟨p, 0, none⟩ (.slice (some ⟨g, 0, none⟩) (L.length + 1) cap) rfl) (fun g2 e h => hgp ((Option.some.inj e).trans h))
        simpa [Pl.flat] using this
      · have := hgr.size
        simp at this ⊢
        omega
      · exact ((F1.trans (Fr.alloc _ w1 (.cells _ 38))).drew.trans (Fr.grown _ hgr (by intro k2 e; exact .inr e))).trans (Fr.setCell _ _ _ _ (.inl rfl))
  · have hfull : cap < L.length + 1 := by omega
    have hnone : Hid (ao = none → L.length = 0 ∧ cap = 0) := Lib.hid (by
      rintro rfl
      rcases hown.2 with ⟨h, h0⟩ | ⟨g, cap', cur, h, _⟩
      · injection h with h1 h2 h3; exact ⟨h0, h3⟩
      · injection h with h1 h2 h3; cases h1)
    have HOLD := Lib.hid (fun (A : Array Value) (t : TypeId) (b : Addr) (hb : ao = some b) => (show ∀ j u, (Pl.flat L)[j]? = some u → (w1.alloc (.cells A t)).cell? (b.add j) = some u from by
      subst hb
      have h2 := HO2.out A t
      rcases h2.2 with ⟨h, _⟩ | ⟨g, cap', cur, h, _⟩
      · injection h with h1 h2 h3; cases h1
      · injection h with h1 h2 h3
        cases h1
        exact h2.cells rfl))
    have hne2 := Lib.hid hne
    go_region_law (refine step_append_grows rfl (.tmp 24) (.tmp 26) 32 rfl 38 i0 _ 6 56 Try.underlying32 hi hz0 hz1 hz2 rfl (by decide) ao L.length cap (Pl.flat L) (by simp [Act.eval]) hnone.out hown.1 (HOLD.out _ _) ⟨w1.heap.size, 0, none⟩ 1 1 (Pl.oc (k, x, n, a, l, s)) (by simp [Act.eval]) rfl (HN.out _ _ rfl) H1.out hfull (by unfold maxLen; omega) (by omega) ?_; intro v' w' hown' hgr; obtain ⟨g', cap', rfl, hg'⟩ := own_some hown'; have hcp := hgr.cell (hp2.out _ _) (by simp); have hfp := (World.frozen?_of_block (a := ⟨p, 0, none⟩) (hgr.block p (by simp; omega) (by simp))).trans (hf2.out _ _))
    all_goals
      have hg2 : w1.heap.size + 1 ≤ g' := by simpa using hg'
      have hgp : g' ≠ p := by omega
      go_wp2_with fail
      go_ret
      refine ⟨rfl, ⟨.slice (some ⟨g', 0, none⟩) (L.length + 1) cap', ⟨World.cell?_setCell_same' _ _ _ (by rw [hcp]; rfl), by simpa using hfp, ?_, fun e => hgp (Option.some.inj e), ?_⟩, ?_⟩, ?_⟩
      · rw [List.length_append, Pl.flat_append]
        have h3 : w'.ownsRow base 38 6 (.slice (some ⟨g', 0, none⟩) (L.length + 1) cap') (L.length + 1) (Pl.flat L ++ Pl.oc (k, x, n, a, l, s)) := by
          refine ⟨hown'.1, ?_⟩
          rcases hown'.2 with h | ⟨g2, c2, cur, e, hb2, r⟩
          · exact .inl h
          · exact .inr ⟨g2, c2, cur, e, by have : w1.heap.size + 1 ≤ g2 := by simpa using hb2
                                           omega, r⟩
        have := own_fr (P := fun c => c = p) h3 (Fr.setCell (fun c => c = p) w' ⟨p, 0, none⟩ (.slice (some ⟨g', 0, none⟩) (L.length + 1) cap') rfl) (fun g2 e h => hgp ((Option.some.inj e).trans h))
        simpa [Pl.flat] using this
      · have := hgr.size
        simp at this ⊢
        omega
      · intro g2 e
        have := Option.some.inj e
        exact .inr (by simp at this; omega)
      · exact ((F1.trans (Fr.alloc _ w1 (.cells _ 38))).drew.trans (Fr.grown _ hgr (by intro k2 e; cases e))).trans (Fr.setCell _ _ _ _ (.inl rfl))
end Go.Proofs.Ytenmbkngkabonaa
