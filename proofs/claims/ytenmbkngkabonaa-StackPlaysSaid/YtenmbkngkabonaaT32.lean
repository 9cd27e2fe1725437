/- Two stacks side by side, and boxes that stay. -/
import Derived.Test.YtenmbkngkabonaaT31
namespace Go.Proofs.Ytenmbkngkabonaa
set_option linter.unusedVariables false
open Go.RowKit

def Two (W0 : World) (Pr : Nat → Prop) (p : Nat) (L : List Pl.Ob) (q : Nat) (M : List Pl.Ob) (W : World) : Prop :=
  ∃ v u, StkV W0.heap.size p v L W ∧ StkV W0.heap.size q u M W ∧ W0.heap.size ≤ p ∧ W0.heap.size ≤ q ∧ Kept W0 W ∧ p ≠ q ∧ v.ownBlock ≠ some q ∧ u.ownBlock ≠ some p ∧ (∀ g, v.ownBlock = some g → u.ownBlock ≠ some g) ∧
    ¬ Pr p ∧ ¬ Pr q ∧ (∀ g, v.ownBlock = some g → ¬ Pr g) ∧ (∀ g, u.ownBlock = some g → ¬ Pr g) ∧ ∀ c, Pr c → c < W.heap.size
theorem Two.swap {W0 : World} {Pr : Nat → Prop} {p q : Nat} {L M : List Pl.Ob} {W : World} (h : Two W0 Pr p L q M W) : Two W0 Pr q M p L W := by
  obtain ⟨v, u, h1, h2, h3, h4, h5, h6, h7, h8, h9, h10, h11, h12, h13, h14⟩ := h
  exact ⟨u, v, h2, h1, h4, h3, h5, fun e => h6 e.symm, h8, h7, fun g a b => h9 g b a, h11, h10, h13, h12, h14⟩
theorem Two.keptw {W0 : World} {Pr : Nat → Prop} {p q : Nat} {L M : List Pl.Ob} {W : World} (h : Two W0 Pr p L q M W) : Kept W0 W := by
  obtain ⟨v, u, h1, h2, h3, h4, h5, _⟩ := h
  exact h5
theorem Two.left {W0 : World} {Pr : Nat → Prop} {p q : Nat} {L M : List Pl.Ob} {W : World} (h : Two W0 Pr p L q M W) :
    ∃ Q : Nat → Prop, Stk W0 Q p L W ∧ (∀ c, Pr c → Q c) ∧ ∀ L' W', Stk W0 Q p L' W' → FrS W0 Q W W' → Two W0 Pr p L' q M W' ∧ FrS W0 Pr W W' := by
  obtain ⟨v, u, h1, h2, h3, h4, h5, h6, h7, h8, h9, h10, h11, h12, h13, h14⟩ := h
  have hu := own_lt h2.2.2.1
  refine ⟨fun c => Pr c ∨ c = q ∨ u.ownBlock = some c, ⟨v, h1, h3, h5, ?_, ?_, ?_⟩, fun c a => .inl a, ?_⟩
  · rintro (a | a | a)
    · exact h10 a
    · exact h6 a
    · exact h8 a
  · rintro g hg (a | a | a)
    · exact h12 g hg a
    · exact h7 (by rw [hg, a])
    · exact h9 g hg a
  · rintro c (a | a | a)
    · exact h14 c a
    · rw [a]; exact h2.2.2.2.2
    · exact hu c a
  · rintro L' W' ⟨v', k1, k3, k5, k10, k12, k14⟩ hF
    have h2' : StkV W0.heap.size q u M W' := h2.fr hF (fun a => a.1 (.inr (.inl rfl))) (fun g hg a => a.1 (.inr (.inr hg)))
    refine ⟨⟨v', u, k1, h2', h3, h4, k5, h6, fun e => k12 q e (.inr (.inl rfl)), h8, fun g a b => k12 g a (.inr (.inr b)), fun a => k10 (.inl a), h11, fun g a b => k12 g a (.inl b), h13, fun c a => k14 c (.inl a)⟩, hF.weaken (fun c a => ⟨fun b => a.1 (.inl b), a.2⟩)⟩
theorem Two.grown {W0 : World} {Pr : Nat → Prop} {p q : Nat} {L M : List Pl.Ob} {W W' : World} (h : Two W0 Pr p L q M W) (g : Grown W W') : Two W0 Pr p L q M W' := by
  obtain ⟨Q, hs, hQ, hb⟩ := h.left
  exact (hb L W' (hs.grown g) (Fr.of_grown _ g)).1
theorem Two.box {W0 : World} {Pr : Nat → Prop} {p q : Nat} {L M : List Pl.Ob} {W : World} (h : Two W0 Pr p L q M W) (o : Obj) : Two W0 (fun c => Pr c ∨ c = W.heap.size) p L q M (W.alloc o) := by
  obtain ⟨v, u, h1, h2, h3, h4, h5, h6, h7, h8, h9, h10, h11, h12, h13, h14⟩ := h
  have hv := own_lt h1.2.2.1
  have hu := own_lt h2.2.2.1
  have hF := Fr.alloc (fun _ => False) W o
  have hp := h1.2.2.2.2
  have hq := h2.2.2.2.2
  refine ⟨v, u, h1.fr hF (fun f => f) (fun _ _ f => f), h2.fr hF (fun f => f) (fun _ _ f => f), h3, h4, h5.fr hF (fun c f => f.elim), h6, h7, h8, h9, ?_, ?_, ?_, ?_, ?_⟩
  · rintro (a | a)
    · exact h10 a
    · omega
  · rintro (a | a)
    · exact h11 a
    · omega
  · rintro g hg (a | a)
    · exact h12 g hg a
    · have := hv g hg; omega
  · rintro g hg (a | a)
    · exact h13 g hg a
    · have := hu g hg; omega
  · rintro c (a | a)
    · have := h14 c a; simp; omega
    · simp; omega
/-- the boxes may be forgotten -/
theorem Two.forget {W0 : World} {Pr Qr : Nat → Prop} {p q : Nat} {L M : List Pl.Ob} {W : World} (h : Two W0 Pr p L q M W) (hq : ∀ c, Qr c → Pr c) : Two W0 Qr p L q M W := by
  obtain ⟨v, u, h1, h2, h3, h4, h5, h6, h7, h8, h9, h10, h11, h12, h13, h14⟩ := h
  exact ⟨v, u, h1, h2, h3, h4, h5, h6, h7, h8, h9, fun a => h10 (hq _ a), fun a => h11 (hq _ a), fun g a b => h12 g a (hq _ b), fun g a b => h13 g a (hq _ b), fun c a => h14 c (hq c a)⟩
/-- a store into a box -/
theorem Two.store {W0 : World} {Pr : Nat → Prop} {p q : Nat} {L M : List Pl.Ob} {W : World} (h : Two W0 Pr p L q M W) (b o : Nat) (u : Value) (hb : Pr b) (hw : W0.heap.size ≤ b) : Two W0 Pr p L q M (W.setCell ⟨b, o, none⟩ u) := by
  obtain ⟨v, u', h1, h2, h3, h4, h5, h6, h7, h8, h9, h10, h11, h12, h13, h14⟩ := h
  have hF := Fr.setCell (fun c => c = b) W ⟨b, o, none⟩ u rfl
  exact ⟨v, u', h1.fr hF (fun e => h10 (by rw [e]; exact hb)) (fun g hg e => h12 g hg (by rw [e]; exact hb)), h2.fr hF (fun e => h11 (by rw [e]; exact hb)) (fun g hg e => h13 g hg (by rw [e]; exact hb)), h3, h4, h5.fr hF (fun c e => by rw [e]; exact hw), h6, h7, h8, h9, h10, h11, h12, h13, fun c a => by have := h14 c a; simpa using this⟩
/-- a step that only draws new memory -/
theorem Two.fresh {W0 : World} {Pr : Nat → Prop} {p q : Nat} {L M : List Pl.Ob} {W W' : World} (h : Two W0 Pr p L q M W) (k : Fr (fun _ => False) W W') : Two W0 Pr p L q M W' := by
  obtain ⟨v, u, h1, h2, h3, h4, h5, h6, h7, h8, h9, h10, h11, h12, h13, h14⟩ := h
  exact ⟨v, u, h1.fr k (fun f => f) (fun _ _ f => f), h2.fr k (fun f => f) (fun _ _ f => f), h3, h4, h5.fr k (fun c f => f.elim), h6, h7, h8, h9, h10, h11, h12, h13, fun c a => Nat.lt_of_lt_of_le (h14 c a) k.2.2.1⟩
theorem two_new {W0 : World} {p : Nat} {W : World} (h : Stk W0 (fun _ => False) p [] W) : Two W0 (fun _ => False) p [] W.heap.size [] (W.alloc (.cells #[.slice none 0 0] 71)) := by
  obtain ⟨v, hS, h1, h2, h3, h4, h5⟩ := h
  have hv := own_lt hS.2.2.1
  have hF := Fr.alloc (fun _ => False) W (.cells #[.slice none 0 0] 71)
  have hp := hS.2.2.2.2
  refine ⟨v, .slice none 0 0, hS.fr hF (fun f => f) (fun _ _ f => f), ⟨by simp [go_sem], by rw [frozen?_alloc_cells]; simp [World.frozen?], World.ownsRow_nil _ _ _ _, by simp [Value.ownBlock], by simp⟩, h1, h2.2.2, h2.fr hF (fun c f => f.elim), by omega, fun e => by have := hv _ e; omega, by simp [Value.ownBlock], fun g a => by simp [Value.ownBlock], fun f => f, fun f => f, fun _ _ f => f, fun _ _ f => f, fun c f => f.elim⟩
/-- the reference's row, as it lies -/
theorem Two.row {W0 : World} {Pr : Nat → Prop} {p q : Nat} {L M : List Pl.Ob} {W : World} (h : Two W0 Pr p L q M W) : ∃ ao cap, W.cell? ⟨q, 0, none⟩ = some (.slice ao M.length cap) ∧ W.frozen? ⟨q, 0, none⟩ = false ∧ RowV W (.slice ao M.length cap) M ∧ q < W.heap.size := by
  obtain ⟨v, u, h1, h2, _⟩ := h
  obtain ⟨ao, cap, rfl⟩ := h2.slice
  exact ⟨ao, cap, h2.1, h2.2.1, own_row h2.2.2.1, h2.2.2.2.2⟩
/-- 'w.L = nil' -/
theorem Two.clear {W0 : World} {Pr : Nat → Prop} {p q : Nat} {L M : List Pl.Ob} {W : World} (h : Two W0 Pr p L q M W) : Two W0 Pr p L q [] (W.setCell ⟨q, 0, none⟩ (.slice none 0 0)) ∧ FrS W0 Pr W (W.setCell ⟨q, 0, none⟩ (.slice none 0 0)) := by
  obtain ⟨v, u, h1, h2, h3, h4, h5, h6, h7, h8, h9, h10, h11, h12, h13, h14⟩ := h
  have hF := Fr.setCell (fun c => c = q) W ⟨q, 0, none⟩ (.slice none 0 0) rfl
  refine ⟨⟨v, .slice none 0 0, h1.fr hF h6 (fun g hg e => h7 (by rw [hg, e])), ⟨World.cell?_setCell_same' _ _ _ (by rw [h2.1]; rfl), by simpa using h2.2.1, World.ownsRow_nil _ _ _ _, by simp [Value.ownBlock], by simpa using h2.2.2.2.2⟩, h3, h4, h5.fr hF (fun c e => by rw [e]; exact h4), h6, h7, by simp [Value.ownBlock], fun g a => by simp [Value.ownBlock], h10, h11, h12, fun g a => by simp [Value.ownBlock] at a, fun c a => by have := h14 c a; simpa using this⟩, hF.weaken (fun c e => by rw [e]; exact ⟨h11, h4⟩)⟩
end Go.Proofs.Ytenmbkngkabonaa
