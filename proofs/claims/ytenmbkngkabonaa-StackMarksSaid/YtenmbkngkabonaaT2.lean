/- A frame for calls that write into blocks of their caller's, and stack.New, Len. -/
import Derived.Test.YtenmbkngkabonaaT1
namespace Go.Proofs.Ytenmbkngkabonaa
set_option linter.unusedVariables false
open Go.RowKit

/-- outside P nothing has turned -/
def Fr (P : Nat → Prop) (W w' : World) : Prop := w'.os = W.os ∧ w'.output = W.output ∧ W.heap.size ≤ w'.heap.size ∧ ∀ c, c < W.heap.size → ¬ P c → w'.heap[c]? = W.heap[c]?
theorem Fr.refl (P : Nat → Prop) (W : World) : Fr P W W := ⟨rfl, rfl, Nat.le_refl _, fun _ _ _ => rfl⟩
theorem Fr.trans {P : Nat → Prop} {a b c : World} (h : Fr P a b) (k : Fr P b c) : Fr P a c :=
  ⟨k.1.trans h.1, k.2.1.trans h.2.1, Nat.le_trans h.2.2.1 k.2.2.1, fun i hi hp => (k.2.2.2 i (Nat.lt_of_lt_of_le hi h.2.2.1) hp).trans (h.2.2.2 i hi hp)⟩
/-- what is written may lie in new memory, too -/
theorem Fr.trans' {P Q : Nat → Prop} {a b c : World} (h : Fr P a b) (k : Fr Q b c) (hQ : ∀ i, Q i → P i ∨ a.heap.size ≤ i) : Fr P a c :=
  ⟨k.1.trans h.1, k.2.1.trans h.2.1, Nat.le_trans h.2.2.1 k.2.2.1, fun i hi hp => (k.2.2.2 i (Nat.lt_of_lt_of_le hi h.2.2.1) (fun q => (hQ i q).elim hp (fun h' => by omega))).trans (h.2.2.2 i hi hp)⟩
theorem Fr.alloc (P : Nat → Prop) (W : World) (o : Obj) : Fr P W (W.alloc o) := ⟨rfl, rfl, by simp, fun i hi _ => Below.heap_alloc _ _ _ hi⟩
theorem Fr.setCell (P : Nat → Prop) (W : World) (a : Addr) (u : Value) (h : P a.block) : Fr P W (W.setCell a u) :=
  ⟨rfl, rfl, by simp, fun i hi hp => Below.heap_setCell _ _ _ _ (fun e => hp (e ▸ h))⟩
theorem Fr.grown (P : Nat → Prop) {W w' : World} {row : Option Nat} (hg : W.grownBy w' row) (h : ∀ k, row = some k → P k) : Fr P W w' :=
  ⟨hg.os, hg.output, hg.size, fun i hi hp => hg.block i hi (fun e => hp (h i e.symm))⟩
theorem grown_heap {W w' : World} (h : Grown W w') (c : Nat) (hc : c < W.heap.size) : w'.heap[c]? = W.heap[c]? := by
  have := h.1.2.2 c hc
  have hs : W.heap[c]? = some W.heap[c] := Array.getElem?_eq_getElem hc
  rw [hs] at this ⊢
  split at this
  · rename_i h1 h2
    obtain ⟨rfl, rfl, hz, hj⟩ := this
    injection h1 with h1
    rw [h2, h1]
    congr 2
    exact Array.ext_getElem? (fun j => hj j (fun f => f))
  · rename_i h1 h2
    injection h1 with h1
    rw [h2, h1]
    rcases this with f | ⟨rfl, rfl⟩
    · exact f.elim
    · rfl
  · exact this
theorem Fr.of_grown (P : Nat → Prop) {W w' : World} (h : Grown W w') : Fr P W w' := ⟨h.1.1, h.1.2.1, h.2.2, fun i hi _ => grown_heap h i hi⟩
theorem Kept.fr {P : Nat → Prop} {w W W' : World} (h : Kept w W) (k : Fr P W W') (hp : ∀ c, P c → w.heap.size ≤ c) : Kept w W' := by
  obtain ⟨⟨h1, h2, h3⟩, hf, hs⟩ := h
  have hb : ∀ i, i < w.heap.size → W'.heap[i]? = W.heap[i]? := fun i hi => k.2.2.2 i (by omega) (fun q => by have := hp i q; omega)
  refine ⟨⟨by rw [k.1]; exact h1, by rw [k.2.1]; exact h2, fun i hi => ?_⟩, fun a ha => ?_, Nat.le_trans hs k.2.2.1⟩
  · rw [hb i hi]; exact h3 i hi
  · rw [← hf a ha]; exact World.frozen?_of_block (hb a.block ha)
theorem Fr.cell {P : Nat → Prop} {W W' : World} (k : Fr P W W') {a : Addr} (ha : a.block < W.heap.size) (hp : ¬ P a.block) : W'.cell? a = W.cell? a := World.cell?_of_block (k.2.2.2 _ ha hp)
theorem Fr.frozen {P : Nat → Prop} {W W' : World} (k : Fr P W W') {a : Addr} (ha : a.block < W.heap.size) (hp : ¬ P a.block) : W'.frozen? a = W.frozen? a := World.frozen?_of_block (k.2.2.2 _ ha hp)
theorem own_lt {w : World} {base : Nat} {e : TypeId} {size : Nat} {v : Value} {n : Nat} {xs : List Value} (h : w.ownsRow base e size v n xs) : ∀ k, v.ownBlock = some k → k < w.heap.size := by
  intro k hk
  rcases h.2 with ⟨rfl, _⟩ | ⟨g, cap, cur, rfl, hb, hg, _⟩
  · cases hk
  · simp [Value.ownBlock] at hk
    subst hk
    exact (Array.getElem?_eq_some_iff.1 hg).1
theorem Fr.drew {P : Nat → Prop} {W w' : World} (h : Fr P W w') : Fr P W w'.drew := h
theorem own_some {w : World} {base : Nat} {e : TypeId} {size : Nat} {v : Value} {n : Nat} {xs : List Value} (h : w.ownsRow base e size v (n + 1) xs) : ∃ g cap, v = .slice (some ⟨g, 0, none⟩) (n + 1) cap ∧ base ≤ g := by
  rcases h.2 with ⟨_, h0⟩ | ⟨g, cap, cur, rfl, hb, _⟩
  · omega
  · exact ⟨g, cap, rfl, hb⟩
theorem own_fr {P : Nat → Prop} {w W' : World} {base : Nat} {e : TypeId} {size : Nat} {v : Value} {n : Nat} {xs : List Value} (h : w.ownsRow base e size v n xs) (k : Fr P w W') (hp : ∀ g, v.ownBlock = some g → ¬ P g) : W'.ownsRow base e size v n xs := by
  have hl := own_lt h
  refine ⟨h.1, ?_⟩
  rcases h.2 with h2 | ⟨g, cap, cur, rfl, hb, hg, r⟩
  · exact .inl h2
  · exact .inr ⟨g, cap, cur, rfl, hb, (k.2.2.2 g (hl g rfl) (hp g rfl)).trans hg, r⟩

/-- a stack: its block p holds the slice v, of the objects L -/
def StkV (base p : Nat) (v : Value) (L : List Pl.Ob) (W : World) : Prop :=
  W.cell? ⟨p, 0, none⟩ = some v ∧ W.frozen? ⟨p, 0, none⟩ = false ∧ W.ownsRow base 38 6 v L.length (Pl.flat L) ∧ v.ownBlock ≠ some p ∧ p < W.heap.size
theorem StkV.fr {P : Nat → Prop} {base p : Nat} {v : Value} {L : List Pl.Ob} {W W' : World} (h : StkV base p v L W) (k : Fr P W W') (hp : ¬ P p) (hg : ∀ g, v.ownBlock = some g → ¬ P g) : StkV base p v L W' :=
  ⟨(k.cell (a := ⟨p, 0, none⟩) h.2.2.2.2 hp).trans h.1, (k.frozen (a := ⟨p, 0, none⟩) h.2.2.2.2 hp).trans h.2.1, own_fr h.2.2.1 k hg, h.2.2.2.1, Nat.lt_of_lt_of_le h.2.2.2.2 k.2.2.1⟩
theorem StkV.slice {base p : Nat} {v : Value} {L : List Pl.Ob} {W : World} (h : StkV base p v L W) : ∃ ao cap, v = .slice ao L.length cap := by
  rcases h.2.2.1.2 with ⟨rfl, h0⟩ | ⟨g, cap, cur, rfl, _⟩
  · exact ⟨none, 0, by rw [h0]⟩
  · exact ⟨_, _, rfl⟩

theorem new_any (w : World) : Calls Try.prog 37 #[] w fun e w' => e = .returned (.pointer (some ⟨w.heap.size, 0, none⟩)) ∧ w' = w.alloc (.cells #[.slice none 0 0] 81) := by
  go_enter Try.func37, Try.ntmps37
  go_wp2
  go_ret
  exact ⟨rfl, rfl⟩
theorem new_stk (w : World) : StkV w.heap.size w.heap.size (.slice none 0 0) [] (w.alloc (.cells #[.slice none 0 0] 81)) :=
  ⟨by simp [go_sem], by rw [frozen?_alloc_cells]; simp [World.frozen?], World.ownsRow_nil _ _ _ _, by simp [Value.ownBlock], by simp⟩

theorem len_any (base p : Nat) (v : Value) (L : List Pl.Ob) (W : World) (h : StkV base p v L W) :
    Calls Try.prog 28 #[.pointer (some ⟨p, 0, none⟩)] W fun e w' => e = .returned (.int .i64 (L.length : Int)) ∧ w' = W := by
  obtain ⟨ao, cap, rfl⟩ := h.slice
  have h0 := h.1
  clear h
  go_enter Try.func28, Try.ntmps28
  go_wp2
  go_ret
  exact ⟨rfl, rfl⟩
end Go.Proofs.Ytenmbkngkabonaa
