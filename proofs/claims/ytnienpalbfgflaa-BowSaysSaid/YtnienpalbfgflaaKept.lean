/- Frames: of what was there nothing has turned (Kept); nothing outside P has turned (Fr). For seats without the texts of layers 14 and 15, which have the same. -/
import Derived.Test.YtnienpalbfgflaaKit2
import Derived.Laws.OwnMore
import Derived.OwnWalk
namespace Go.Proofs.Ytnienpalbfgflaa
set_option linter.unusedVariables false
open Go.RowKit

/-- of what was there nothing has turned -/
def Kept (W w' : World) : Prop := W.keptBut w' (fun _ => False) ∧ (∀ a : Addr, a.block < W.heap.size → w'.frozen? a = W.frozen? a) ∧ W.heap.size ≤ w'.heap.size
theorem Kept.of_grown {W w' : World} (h : Grown W w') : Kept W w' := ⟨h.1, fun a _ => h.2.1 a, h.2.2⟩
theorem Kept.refl (W : World) : Kept W W := Kept.of_grown (Grown.refl W)
theorem Kept.trans {a b c : World} (h : Kept a b) (k : Kept b c) : Kept a c :=
  ⟨World.keptBut_trans h.1 k.1, fun x hx => (k.2.1 x (Nat.lt_of_lt_of_le hx h.2.2)).trans (h.2.1 x hx), Nat.le_trans h.2.2 k.2.2⟩
theorem Kept.grown {w W W' : World} {row : Option Nat} (h : Kept w W) (hg : W.grownBy W' row) (hr : ∀ k, row = some k → w.heap.size ≤ k) : Kept w W' := by
  obtain ⟨⟨h1, h2, h3⟩, hf, hs⟩ := h
  have hb : ∀ i, i < w.heap.size → W'.heap[i]? = W.heap[i]? := fun i hi => hg.block i (by omega) (fun e => by have := hr i e.symm; omega)
  refine ⟨⟨by rw [hg.os]; exact h1, by rw [hg.output]; exact h2, fun i hi => ?_⟩, fun a ha => ?_, Nat.le_trans hs hg.size⟩
  · rw [hb i hi]; exact h3 i hi
  · rw [← hf a ha]; exact World.frozen?_of_block (hb a.block ha)
theorem own_from {w : World} {base : Nat} {e : TypeId} {size : Nat} {v : Value} {n : Nat} {xs : List Value} (h : w.ownsRow base e size v n xs) : ∀ k, v.ownBlock = some k → base ≤ k := by
  intro k hk
  rcases h.2 with ⟨rfl, _⟩ | ⟨g, cap, cur, rfl, hb, _⟩
  · cases hk
  · simp [Value.ownBlock] at hk; omega
theorem alloc_cell (w : World) (A : Array Value) (t : TypeId) (j : Nat) (u : Value) (h : A.toList[j]? = some u) : (w.alloc (.cells A t)).cell? ((⟨w.heap.size, 0, none⟩ : Addr).add j) = some u := by
  rw [Addr.add_lit, cell_of_row _ _ _ _ _ _ (heap_alloc_new w _), Nat.zero_add]
  simpa using h

/-- outside P nothing has turned -/
def Fr (P : Nat → Prop) (W w' : World) : Prop := w'.os = W.os ∧ w'.output = W.output ∧ W.heap.size ≤ w'.heap.size ∧ ∀ c, c < W.heap.size → ¬ P c → w'.heap[c]? = W.heap[c]?
theorem Fr.refl (P : Nat → Prop) (W : World) : Fr P W W := ⟨rfl, rfl, Nat.le_refl _, fun _ _ _ => rfl⟩
theorem Fr.trans {P : Nat → Prop} {a b c : World} (h : Fr P a b) (k : Fr P b c) : Fr P a c :=
  ⟨k.1.trans h.1, k.2.1.trans h.2.1, Nat.le_trans h.2.2.1 k.2.2.1, fun i hi hp => (k.2.2.2 i (Nat.lt_of_lt_of_le hi h.2.2.1) hp).trans (h.2.2.2 i hi hp)⟩
/-- what is written may lie in new memory, too -/
theorem Fr.trans' {P Q : Nat → Prop} {a b c : World} (h : Fr P a b) (k : Fr Q b c) (hQ : ∀ i, Q i → P i ∨ a.heap.size ≤ i) : Fr P a c :=
  ⟨k.1.trans h.1, k.2.1.trans h.2.1, Nat.le_trans h.2.2.1 k.2.2.1, fun i hi hp => (k.2.2.2 i (Nat.lt_of_lt_of_le hi h.2.2.1) (fun q => (hQ i q).elim hp (fun h' => by omega))).trans (h.2.2.2 i hi hp)⟩
theorem Fr.alloc (P : Nat → Prop) (W : World) (o : Obj) : Fr P W (W.alloc o) := ⟨rfl, rfl, by simp, fun i hi _ => Below.heap_alloc _ _ _ hi⟩
theorem Fr.setCell (P : Nat → Prop) (W : World) (a : Addr) (u : Value) (h : P a.block) : Fr P W (W.setCell a u) :=
  ⟨rfl, rfl, by simp, fun i hi hp => Below.heap_setCell _ _ _ _ (fun e => hp (e ▸ h))⟩
theorem Fr.grown (P : Nat → Prop) {W w' : World} {row : Option Nat} (hg : W.grownBy w' row) (h : ∀ k, row = some k → P k) : Fr P W w' :=
  ⟨hg.os, hg.output, hg.size, fun i hi hp => hg.block i hi (fun e => hp (h i e.symm))⟩
theorem grown_heap {W w' : World} (h : Grown W w') (c : Nat) (hc : c < W.heap.size) : w'.heap[c]? = W.heap[c]? := by
  have := h.1.2.2 c hc
  have hs : W.heap[c]? = some W.heap[c] := Array.getElem?_eq_getElem hc
  rw [hs] at this ⊢
  split at this
  · rename_i h1 h2
    obtain ⟨rfl, rfl, hz, hj⟩ := this
    injection h1 with h1
    rw [h2, h1]
    congr 2
    exact Array.ext_getElem? (fun j => hj j (fun f => f))
  · rename_i h1 h2
    injection h1 with h1
    rw [h2, h1]
    rcases this with f | ⟨rfl, rfl⟩
    · exact f.elim
    · rfl
  · exact this
theorem Fr.of_grown (P : Nat → Prop) {W w' : World} (h : Grown W w') : Fr P W w' := ⟨h.1.1, h.1.2.1, h.2.2, fun i hi _ => grown_heap h i hi⟩
theorem Kept.fr {P : Nat → Prop} {w W W' : World} (h : Kept w W) (k : Fr P W W') (hp : ∀ c, P c → w.heap.size ≤ c) : Kept w W' := by
  obtain ⟨⟨h1, h2, h3⟩, hf, hs⟩ := h
  have hb : ∀ i, i < w.heap.size → W'.heap[i]? = W.heap[i]? := fun i hi => k.2.2.2 i (by omega) (fun q => by have := hp i q; omega)
  refine ⟨⟨by rw [k.1]; exact h1, by rw [k.2.1]; exact h2, fun i hi => ?_⟩, fun a ha => ?_, Nat.le_trans hs k.2.2.1⟩
  · rw [hb i hi]; exact h3 i hi
  · rw [← hf a ha]; exact World.frozen?_of_block (hb a.block ha)
theorem Fr.cell {P : Nat → Prop} {W W' : World} (k : Fr P W W') {a : Addr} (ha : a.block < W.heap.size) (hp : ¬ P a.block) : W'.cell? a = W.cell? a := World.cell?_of_block (k.2.2.2 _ ha hp)
theorem Fr.frozen {P : Nat → Prop} {W W' : World} (k : Fr P W W') {a : Addr} (ha : a.block < W.heap.size) (hp : ¬ P a.block) : W'.frozen? a = W.frozen? a := World.frozen?_of_block (k.2.2.2 _ ha hp)
theorem own_lt {w : World} {base : Nat} {e : TypeId} {size : Nat} {v : Value} {n : Nat} {xs : List Value} (h : w.ownsRow base e size v n xs) : ∀ k, v.ownBlock = some k → k < w.heap.size := by
  intro k hk
  rcases h.2 with ⟨rfl, _⟩ | ⟨g, cap, cur, rfl, hb, hg, _⟩
  · cases hk
  · simp [Value.ownBlock] at hk
    subst hk
    exact (Array.getElem?_eq_some_iff.1 hg).1
theorem Fr.drew {P : Nat → Prop} {W w' : World} (h : Fr P W w') : Fr P W w'.drew := h
theorem own_some {w : World} {base : Nat} {e : TypeId} {size : Nat} {v : Value} {n : Nat} {xs : List Value} (h : w.ownsRow base e size v (n + 1) xs) : ∃ g cap, v = .slice (some ⟨g, 0, none⟩) (n + 1) cap ∧ base ≤ g := by
  rcases h.2 with ⟨_, h0⟩ | ⟨g, cap, cur, rfl, hb, _⟩
  · omega
  · exact ⟨g, cap, rfl, hb⟩
theorem own_fr {P : Nat → Prop} {w W' : World} {base : Nat} {e : TypeId} {size : Nat} {v : Value} {n : Nat} {xs : List Value} (h : w.ownsRow base e size v n xs) (k : Fr P w W') (hp : ∀ g, v.ownBlock = some g → ¬ P g) : W'.ownsRow base e size v n xs := by
  have hl := own_lt h
  refine ⟨h.1, ?_⟩
  rcases h.2 with h2 | ⟨g, cap, cur, rfl, hb, hg, r⟩
  · exact .inl h2
  · exact .inr ⟨g, cap, cur, rfl, hb, (k.2.2.2 g (hl g rfl) (hp g rfl)).trans hg, r⟩

theorem Fr.weaken {P Q : Nat → Prop} {W W' : World} (h : Fr P W W') (hq : ∀ c, P c → Q c) : Fr Q W W' := ⟨h.1, h.2.1, h.2.2.1, fun c hc hn => h.2.2.2 c hc (fun q => hn (hq c q))⟩
end Go.Proofs.Ytnienpalbfgflaa
