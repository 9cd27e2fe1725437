/- Blocks of our own, and what they hold; the two spots read out of theirs. -/
import Derived.Test.YtnienpalbfgflaaBW3
namespace Go.Proofs.Ytnienpalbfgflaa
set_option linter.unusedVariables false
open Go.RowKit

/-- two spots as the model has them -/
abbrev spp (S T : Pl.Sp) : Value := .agg #[.int .i64 S.t, .int .i64 S.p, .int .i64 S.q, .int .i64 S.d, .int .i64 S.m, .int .i64 T.t, .int .i64 T.p, .int .i64 T.q, .int .i64 T.d, .int .i64 T.m]
/-- a block of our own, and what it holds -/
def Blk (W : World) (p : Nat) (L : List Value) (Z : World) : Prop := W.heap.size ≤ p ∧ p < Z.heap.size ∧ (∀ j u, L[j]? = some u → Z.cell? ⟨p, j, none⟩ = some u) ∧ ∀ j, Z.frozen? ⟨p, j, none⟩ = false
theorem Blk.new {W Z : World} (A : Array Value) (t : TypeId) (h : W.heap.size ≤ Z.heap.size) : Blk W Z.heap.size A.toList (Z.alloc (.cells A t)) :=
  ⟨h, by simp, fun j u hu => by have := alloc_cell Z A t j u hu; rw [Addr.add_lit, Nat.zero_add] at this; exact this, fun j => by rw [frozen?_alloc_cells]; simp [World.frozen?]⟩
theorem Blk.grow {W Z Z' : World} {p : Nat} {L : List Value} (h : Blk W p L Z) (g : Grown Z Z') : Blk W p L Z' := by
  obtain ⟨h1, h2, h3, h4⟩ := h
  have hb := grown_heap g p h2
  exact ⟨h1, Nat.lt_of_lt_of_le h2 g.2.2, fun j u hu => (World.cell?_of_block (a := ⟨p, j, none⟩) hb).trans (h3 j u hu), fun j => (World.frozen?_of_block (a := ⟨p, j, none⟩) hb).trans (h4 j)⟩
theorem Blk.drew {W Z : World} {p : Nat} {L : List Value} (h : Blk W p L Z) : Blk W p L Z.drew := h
theorem Blk.drewN {W Z : World} {p : Nat} {L : List Value} (h : Blk W p L Z) (n : Nat) : Blk W p L (Z.drewN n) := h
theorem Blk.alloc {W Z : World} {p : Nat} {L : List Value} (h : Blk W p L Z) (A : Array Value) (t : TypeId) : Blk W p L (Z.alloc (.cells A t)) := h.grow ((Grown.refl _).alloc A t)
theorem Blk.at {W Z : World} {p : Nat} {L : List Value} (h : Blk W p L Z) (j : Nat) (u : Value) (hu : L[j]? = some u) : Z.cell? ⟨p, j, none⟩ = some u := h.2.2.1 j u hu
theorem Blk.at0 {W Z : World} {p : Nat} {a b c d e f g : Value} (h : Blk W p [a, b, c, d, e, f, g] Z) : Z.cell? ⟨p, 0, none⟩ = some a ∧ Z.cell? ⟨p, 1, none⟩ = some b ∧ Z.cell? ⟨p, 2, none⟩ = some c ∧ Z.cell? ⟨p, 3, none⟩ = some d ∧ Z.cell? ⟨p, 4, none⟩ = some e ∧ Z.cell? ⟨p, 5, none⟩ = some f ∧ Z.cell? ⟨p, 6, none⟩ = some g :=
  ⟨h.at 0 _ rfl, h.at 1 _ rfl, h.at 2 _ rfl, h.at 3 _ rfl, h.at 4 _ rfl, h.at 5 _ rfl, h.at 6 _ rfl⟩
theorem Blk.at5 {W Z : World} {p : Nat} {a b c d e : Value} (h : Blk W p [a, b, c, d, e] Z) : Z.cell? ⟨p, 0, none⟩ = some a ∧ Z.cell? ⟨p, 1, none⟩ = some b ∧ Z.cell? ⟨p, 2, none⟩ = some c ∧ Z.cell? ⟨p, 3, none⟩ = some d ∧ Z.cell? ⟨p, 4, none⟩ = some e :=
  ⟨h.at 0 _ rfl, h.at 1 _ rfl, h.at 2 _ rfl, h.at 3 _ rfl, h.at 4 _ rfl⟩
theorem Blk.at10 {W Z : World} {p : Nat} {a b c d e f g i j k : Value} (h : Blk W p [a, b, c, d, e, f, g, i, j, k] Z) : Z.cell? ⟨p, 0, none⟩ = some a ∧ Z.cell? ⟨p, 1, none⟩ = some b ∧ Z.cell? ⟨p, 2, none⟩ = some c ∧ Z.cell? ⟨p, 3, none⟩ = some d ∧ Z.cell? ⟨p, 4, none⟩ = some e ∧ Z.cell? ⟨p, 5, none⟩ = some f ∧ Z.cell? ⟨p, 6, none⟩ = some g ∧ Z.cell? ⟨p, 7, none⟩ = some i ∧ Z.cell? ⟨p, 8, none⟩ = some j ∧ Z.cell? ⟨p, 9, none⟩ = some k :=
  ⟨h.at 0 _ rfl, h.at 1 _ rfl, h.at 2 _ rfl, h.at 3 _ rfl, h.at 4 _ rfl, h.at 5 _ rfl, h.at 6 _ rfl, h.at 7 _ rfl, h.at 8 _ rfl, h.at 9 _ rfl⟩
theorem Blk.set {W Z : World} {p : Nat} {L : List Value} (h : Blk W p L Z) (i : Nat) (hi : i < L.length) (v : Value) : Blk W p (L.set i v) (Z.setCell ⟨p, i, none⟩ v) := by
  obtain ⟨h1, h2, h3, h4⟩ := h
  refine ⟨h1, by simp; exact h2, fun j u hu => ?_, fun j => by simp; exact h4 j⟩
  by_cases e : j = i
  · subst e
    rw [List.getElem?_set_self hi] at hu
    injection hu with hu
    subst hu
    exact World.cell?_setCell_same' _ _ _ (by rw [h3 j L[j] (List.getElem?_eq_getElem hi)]; rfl)
  · rw [List.getElem?_set_ne (fun q => e q.symm)] at hu
    rw [World.cell?_setCell_other _ _ _ _ (by simp)]
    exact h3 j u hu
theorem Blk.other {W Z : World} {q p k : Nat} {E : List Value} (h : Blk W q E Z) (hp : q ≠ p) (v : Value) : Blk W q E (Z.setCell ⟨p, k, none⟩ v) := by
  obtain ⟨h1, h2, h3, h4⟩ := h
  refine ⟨h1, by simp; exact h2, fun j u hu => ?_, fun j => by simp; exact h4 j⟩
  rw [World.cell?_setCell_other _ _ _ _ (by simp)]
  exact h3 j u hu
theorem Blk.lo {W Z : World} {p : Nat} {a a' b b' c c' d d' e e' f g i j k : Value} (h : Blk W p [a, b, c, d, e, f, g, i, j, k] Z) : Blk W p [a', b', c', d', e', f, g, i, j, k] (((((Z.setCell ⟨p, 0, none⟩ a').setCell ⟨p, 1, none⟩ b').setCell ⟨p, 2, none⟩ c').setCell ⟨p, 3, none⟩ d').setCell ⟨p, 4, none⟩ e') := (((((h.set 0 (by simp) a').set 1 (by simp) b').set 2 (by simp) c').set 3 (by simp) d').set 4 (by simp) e')
theorem grown_lo {W Z : World} {p : Nat} {a' b' c' d' e' : Value} (h : Grown W Z) (hp : W.heap.size ≤ p) : Grown W (((((Z.setCell ⟨p, 0, none⟩ a').setCell ⟨p, 1, none⟩ b').setCell ⟨p, 2, none⟩ c').setCell ⟨p, 3, none⟩ d').setCell ⟨p, 4, none⟩ e') := (Grown.setCell (Grown.setCell (Grown.setCell (Grown.setCell (Grown.setCell h hp _) hp _) hp _) hp _) hp _)
theorem Blk.other_lo {W Z : World} {q p : Nat} {a' b' c' d' e' : Value} {E : List Value} (h : Blk W q E Z) (hp : q ≠ p) : Blk W q E (((((Z.setCell ⟨p, 0, none⟩ a').setCell ⟨p, 1, none⟩ b').setCell ⟨p, 2, none⟩ c').setCell ⟨p, 3, none⟩ d').setCell ⟨p, 4, none⟩ e') := (((((h.other (by omega) _).other (by omega) _).other (by omega) _).other (by omega) _).other (by omega) _)
theorem Blk.hi {W Z : World} {p : Nat} {a b c d e f f' g g' i i' j j' k k' : Value} (h : Blk W p [a, b, c, d, e, f, g, i, j, k] Z) : Blk W p [a, b, c, d, e, f', g', i', j', k'] (((((Z.setCell ⟨p, 5, none⟩ f').setCell ⟨p, 6, none⟩ g').setCell ⟨p, 7, none⟩ i').setCell ⟨p, 8, none⟩ j').setCell ⟨p, 9, none⟩ k') := (((((h.set 5 (by simp) f').set 6 (by simp) g').set 7 (by simp) i').set 8 (by simp) j').set 9 (by simp) k')
theorem grown_hi {W Z : World} {p : Nat} {f' g' i' j' k' : Value} (h : Grown W Z) (hp : W.heap.size ≤ p) : Grown W (((((Z.setCell ⟨p, 5, none⟩ f').setCell ⟨p, 6, none⟩ g').setCell ⟨p, 7, none⟩ i').setCell ⟨p, 8, none⟩ j').setCell ⟨p, 9, none⟩ k') := (Grown.setCell (Grown.setCell (Grown.setCell (Grown.setCell (Grown.setCell h hp _) hp _) hp _) hp _) hp _)
theorem Blk.other_hi {W Z : World} {q p : Nat} {f' g' i' j' k' : Value} {E : List Value} (h : Blk W q E Z) (hp : q ≠ p) : Blk W q E (((((Z.setCell ⟨p, 5, none⟩ f').setCell ⟨p, 6, none⟩ g').setCell ⟨p, 7, none⟩ i').setCell ⟨p, 8, none⟩ j').setCell ⟨p, 9, none⟩ k') := (((((h.other (by omega) _).other (by omega) _).other (by omega) _).other (by omega) _).other (by omega) _)
theorem Blk.all {W Z : World} {p : Nat} {a a' b b' c c' d d' e e' f f' g g' i i' j j' k k' : Value} (h : Blk W p [a, b, c, d, e, f, g, i, j, k] Z) : Blk W p [a', b', c', d', e', f', g', i', j', k'] ((((((((((Z.setCell ⟨p, 0, none⟩ a').setCell ⟨p, 1, none⟩ b').setCell ⟨p, 2, none⟩ c').setCell ⟨p, 3, none⟩ d').setCell ⟨p, 4, none⟩ e').setCell ⟨p, 5, none⟩ f').setCell ⟨p, 6, none⟩ g').setCell ⟨p, 7, none⟩ i').setCell ⟨p, 8, none⟩ j').setCell ⟨p, 9, none⟩ k') := ((((((((((h.set 0 (by simp) a').set 1 (by simp) b').set 2 (by simp) c').set 3 (by simp) d').set 4 (by simp) e').set 5 (by simp) f').set 6 (by simp) g').set 7 (by simp) i').set 8 (by simp) j').set 9 (by simp) k')
theorem grown_all {W Z : World} {p : Nat} {a' b' c' d' e' f' g' i' j' k' : Value} (h : Grown W Z) (hp : W.heap.size ≤ p) : Grown W ((((((((((Z.setCell ⟨p, 0, none⟩ a').setCell ⟨p, 1, none⟩ b').setCell ⟨p, 2, none⟩ c').setCell ⟨p, 3, none⟩ d').setCell ⟨p, 4, none⟩ e').setCell ⟨p, 5, none⟩ f').setCell ⟨p, 6, none⟩ g').setCell ⟨p, 7, none⟩ i').setCell ⟨p, 8, none⟩ j').setCell ⟨p, 9, none⟩ k') := (Grown.setCell (Grown.setCell (Grown.setCell (Grown.setCell (Grown.setCell (Grown.setCell (Grown.setCell (Grown.setCell (Grown.setCell (Grown.setCell h hp _) hp _) hp _) hp _) hp _) hp _) hp _) hp _) hp _) hp _)
theorem Blk.other_all {W Z : World} {q p : Nat} {a' b' c' d' e' f' g' i' j' k' : Value} {E : List Value} (h : Blk W q E Z) (hp : q ≠ p) : Blk W q E ((((((((((Z.setCell ⟨p, 0, none⟩ a').setCell ⟨p, 1, none⟩ b').setCell ⟨p, 2, none⟩ c').setCell ⟨p, 3, none⟩ d').setCell ⟨p, 4, none⟩ e').setCell ⟨p, 5, none⟩ f').setCell ⟨p, 6, none⟩ g').setCell ⟨p, 7, none⟩ i').setCell ⟨p, 8, none⟩ j').setCell ⟨p, 9, none⟩ k') := ((((((((((h.other (by omega) _).other (by omega) _).other (by omega) _).other (by omega) _).other (by omega) _).other (by omega) _).other (by omega) _).other (by omega) _).other (by omega) _).other (by omega) _)
/-- an edge in its block, two spots in the next -/
def Bt (W : World) (E L : List Value) (Z : World) : Prop := Blk W W.heap.size E Z ∧ Blk W (W.heap.size + 1) L Z ∧ Grown W Z
theorem Bt.start (W : World) (A C : Array Value) (s t : TypeId) : Bt W A.toList C.toList ((W.alloc (.cells A s)).alloc (.cells C t)) := by
  refine ⟨(Blk.new A s (Nat.le_refl _)).alloc C t, ?_, ((Grown.refl W).alloc A s).alloc C t⟩
  have := Blk.new (W := W) (Z := W.alloc (.cells A s)) C t (by simp)
  simpa using this
theorem Bt.drewN {W Z : World} {E L : List Value} (h : Bt W E L Z) (n : Nat) : Bt W E L (Z.drewN n) := h
theorem Bt.grow {W Z Z' : World} {E L : List Value} (h : Bt W E L Z) (g : Grown Z Z') : Bt W E L Z' := ⟨h.1.grow g, h.2.1.grow g, grown_trans h.2.2 g⟩
theorem Bt.lo {W Z : World} {E : List Value} {a a' b b' c c' d d' e e' f g i j k : Value} (h : Bt W E [a, b, c, d, e, f, g, i, j, k] Z) : Bt W E [a', b', c', d', e', f, g, i, j, k] (((((Z.setCell ⟨W.heap.size + 1, 0, none⟩ a').setCell ⟨W.heap.size + 1, 1, none⟩ b').setCell ⟨W.heap.size + 1, 2, none⟩ c').setCell ⟨W.heap.size + 1, 3, none⟩ d').setCell ⟨W.heap.size + 1, 4, none⟩ e') := ⟨h.1.other_lo (by omega), h.2.1.lo, grown_lo h.2.2 (by omega)⟩
theorem Bt.hi {W Z : World} {E : List Value} {a b c d e f f' g g' i i' j j' k k' : Value} (h : Bt W E [a, b, c, d, e, f, g, i, j, k] Z) : Bt W E [a, b, c, d, e, f', g', i', j', k'] (((((Z.setCell ⟨W.heap.size + 1, 5, none⟩ f').setCell ⟨W.heap.size + 1, 6, none⟩ g').setCell ⟨W.heap.size + 1, 7, none⟩ i').setCell ⟨W.heap.size + 1, 8, none⟩ j').setCell ⟨W.heap.size + 1, 9, none⟩ k') := ⟨h.1.other_hi (by omega), h.2.1.hi, grown_hi h.2.2 (by omega)⟩
theorem Bt.all {W Z : World} {E : List Value} {a a' b b' c c' d d' e e' f f' g g' i i' j j' k k' : Value} (h : Bt W E [a, b, c, d, e, f, g, i, j, k] Z) : Bt W E [a', b', c', d', e', f', g', i', j', k'] ((((((((((Z.setCell ⟨W.heap.size + 1, 0, none⟩ a').setCell ⟨W.heap.size + 1, 1, none⟩ b').setCell ⟨W.heap.size + 1, 2, none⟩ c').setCell ⟨W.heap.size + 1, 3, none⟩ d').setCell ⟨W.heap.size + 1, 4, none⟩ e').setCell ⟨W.heap.size + 1, 5, none⟩ f').setCell ⟨W.heap.size + 1, 6, none⟩ g').setCell ⟨W.heap.size + 1, 7, none⟩ i').setCell ⟨W.heap.size + 1, 8, none⟩ j').setCell ⟨W.heap.size + 1, 9, none⟩ k') := ⟨h.1.other_all (by omega), h.2.1.all, grown_all h.2.2 (by omega)⟩
/-- the two spots read out of their block -/
theorem post_ten {fn : Func} (hr : fn.results = #[ResultVar.cell 4 58]) {R : Ending → World → Prop} {a : Act} {W Z : World} {p : Nat} {t0 p0 q0 d0 m0 t1 p1 q1 d1 m1 : Int} (hp : a.tmps.getD 4 undef = .pointer (some ⟨p, 0, none⟩))
    (hB : Blk W p [.int .i64 t0, .int .i64 p0, .int .i64 q0, .int .i64 d0, .int .i64 m0, .int .i64 t1, .int .i64 p1, .int .i64 q1, .int .i64 d1, .int .i64 m1] Z) (hd : a.defers = [])
    (hR : R (.returned (.agg #[.int .i64 t0, .int .i64 p0, .int .i64 q0, .int .i64 d0, .int .i64 m0, .int .i64 t1, .int .i64 p1, .int .i64 q1, .int .i64 d1, .int .i64 m1])) Z) : bodyPost Try.prog fn R .ret a Z := by
  obtain ⟨c0, c1, c2, c3, c4, c5, c6, c7, c8, c9⟩ := hB.at10
  have hp2 : a.tmps[4]?.getD undef = .pointer (some ⟨p, 0, none⟩) := by rw [← hp]; simp
  exact bodyPost_ret (by simp [results, hr, go_sem, hp2, c0, c1, c2, c3, c4, c5, c6, c7, c8, c9]) hd hR
end Go.Proofs.Ytnienpalbfgflaa
