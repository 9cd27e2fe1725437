/- Two stacks of the program side by side, beside rows that stay; a slice of objects among a law's arguments, opened. -/
import Derived.Test.YtfmmomdmemcbbaaL18m
import Derived.Test.YtfmmomdmemcbbaaM6
namespace Go.Proofs.Ytfmmomdmemcbbaa
set_option linter.unusedVariables false
open Go.RowKit

def Two (W0 : World) (Pr : Nat → Prop) (p : Nat) (L : List Pl.Ob) (q : Nat) (M : List Pl.Ob) (W : World) : Prop :=
  ∃ v u, StkV W0.heap.size p v L W ∧ StkV W0.heap.size q u M W ∧ W0.heap.size ≤ p ∧ W0.heap.size ≤ q ∧ Kept W0 W ∧ p ≠ q ∧ v.ownBlock ≠ some q ∧ u.ownBlock ≠ some p ∧ (∀ g, v.ownBlock = some g → u.ownBlock ≠ some g) ∧
    ¬ Pr p ∧ ¬ Pr q ∧ (∀ g, v.ownBlock = some g → ¬ Pr g) ∧ (∀ g, u.ownBlock = some g → ¬ Pr g) ∧ ∀ c, Pr c → c < W.heap.size
theorem Two.swap {W0 : World} {Pr : Nat → Prop} {p q : Nat} {L M : List Pl.Ob} {W : World} (h : Two W0 Pr p L q M W) : Two W0 Pr q M p L W := by
  obtain ⟨v, u, h1, h2, h3, h4, h5, h6, h7, h8, h9, h10, h11, h12, h13, h14⟩ := h
  exact ⟨u, v, h2, h1, h4, h3, h5, fun e => h6 e.symm, h8, h7, fun g a b => h9 g b a, h11, h10, h13, h12, h14⟩
theorem Two.keptw {W0 : World} {Pr : Nat → Prop} {p q : Nat} {L M : List Pl.Ob} {W : World} (h : Two W0 Pr p L q M W) : Kept W0 W := by
  obtain ⟨v, u, h1, h2, h3, h4, h5, _⟩ := h
  exact h5
theorem Two.left {W0 : World} {Pr : Nat → Prop} {p q : Nat} {L M : List Pl.Ob} {W : World} (h : Two W0 Pr p L q M W) :
    ∃ Q : Nat → Prop, Stk W0 Q p L W ∧ (∀ c, Pr c → Q c) ∧ ∀ L' W', Stk W0 Q p L' W' → FrS W0 Q W W' → Two W0 Pr p L' q M W' ∧ FrS W0 Pr W W' := by
  obtain ⟨v, u, h1, h2, h3, h4, h5, h6, h7, h8, h9, h10, h11, h12, h13, h14⟩ := h
  have hu := own_lt h2.2.2.1
  refine ⟨fun c => Pr c ∨ c = q ∨ u.ownBlock = some c, ⟨v, h1, h3, h5, ?_, ?_, ?_⟩, fun c a => .inl a, ?_⟩
  · rintro (a | a | a)
    · exact h10 a
    · exact h6 a
    · exact h8 a
  · rintro g hg (a | a | a)
    · exact h12 g hg a
    · exact h7 (by rw [hg, a])
    · exact h9 g hg a
  · rintro c (a | a | a)
    · exact h14 c a
    · rw [a]; exact h2.2.2.2.2
    · exact hu c a
  · rintro L' W' ⟨v', k1, k3, k5, k10, k12, k14⟩ hF
    have h2' : StkV W0.heap.size q u M W' := h2.fr hF (fun a => a.1 (.inr (.inl rfl))) (fun g hg a => a.1 (.inr (.inr hg)))
    refine ⟨⟨v', u, k1, h2', h3, h4, k5, h6, fun e => k12 q e (.inr (.inl rfl)), h8, fun g a b => k12 g a (.inr (.inr b)), fun a => k10 (.inl a), h11, fun g a b => k12 g a (.inl b), h13, fun c a => k14 c (.inl a)⟩, hF.weaken (fun c a => ⟨fun b => a.1 (.inl b), a.2⟩)⟩
/-- a second stack beside the first -/
theorem two_of {W0 : World} {Pr : Nat → Prop} {p : Nat} {L : List Pl.Ob} {W : World} (h : Stk W0 Pr p L W) :
    ∃ Q : Nat → Prop, (∀ c, Q c → c < W.heap.size) ∧ ∀ q M W', Stk W0 Q q M W' → FrS W0 Q W W' → Two W0 Pr p L q M W' ∧ FrS W0 Pr W W' := by
  obtain ⟨v, hS, h1, h2, h3, h4, h5⟩ := h
  have hv := own_lt hS.2.2.1
  refine ⟨fun c => Pr c ∨ c = p ∨ v.ownBlock = some c, ?_, ?_⟩
  · rintro c (a | a | a)
    · exact h5 c a
    · rw [a]; exact hS.2.2.2.2
    · exact hv c a
  · rintro q M W' ⟨u, k1, k3, k5, k10, k12, k14⟩ hF
    have hS' : StkV W0.heap.size p v L W' := hS.fr hF (fun a => a.1 (.inr (.inl rfl))) (fun g hg a => a.1 (.inr (.inr hg)))
    exact ⟨⟨v, u, hS', k1, h1, k3, k5, fun e => k10 (.inr (.inl e.symm)), fun e => k10 (.inr (.inr e)), fun e => k12 p e (.inr (.inl rfl)), fun g a b => k12 g b (.inr (.inr a)), h3, fun a => k10 (.inl a), h4, fun g a b => k12 g a (.inl b), fun c a => k14 c (.inl a)⟩, hF.weaken (fun c a => ⟨fun b => a.1 (.inl b), a.2⟩)⟩
/-- new blocks that are to stay -/
theorem Two.guard {W0 : World} {Pr Q : Nat → Prop} {p q : Nat} {L M : List Pl.Ob} {W W' : World} (h : Two W0 Pr p L q M W) (k : Fr (fun _ => False) W W') (hQ : ∀ c, Q c → Pr c ∨ W.heap.size ≤ c) (hQ2 : ∀ c, Q c → c < W'.heap.size) : Two W0 Q p L q M W' := by
  obtain ⟨v, u, h1, h2, h3, h4, h5, h6, h7, h8, h9, h10, h11, h12, h13, h14⟩ := h
  have hv := own_lt h1.2.2.1
  have hu := own_lt h2.2.2.1
  have hp := h1.2.2.2.2
  have hq := h2.2.2.2.2
  refine ⟨v, u, h1.fr k (fun f => f) (fun _ _ f => f), h2.fr k (fun f => f) (fun _ _ f => f), h3, h4, h5.fr k (fun c f => f.elim), h6, h7, h8, h9, ?_, ?_, ?_, ?_, hQ2⟩
  · intro a
    rcases hQ _ a with b | b
    · exact h10 b
    · omega
  · intro a
    rcases hQ _ a with b | b
    · exact h11 b
    · omega
  · intro g hg a
    rcases hQ _ a with b | b
    · exact h12 g hg b
    · have := hv g hg; omega
  · intro g hg a
    rcases hQ _ a with b | b
    · exact h13 g hg b
    · have := hu g hg; omega
theorem Two.fresh {W0 : World} {Pr : Nat → Prop} {p q : Nat} {L M : List Pl.Ob} {W W' : World} (h : Two W0 Pr p L q M W) (k : Fr (fun _ => False) W W') : Two W0 Pr p L q M W' := by
  obtain ⟨v, u, h1, h2, h3, h4, h5, h6, h7, h8, h9, h10, h11, h12, h13, h14⟩ := h
  exact ⟨v, u, h1.fr k (fun f => f) (fun _ _ f => f), h2.fr k (fun f => f) (fun _ _ f => f), h3, h4, h5.fr k (fun c f => f.elim), h6, h7, h8, h9, h10, h11, h12, h13, fun c a => Nat.lt_of_lt_of_le (h14 c a) k.2.2.1⟩
theorem Two.grown {W0 : World} {Pr : Nat → Prop} {p q : Nat} {L M : List Pl.Ob} {W W' : World} (h : Two W0 Pr p L q M W) (g : Grown W W') : Two W0 Pr p L q M W' := h.fresh (Fr.of_grown _ g)
section
variable {W0 : World} {Pr : Nat → Prop} {p q : Nat} {L M : List Pl.Ob} {W : World} (h : Two W0 Pr p L q M W)
include h
theorem two_become (v1 : Value) (A : List Pl.Ob) (hR : RowV W v1 A) (hall : ∀ (j : Nat) (o : Pl.Ob), A[j]? = some o → Pl.mayO o) (hlen : A.length ≤ 200) :
    Calls Try.prog 20 #[.pointer (some ⟨p, 0, none⟩), v1] W fun e w' => e = .returned (.int .i64 0) ∧ Two W0 Pr p A q M w' ∧ FrS W0 Pr W w' := by
  obtain ⟨Q, hs, hQ, hb⟩ := h.left
  exact (stk_become W0 Q p L W hs v1 A hR hall hlen).mono fun e w' hh => ⟨hh.1, hb _ _ hh.2.1 hh.2.2⟩
theorem two_become_bad (v1 : Value) (A : List Pl.Ob) (hR : RowV W v1 A) (hlen : A.length ≤ 300) (j : Nat) (o : Pl.Ob) (hj : A[j]? = some o) (ho : ¬ Pl.mayO o) :
    Calls Try.prog 20 #[.pointer (some ⟨p, 0, none⟩), v1] W fun e w' => e = .returned (.int .i64 1) ∧ Two W0 Pr p L q M w' ∧ Fr (fun _ => False) W w' := by
  obtain ⟨Q, hs, hQ, hb⟩ := h.left
  exact (stk_become_bad W0 Q p L W hs v1 A hR hlen j o hj ho).mono fun e w' hh => ⟨hh.1, (hb _ _ hh.2.1 (Fr.of_grown _ hh.2.2)).1, Fr.of_grown _ hh.2.2⟩
theorem two_do (hlen : L.length ≤ 200) (hall : ∀ o ∈ L, Pl.mayO o) (n : Int) :
    Calls Try.prog 22 #[.pointer (some ⟨p, 0, none⟩), .int .i64 n] W fun e w' => e = .returned (.int .i64 (Pl.doR L n).1) ∧ Two W0 Pr p (Pl.doR L n).2 q M w' ∧ FrS W0 Pr W w' := by
  obtain ⟨Q, hs, hQ, hb⟩ := h.left
  exact (do_any W0 Q p L W hlen hs hall n).mono fun e w' hh => ⟨hh.1, hb _ _ hh.2.1 hh.2.2⟩
theorem two_items (hlen : L.length ≤ 300) :
    Calls Try.prog 21 #[.pointer (some ⟨p, 0, none⟩)] W fun e w' => ∃ vi, e = .returned vi ∧ w'.ownsRow W.heap.size 24 6 vi L.length (Pl.flat L) ∧ Fr (fun _ => False) W w' := by
  obtain ⟨v, u, h1, _⟩ := h
  exact items_any W0.heap.size p v L hlen W h1
end
theorem RowV.kept0 {W0 W : World} {v : Value} {A : List Pl.Ob} (h : RowV W0 v A) (k : Kept W0 W) : RowV W v A := by
  obtain ⟨ao, cap, rfl, h1⟩ := h
  rcases h1 with rfl | ⟨g, o, rfl, hg, h1⟩
  · exact ⟨ao, cap, rfl, .inl rfl⟩
  · exact ⟨_, cap, rfl, .inr ⟨g, o, rfl, Nat.lt_of_lt_of_le hg k.2.2, fun j u hj => (k.1.cell (b := g) (off := o + j) hg (fun f => f)).trans (h1 j u hj)⟩⟩
/-- append of a row of objects to a row of our own, guarded or not -/
theorem append_obs {ops : Array Oper} {rest : List Oper} {o : Oper} {a : Act} {Q : Exit → Act → World → Prop} (w : World) (base : Nat) (v : Value) (L M : List Pl.Ob) (hown : w.ownsRow base 24 6 v L.length (Pl.flat L))
    (ao : Option Addr) (m c : Nat) (hm : m = M.length) (hR : RowV w (.slice ao m c) M) (hlen : L.length + M.length ≤ 1000) (hbase : base ≤ w.heap.size)
    (hw : Region.wanted o (yielded ops a.tmps) = true) (s x : Operand) (ho : o.op = .call { callee := .builtin .append, args := #[s, x], argTypes := #[26, 26] })
    (hs : a.eval s = v) (hx : a.eval x = .slice ao m c)
    (h : ∀ v' w', w'.ownsRow base 24 6 v' (L ++ M).length (Pl.flat (L ++ M)) → Fr (fun k => v.ownBlock = some k) w w' → wpList Try.prog ops Q rest (a.put o.dst v') w') : wpList Try.prog ops Q (o :: rest) a w := by
  subst hm
  obtain ⟨i0, hi, hz0, hz1, hz2⟩ := info_parts Try.objInfo
  have hsrc := hR.src
  refine BigFrame.wpList_want hw fun K hK => wp_append_all w base 26 24 i0 _ 6 56 Try.underlying26 hi hz0 hz1 hz2 rfl (by decide) v L.length (Pl.flat L) hown ao M.length c (Pl.flat M) hsrc.1 (Pl.flat_len M) hsrc.2 (Pl.flat_one M) (by unfold maxLen; omega) (by omega) hbase s x ho hs hx fun v' w' h2 h3 h4 => hK _ _ (h v' w' ?_ (Fr.grown _ h3 (fun k q => q)))
  rw [List.length_append, Pl.flat_append]
  exact h2
theorem cellsOb18 : Try.prog.cellsOf 24 = 6 := by kernel_rfl
theorem cellsI18 : Try.prog.cellsOf 3 = 1 := by kernel_rfl
theorem cellsB18 : Try.prog.cellsOf 4 = 1 := by kernel_rfl
theorem cellsS18 : Try.prog.cellsOf 9 = 1 := by kernel_rfl
section
open Go.ChangeShapes Go.WideShapes Go.ChangeAt
variable {H : Type} {enc : TypeId × Value → H} {w : World} {base : Nat} {spare : Nat → Bool} {held : Bool}
/-- the cells of an object -/
theorem cells_obj {fuel : Nat} {c : List Value} {y : DataW H × List MemPlace} (hl : c.length = 6) (hf : DataW.trod enc Try.prog w base spare held fuel 24 c = some y) : ∃ o : Pl.Ob, c = Pl.oc o ∧ o.2.2.2.2.2.size ≤ maxLen := by
  match c, hl with
  | [c0, c1, c2, c3, c4, c5], _ =>
    obtain ⟨xs, m, _, hx, _, hlen, hg⟩ := DataW.trod_struct Try.underlying24 hf
    match xs, hlen with
    | [y0, y1, y2, y3, y4, y5], _ =>
      obtain ⟨k, e0, rfl, w0⟩ := DataW.trod_int Try.underlying3 (hg 0 _ rfl)
      obtain ⟨x, e1, rfl⟩ := DataW.trod_bool Try.underlying4 (hg 1 _ rfl)
      obtain ⟨n, e2, rfl, w2⟩ := DataW.trod_int Try.underlying3 (hg 2 _ rfl)
      obtain ⟨a, e3, rfl, w3⟩ := DataW.trod_int Try.underlying3 (hg 3 _ rfl)
      obtain ⟨l, e4, rfl, w4⟩ := DataW.trod_int Try.underlying3 (hg 4 _ rfl)
      obtain ⟨s, e5, rfl, w5⟩ := DataW.trod_string Try.underlying9 (hg 5 _ rfl)
      simp [cellsI18, cellsB18, cellsS18] at e0 e1 e2 e3 e4 e5
      subst e0 e1 e2 e3 e4 e5
      exact ⟨(k, x, n, a, l, s), rfl, w5⟩
variable {W : World}
/-- a slice of objects of the caller's -/
theorem open_objs {r : Reach} {b0 : Nat} {v : Value} {d : DataW H} {ps : List MemPlace} (hval : Value.okWide Try.prog W r b0 26 v) (hd : DataW.Trod enc Try.prog W 0 (fun _ => true) true 26 v d ps) : ∃ A : List Pl.Ob, RowV W v A ∧ A.length ≤ maxLen := by
  obtain ⟨els, hE⟩ := open_els Try.underlying26 (by rw [cellsOb18]; omega) hval hd
  obtain ⟨A, rfl⟩ := hE.rows Pl.oc (fun c fuel y hl hy => by
    obtain ⟨o, ho, _⟩ := cells_obj (hl.trans cellsOb18) hy
    exact ⟨o, ho⟩)
  obtain ⟨ao, cap, rfl, _, hm, _, h⟩ := hE
  rw [List.length_map] at hm
  refine ⟨A, ⟨ao, cap, by rw [List.length_map], ?_⟩, hm⟩
  rcases h with h | ⟨g, o, rfl, hg, h⟩
  · exact .inl (List.map_eq_nil_iff.1 h)
  · refine .inr ⟨g, o, rfl, hg, fun j u hu => ?_⟩
    have hj := (List.getElem?_eq_some_iff.1 hu).1
    rw [Pl.flat_len] at hj
    obtain ⟨q, hq⟩ : ∃ q, A[j / 6]? = some q := ⟨_, List.getElem?_eq_getElem (by omega)⟩
    have hr := Pl.flat_get A (j / 6) q hq (j % 6) (by omega)
    rw [show j / 6 * 6 + j % 6 = j from by omega, hu] at hr
    have := h (j / 6) (Pl.oc q) (by rw [List.getElem?_map, hq]; rfl) (j % 6) u hr.symm
    rw [cellsOb18, show o + j / 6 * 6 + j % 6 = o + j from by omega] at this
    exact this
end
end Go.Proofs.Ytfmmomdmemcbbaa
