/- A stack of this call's own beside rows that stay: what each of its methods answers. -/
import Derived.Test.YtenmbkngkabonaaT14
namespace Go.Proofs.Ytenmbkngkabonaa
set_option linter.unusedVariables false
open Go.RowKit

abbrev Pl.ov (o : Pl.Ob) : Value := obv o.1 o.2.1 o.2.2.1 o.2.2.2.1 o.2.2.2.2.1 o.2.2.2.2.2
theorem Fr.weaken {P Q : Nat → Prop} {W W' : World} (h : Fr P W W') (hq : ∀ c, P c → Q c) : Fr Q W W' := ⟨h.1, h.2.1, h.2.2.1, fun c hc hn => h.2.2.2 c hc (fun q => hn (hq c q))⟩

/-- a stack born since W0, with the objects L; the blocks Pr are none of its own -/
def Stk (W0 : World) (Pr : Nat → Prop) (p : Nat) (L : List Pl.Ob) (W : World) : Prop :=
  ∃ v, StkV W0.heap.size p v L W ∧ W0.heap.size ≤ p ∧ Kept W0 W ∧ ¬ Pr p ∧ (∀ g, v.ownBlock = some g → ¬ Pr g) ∧ ∀ c, Pr c → c < W.heap.size
/-- a step that leaves the blocks Pr, and all that is older than W0 -/
abbrev FrS (W0 : World) (Pr : Nat → Prop) (W W' : World) : Prop := Fr (fun c => ¬ Pr c ∧ W0.heap.size ≤ c) W W'

theorem stk_step {W0 : World} {Pr : Nat → Prop} {p : Nat} {L L' : List Pl.Ob} {v v' : Value} {W w' : World} (hS : StkV W0.heap.size p v L W) (hp : W0.heap.size ≤ p) (hK : Kept W0 W) (hPp : ¬ Pr p) (hPv : ∀ g, v.ownBlock = some g → ¬ Pr g) (hPl : ∀ c, Pr c → c < W.heap.size)
    (hS' : StkV W0.heap.size p v' L' w') (hv : ∀ g, v'.ownBlock = some g → v.ownBlock = some g ∨ W.heap.size ≤ g) (hF : Fr (fun c => c = p ∨ v.ownBlock = some c) W w') : Stk W0 Pr p L' w' ∧ FrS W0 Pr W w' := by
  have hb := own_base hS.2.2.1
  refine ⟨⟨v', hS', hp, hK.fr hF ?_, hPp, fun g q h => ?_, fun c q => Nat.lt_of_lt_of_le (hPl c q) hF.2.2.1⟩, hF.weaken ?_⟩
  · rintro c (rfl | q)
    · exact hp
    · exact hb c q
  · rcases hv g q with h2 | h2
    · exact hPv g h2 h
    · have := hPl g h
      omega
  · rintro c (rfl | q)
    · exact ⟨hPp, hp⟩
    · exact ⟨hPv c q, hb c q⟩
theorem Stk.grown {W0 : World} {Pr : Nat → Prop} {p : Nat} {L : List Pl.Ob} {W W' : World} (h : Stk W0 Pr p L W) (g : Grown W W') : Stk W0 Pr p L W' := by
  obtain ⟨v, hS, h1, h2, h3, h4, h5⟩ := h
  exact ⟨v, hS.fr (P := fun _ => False) (Fr.of_grown _ g) (fun f => f) (fun _ _ f => f), h1, h2.trans (Kept.of_grown g), h3, h4, fun c q => Nat.lt_of_lt_of_le (h5 c q) g.2.2⟩
theorem Stk.keptw {W0 : World} {Pr : Nat → Prop} {p : Nat} {L : List Pl.Ob} {W : World} (h : Stk W0 Pr p L W) : Kept W0 W := by
  obtain ⟨v, hS, h1, h2, h3, h4, h5⟩ := h
  exact h2
theorem Stk.protect {W0 : World} {Pr Qr : Nat → Prop} {p : Nat} {L : List Pl.Ob} {W W' : World} (h : Stk W0 Pr p L W) (k : Fr (fun _ => False) W W') (hq : ∀ c, Qr c → c < W.heap.size → Pr c) (hq' : ∀ c, Qr c → c < W'.heap.size) : Stk W0 Qr p L W' := by
  obtain ⟨v, hS, h1, h2, h3, h4, h5⟩ := h
  have hl := own_lt hS.2.2.1
  exact ⟨v, hS.fr (P := fun _ => False) k (fun f => f) (fun _ _ f => f), h1, h2.fr k (fun c f => f.elim), fun q => h3 (hq _ q hS.2.2.2.2), fun g q r => h4 g q (hq _ r (hl g q)), hq'⟩

/-- a new box is no block of its own -/
theorem Stk.box {W0 : World} {Pr : Nat → Prop} {p : Nat} {L : List Pl.Ob} {W : World} (h : Stk W0 Pr p L W) (o : Obj) : Stk W0 (fun c => Pr c ∨ c = W.heap.size) p L (W.alloc o) := by
  obtain ⟨v, hS, h1, h2, h3, h4, h5⟩ := id h
  refine h.protect (Fr.alloc _ W o) (fun c q hc => q.elim id (fun e => by omega)) (fun c q => ?_)
  rcases q with q | q
  · have := h5 c q; simp; omega
  · simp; omega
/-- a box -/
abbrev ObC (b : Nat) (k : Int) (x : Bool) (n a l : Int) (s : ByteArray) (W : World) : Prop :=
  W.cell? ⟨b, 0, none⟩ = some (.int .i64 k) ∧ W.cell? ⟨b, 1, none⟩ = some (.bool x) ∧ W.cell? ⟨b, 2, none⟩ = some (.int .i64 n) ∧ W.cell? ⟨b, 3, none⟩ = some (.int .i64 a) ∧ W.cell? ⟨b, 4, none⟩ = some (.int .i64 l) ∧ W.cell? ⟨b, 5, none⟩ = some (.string s)
theorem ObC.grown {W W' : World} {b : Nat} {k : Int} {x : Bool} {n a l : Int} {s : ByteArray} (h : ObC b k x n a l s W) (hg : Grown W W') : ObC b k x n a l s W' :=
  ⟨grown_cell hg h.1, grown_cell hg h.2.1, grown_cell hg h.2.2.1, grown_cell hg h.2.2.2.1, grown_cell hg h.2.2.2.2.1, grown_cell hg h.2.2.2.2.2⟩
theorem ObC.fr {W0 W W' : World} {Pr : Nat → Prop} {b : Nat} {k : Int} {x : Bool} {n a l : Int} {s : ByteArray} (h : ObC b k x n a l s W) (hg : FrS W0 Pr W W') (hb : Pr b) : ObC b k x n a l s W' := by
  have hl : b < W.heap.size := block_lt_of_cell h.1
  have e : ∀ o, W'.cell? ⟨b, o, none⟩ = W.cell? ⟨b, o, none⟩ := fun o => hg.cell (a := ⟨b, o, none⟩) hl (fun q => q.1 hb)
  exact ⟨(e 0).trans h.1, (e 1).trans h.2.1, (e 2).trans h.2.2.1, (e 3).trans h.2.2.2.1, (e 4).trans h.2.2.2.2.1, (e 5).trans h.2.2.2.2.2⟩
theorem ObC.kept {W W' : World} {b : Nat} {k : Int} {x : Bool} {n a l : Int} {s : ByteArray} (h : ObC b k x n a l s W) (hg : Kept W W') : ObC b k x n a l s W' := by
  have hl : b < W.heap.size := block_lt_of_cell h.1
  have e : ∀ o, W'.cell? ⟨b, o, none⟩ = W.cell? ⟨b, o, none⟩ := fun o => hg.1.cell hl (fun q => q)
  exact ⟨(e 0).trans h.1, (e 1).trans h.2.1, (e 2).trans h.2.2.1, (e 3).trans h.2.2.2.1, (e 4).trans h.2.2.2.2.1, (e 5).trans h.2.2.2.2.2⟩
theorem ObC.new (W : World) (k : Int) (x : Bool) (n a l : Int) (s : ByteArray) : ObC W.heap.size k x n a l s (W.alloc (.cells #[.int .i64 k, .bool x, .int .i64 n, .int .i64 a, .int .i64 l, .string s] 38)) :=
  ⟨by simp [go_sem], by simp [go_sem], by simp [go_sem], by simp [go_sem], by simp [go_sem], by simp [go_sem]⟩

/-- a row of objects in blocks that stay -/
def RowP (Pr : Nat → Prop) (W : World) (v : Value) (L : List Pl.Ob) : Prop := RowV W v L ∧ ∀ ao m c, v = .slice ao m c → ∀ a, ao = some a → L ≠ [] → Pr a.block
theorem RowP.fr {W0 : World} {Pr : Nat → Prop} {W W' : World} {v : Value} {L : List Pl.Ob} (h : RowP Pr W v L) (k : FrS W0 Pr W W') : RowP Pr W' v L := by
  refine ⟨?_, h.2⟩
  obtain ⟨⟨ao, cap, rfl, h1⟩, h2⟩ := h
  rcases h1 with rfl | ⟨g, o, rfl, hg, h1⟩
  · exact ⟨ao, cap, rfl, .inl rfl⟩
  · by_cases hL : L = []
    · exact ⟨_, cap, rfl, .inl hL⟩
    · exact RowV.fr ⟨_, cap, rfl, .inr ⟨g, o, rfl, hg, h1⟩⟩ k (fun a q r => r.1 (h2 _ _ _ rfl a q hL))
theorem RowP.grown {Pr : Nat → Prop} {W W' : World} {v : Value} {L : List Pl.Ob} (h : RowP Pr W v L) (k : Grown W W') : RowP Pr W' v L := ⟨h.1.grown k, h.2⟩
theorem RowP.weaken {Pr Qr : Nat → Prop} {W : World} {v : Value} {L : List Pl.Ob} (h : RowP Pr W v L) (k : ∀ c, Pr c → Qr c) : RowP Qr W v L := ⟨h.1, fun ao m c hv a ha hL => k _ (h.2 ao m c hv a ha hL)⟩

/-- nil, or from a block's first cell on -/
def OwnForm (v : Value) (n : Nat) : Prop := (v = .slice none n n ∧ n = 0) ∨ ∃ g cap, v = .slice (some ⟨g, 0, none⟩) n cap ∧ n ≤ cap
theorem own_form {w : World} {base : Nat} {e : TypeId} {size : Nat} {v : Value} {n : Nat} {xs : List Value} (h : w.ownsRow base e size v n xs) : OwnForm v n := by
  rcases h.2 with ⟨rfl, h0⟩ | ⟨g, cap, cur, rfl, _, _, hc, _⟩
  · exact .inl ⟨by rw [h0], h0⟩
  · exact .inr ⟨g, cap, rfl, hc⟩

theorem stk_new (W0 : World) (Pr : Nat → Prop) (W : World) (hK : Kept W0 W) (hPr : ∀ c, Pr c → c < W.heap.size) :
    Calls Try.prog 37 #[] W fun e w' => e = .returned (.pointer (some ⟨W.heap.size, 0, none⟩)) ∧ Stk W0 Pr W.heap.size [] w' ∧ FrS W0 Pr W w' := by
  refine (new_any W).mono ?_
  rintro e w' ⟨rfl, rfl⟩
  have hb : W0.heap.size ≤ W.heap.size := hK.2.2
  have h := new_stk W
  refine ⟨rfl, ⟨_, ⟨h.1, h.2.1, World.ownsRow_nil _ _ _ _, h.2.2.2.1, h.2.2.2.2⟩, hb, hK.fr (Fr.alloc (fun _ => False) W _) (fun c f => f.elim), fun q => by have := hPr _ q; omega, fun g q => by simp [Value.ownBlock] at q, fun c q => by have := hPr c q; simp; omega⟩, Fr.alloc _ _ _⟩

section
variable (W0 : World) (Pr : Nat → Prop) (p : Nat) (L : List Pl.Ob) (W : World) (h : Stk W0 Pr p L W)
include h
theorem stk_push (o : Pl.Ob) (hm : Pl.mayO o) (hn : L.length < 200) :
    Calls Try.prog 38 #[.pointer (some ⟨p, 0, none⟩), Pl.ov o] W fun e w' => e = .returned (.int .i64 0) ∧ Stk W0 Pr p (L ++ [o]) w' ∧ FrS W0 Pr W w' := by
  obtain ⟨v, hS, h1, h2, h3, h4, h5⟩ := h
  refine (push_ok W0.heap.size p v L o.1 o.2.1 o.2.2.1 o.2.2.2.1 o.2.2.2.2.1 o.2.2.2.2.2 hm hn W hS h2.2.2).mono ?_
  rintro e w' ⟨rfl, ⟨v', hS', hv'⟩, hF⟩
  exact ⟨rfl, stk_step hS h1 h2 h3 h4 h5 hS' hv' hF⟩
theorem stk_push_bad (o : Pl.Ob) (hm : ¬ Pl.mayO o) :
    Calls Try.prog 38 #[.pointer (some ⟨p, 0, none⟩), Pl.ov o] W fun e w' => e = .returned (.int .i64 1) ∧ Stk W0 Pr p L w' ∧ Grown W w' := by
  obtain ⟨v, hS, h1, h2, h3, h4, h5⟩ := id h
  refine (push_bad W0.heap.size p v L o.1 o.2.1 o.2.2.1 o.2.2.2.1 o.2.2.2.2.1 o.2.2.2.2.2 hm W hS).mono ?_
  rintro e w' ⟨rfl, g⟩
  exact ⟨rfl, h.grown g, g⟩
theorem stk_push_full (o : Pl.Ob) (hm : Pl.mayO o) (hn : 200 ≤ L.length) (hlen : L.length ≤ 300) :
    Calls Try.prog 38 #[.pointer (some ⟨p, 0, none⟩), Pl.ov o] W fun e w' => e = .returned (.int .i64 8) ∧ Stk W0 Pr p L w' ∧ Grown W w' := by
  obtain ⟨v, hS, h1, h2, h3, h4, h5⟩ := id h
  refine (push_full W0.heap.size p v L o.1 o.2.1 o.2.2.1 o.2.2.2.1 o.2.2.2.2.1 o.2.2.2.2.2 hm hn W hS).mono ?_
  rintro e w' ⟨rfl, g⟩
  exact ⟨rfl, h.grown g, g⟩
theorem stk_len :
    Calls Try.prog 28 #[.pointer (some ⟨p, 0, none⟩)] W fun e w' => e = .returned (.int .i64 (L.length : Int)) ∧ w' = W := by
  obtain ⟨v, hS, h1, h2, h3, h4, h5⟩ := h
  exact len_any W0.heap.size p v L W hS
theorem stk_peek (i : Nat) (o : Pl.Ob) (ho : L.reverse[i]? = some o) (hlen : L.length ≤ 300) :
    Calls Try.prog 40 #[.pointer (some ⟨p, 0, none⟩), .int .i64 (i : Int)] W fun e w' => e = .returned (.tuple #[Pl.ov o, .int .i64 0]) ∧ Stk W0 Pr p L w' ∧ Grown W w' := by
  obtain ⟨v, hS, h1, h2, h3, h4, h5⟩ := id h
  have hl := (List.getElem?_eq_some_iff.1 ho).1
  rw [List.length_reverse] at hl
  rw [List.getElem?_reverse hl] at ho
  refine (peek_ok W0.heap.size p v L i (L.length - 1 - i) o.1 o.2.1 o.2.2.1 o.2.2.2.1 o.2.2.2.2.1 o.2.2.2.2.2 (by omega) ho hlen W hS).mono ?_
  rintro e w' ⟨rfl, g⟩
  exact ⟨rfl, h.grown g, g⟩
theorem stk_peek_low (i : Int) (hi : i < 0) :
    Calls Try.prog 40 #[.pointer (some ⟨p, 0, none⟩), .int .i64 i] W fun e w' => e = .returned (.tuple #[obv 0 false 0 0 0 ⟨#[]⟩, .int .i64 2]) ∧ Stk W0 Pr p L w' ∧ Grown W w' := by
  obtain ⟨v, hS, h1, h2, h3, h4, h5⟩ := id h
  refine (peek_low W0.heap.size p v L i hi W hS).mono ?_
  rintro e w' ⟨rfl, g⟩
  exact ⟨rfl, h.grown g, g⟩
theorem stk_peek_under (i : Int) (hi0 : 0 ≤ i) (hi : (L.length : Int) ≤ i) :
    Calls Try.prog 40 #[.pointer (some ⟨p, 0, none⟩), .int .i64 i] W fun e w' => e = .returned (.tuple #[obv 0 false 0 0 0 ⟨#[]⟩, .int .i64 7]) ∧ Stk W0 Pr p L w' ∧ Grown W w' := by
  obtain ⟨v, hS, h1, h2, h3, h4, h5⟩ := id h
  refine (peek_under W0.heap.size p v L i hi0 hi W hS).mono ?_
  rintro e w' ⟨rfl, g⟩
  exact ⟨rfl, h.grown g, g⟩
theorem stk_pop (A : List Pl.Ob) (o : Pl.Ob) (hL : L = A ++ [o]) (hlen : A.length ≤ 299) :
    Calls Try.prog 41 #[.pointer (some ⟨p, 0, none⟩)] W fun e w' => e = .returned (.tuple #[Pl.ov o, .int .i64 0]) ∧ Stk W0 Pr p A w' ∧ FrS W0 Pr W w' := by
  subst hL
  obtain ⟨v, hS, h1, h2, h3, h4, h5⟩ := id h
  refine (pop_ok W0.heap.size p v A o.1 o.2.1 o.2.2.1 o.2.2.2.1 o.2.2.2.2.1 o.2.2.2.2.2 hlen W hS).mono ?_
  rintro e w' ⟨rfl, ⟨v', hS', hv'⟩, hF⟩
  exact ⟨rfl, stk_step hS h1 h2 h3 h4 h5 hS' (fun g q => .inl (by rw [← hv']; exact q)) (hF.weaken (fun c q => .inl q))⟩
theorem stk_pop_none (hL : L = []) :
    Calls Try.prog 41 #[.pointer (some ⟨p, 0, none⟩)] W fun e w' => e = .returned (.tuple #[obv 0 false 0 0 0 ⟨#[]⟩, .int .i64 7]) ∧ Stk W0 Pr p L w' ∧ Grown W w' := by
  subst hL
  obtain ⟨v, hS, h1, h2, h3, h4, h5⟩ := id h
  refine (pop_none W0.heap.size p v W hS).mono ?_
  rintro e w' ⟨rfl, g⟩
  exact ⟨rfl, h.grown g, g⟩
theorem stk_roll (n : Nat) (j : Int) (hn : n ≤ L.length) (hlen : L.length ≤ 300) :
    Calls Try.prog 27 #[.pointer (some ⟨p, 0, none⟩), .int .i64 (n : Int), .int .i64 j] W fun e w' => e = .returned (.int .i64 0) ∧ Stk W0 Pr p (Pl.rot L n j) w' ∧ FrS W0 Pr W w' := by
  obtain ⟨v, hS, h1, h2, h3, h4, h5⟩ := h
  refine (roll_ok W0.heap.size p v L n j hn hlen W hS).mono ?_
  rintro e w' ⟨rfl, hS', hF⟩
  exact ⟨rfl, stk_step hS h1 h2 h3 h4 h5 hS' (fun g q => .inl q) (hF.weaken (fun c q => .inr q))⟩
theorem stk_roll_low (n j : Int) (hn : n < 0) :
    Calls Try.prog 27 #[.pointer (some ⟨p, 0, none⟩), .int .i64 n, .int .i64 j] W fun e w' => e = .returned (.int .i64 2) ∧ Stk W0 Pr p L w' ∧ Grown W w' := by
  obtain ⟨v, hS, h1, h2, h3, h4, h5⟩ := id h
  refine (roll_low W0.heap.size p v L n hn j W hS).mono ?_
  rintro e w' ⟨rfl, g⟩
  exact ⟨rfl, h.grown g, g⟩
theorem stk_roll_under (n j : Int) (hn : (L.length : Int) < n) :
    Calls Try.prog 27 #[.pointer (some ⟨p, 0, none⟩), .int .i64 n, .int .i64 j] W fun e w' => e = .returned (.int .i64 7) ∧ Stk W0 Pr p L w' ∧ Grown W w' := by
  obtain ⟨v, hS, h1, h2, h3, h4, h5⟩ := id h
  refine (roll_under W0.heap.size p v L n hn j W hS).mono ?_
  rintro e w' ⟨rfl, g⟩
  exact ⟨rfl, h.grown g, g⟩
theorem stk_dup (n : Nat) (hn : n ≤ L.length) (ho : L.length + n ≤ 200) :
    Calls Try.prog 42 #[.pointer (some ⟨p, 0, none⟩), .int .i64 (n : Int)] W fun e w' => e = .returned (.int .i64 0) ∧ Stk W0 Pr p (L ++ L.drop (L.length - n)) w' ∧ FrS W0 Pr W w' := by
  obtain ⟨v, hS, h1, h2, h3, h4, h5⟩ := h
  refine (dup_ok W0.heap.size p v L n hn ho W hS h2.2.2).mono ?_
  rintro e w' ⟨rfl, ⟨v', hS', hv'⟩, hF⟩
  exact ⟨rfl, stk_step hS h1 h2 h3 h4 h5 hS' hv' hF⟩
theorem stk_dup_low (n : Int) (hn : n < 0) :
    Calls Try.prog 42 #[.pointer (some ⟨p, 0, none⟩), .int .i64 n] W fun e w' => e = .returned (.int .i64 2) ∧ Stk W0 Pr p L w' ∧ Grown W w' := by
  obtain ⟨v, hS, h1, h2, h3, h4, h5⟩ := id h
  refine (dup_low W0.heap.size p v L n hn W hS).mono ?_
  rintro e w' ⟨rfl, g⟩
  exact ⟨rfl, h.grown g, g⟩
theorem stk_dup_under (n : Int) (hn : (L.length : Int) < n) :
    Calls Try.prog 42 #[.pointer (some ⟨p, 0, none⟩), .int .i64 n] W fun e w' => e = .returned (.int .i64 7) ∧ Stk W0 Pr p L w' ∧ Grown W w' := by
  obtain ⟨v, hS, h1, h2, h3, h4, h5⟩ := id h
  refine (dup_under W0.heap.size p v L n hn W hS).mono ?_
  rintro e w' ⟨rfl, g⟩
  exact ⟨rfl, h.grown g, g⟩
theorem stk_dup_over (n : Nat) (hn : n ≤ L.length) (hlen : L.length ≤ 300) (ho : 200 < L.length + n) :
    Calls Try.prog 42 #[.pointer (some ⟨p, 0, none⟩), .int .i64 (n : Int)] W fun e w' => e = .returned (.int .i64 8) ∧ Stk W0 Pr p L w' ∧ Grown W w' := by
  obtain ⟨v, hS, h1, h2, h3, h4, h5⟩ := id h
  refine (dup_over W0.heap.size p v L n hn hlen ho W hS).mono ?_
  rintro e w' ⟨rfl, g⟩
  exact ⟨rfl, h.grown g, g⟩
theorem stk_tomark (hlen : L.length ≤ 300) :
    Calls Try.prog 39 #[.pointer (some ⟨p, 0, none⟩)] W fun e w' => e = .returned (.tuple #[.int .i64 (Pl.toMark L).1, .int .i64 (Pl.toMark L).2]) ∧ Stk W0 Pr p L w' ∧ Grown W w' := by
  obtain ⟨v, hS, h1, h2, h3, h4, h5⟩ := id h
  refine (tomark_any W0.heap.size p v L hlen W hS).mono ?_
  rintro e w' ⟨rfl, g⟩
  exact ⟨rfl, h.grown g, g⟩
theorem stk_clear :
    Calls Try.prog 54 #[.pointer (some ⟨p, 0, none⟩)] W fun e w' => e = .returned (.tuple #[]) ∧ Stk W0 Pr p [] w' ∧ FrS W0 Pr W w' := by
  obtain ⟨v, hS, h1, h2, h3, h4, h5⟩ := id h
  refine (clear_any W0.heap.size p v L W hS).mono ?_
  rintro e w' ⟨rfl, hS', hF⟩
  exact ⟨rfl, stk_step hS h1 h2 h3 h4 h5 hS' (fun g q => by simp [Value.ownBlock] at q) (hF.weaken (fun c q => .inl q))⟩
theorem stk_items (hlen : L.length ≤ 300) :
    Calls Try.prog 26 #[.pointer (some ⟨p, 0, none⟩)] W fun e w' => ∃ vi, e = .returned vi ∧ RowP (fun c => Pr c ∨ vi.ownBlock = some c) w' vi L ∧ Stk W0 (fun c => Pr c ∨ vi.ownBlock = some c) p L w' ∧ FrS W0 Pr W w' ∧ OwnForm vi L.length := by
  obtain ⟨v, hS, h1, h2, h3, h4, h5⟩ := id h
  refine (items_any W0.heap.size p v L hlen W hS).mono ?_
  rintro e w' ⟨vi, rfl, hown, hF⟩
  have hl := own_lt hown
  have hb := own_base hown
  refine ⟨vi, rfl, ⟨own_row hown, ?_⟩, h.protect hF ?_ ?_, hF.weaken (fun c f => f.elim), own_form hown⟩
  · intro ao m c hv a ha hL
    refine .inr ?_
    rcases hown.2 with ⟨hv0, h0⟩ | ⟨g, cap, cur, hv0, _⟩
    · exact absurd (List.eq_nil_of_length_eq_zero h0) hL
    · rw [hv0] at hv
      injection hv with q1 q2 q3
      rw [ha] at q1
      injection q1 with q1
      rw [hv0, ← q1]
      rfl
  · rintro c (q | q) hc
    · exact q
    · have := hb c q
      omega
  · rintro c (q | q)
    · exact Nat.lt_of_lt_of_le (h5 c q) hF.2.2.1
    · exact hl c q
theorem stk_become (v1 : Value) (A : List Pl.Ob) (hR : RowV W v1 A) (hall : ∀ (j : Nat) (o : Pl.Ob), A[j]? = some o → Pl.mayO o) (hlen : A.length ≤ 200) :
    Calls Try.prog 43 #[.pointer (some ⟨p, 0, none⟩), v1] W fun e w' => e = .returned (.int .i64 0) ∧ Stk W0 Pr p A w' ∧ FrS W0 Pr W w' := by
  obtain ⟨v, hS, h1, h2, h3, h4, h5⟩ := id h
  refine (become_ok W0.heap.size p v1 v A hlen hall W hR hS.1 hS.2.1 hS.2.2.2.2 h2.2.2).mono ?_
  rintro e w' ⟨rfl, ⟨v', hS', hv'⟩, hF⟩
  exact ⟨rfl, stk_step hS h1 h2 h3 h4 h5 hS' (fun g q => .inr (hv' g q)) (hF.weaken (fun c q => .inl q))⟩
theorem stk_become_over (v1 : Value) (A : List Pl.Ob) (hR : RowV W v1 A) (hall : ∀ (j : Nat) (o : Pl.Ob), A[j]? = some o → Pl.mayO o) (hlen : 200 < A.length ∧ A.length ≤ 400) :
    Calls Try.prog 43 #[.pointer (some ⟨p, 0, none⟩), v1] W fun e w' => e = .returned (.int .i64 8) ∧ Stk W0 Pr p L w' ∧ Grown W w' := by
  obtain ⟨v, hS, h1, h2, h3, h4, h5⟩ := id h
  refine (become_over W0.heap.size p v1 v A hlen hall W hR hS.1 hS.2.1 hS.2.2.2.2 h2.2.2).mono ?_
  rintro e w' ⟨rfl, g⟩
  exact ⟨rfl, h.grown g, g⟩
theorem stk_become_bad (v1 : Value) (A : List Pl.Ob) (hR : RowV W v1 A) (hlen : A.length ≤ 300) (j : Nat) (o : Pl.Ob) (hj : A[j]? = some o) (ho : ¬ Pl.mayO o) :
    Calls Try.prog 43 #[.pointer (some ⟨p, 0, none⟩), v1] W fun e w' => e = .returned (.int .i64 1) ∧ Stk W0 Pr p L w' ∧ Grown W w' := by
  refine (become_bad p v1 A hlen j o hj ho W hR).mono ?_
  rintro e w' ⟨rfl, g⟩
  exact ⟨rfl, h.grown g, g⟩
end
end Go.Proofs.Ytenmbkngkabonaa
