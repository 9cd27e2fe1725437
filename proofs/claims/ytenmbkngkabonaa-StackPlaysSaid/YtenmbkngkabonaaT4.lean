/- A stack's state, and stack.New, Len and Push. · A frame for calls that write into blocks of their caller's, and stack.New, Len. · The walk of (*stack.Stack).Push. · Push where it is refused, Peek. -/
import Derived.Test.YtenmbkngkabonaaO5
import Derived.Test.YtenmbkngkabonaaP8
import Derived.Deep.RegionLaw
import Derived.Deep.DeepAppendRoom
namespace Go.Proofs.Ytenmbkngkabonaa
set_option linter.unusedVariables false
open Go.RowKit

theorem Try.objInfo : (Try.prog.info? 38).map (fun i => (i.zero, i.size, i.bytes)) = some (some (obv 0 false 0 0 0 ⟨#[]⟩), 6, 56) := by kernel_rfl

/-- an object by its fields -/
abbrev Pl.Ob := Int × Bool × Int × Int × Int × ByteArray
def Pl.oc (o : Pl.Ob) : List Value := [.int .i64 o.1, .bool o.2.1, .int .i64 o.2.2.1, .int .i64 o.2.2.2.1, .int .i64 o.2.2.2.2.1, .string o.2.2.2.2.2]
def Pl.flat : List Pl.Ob → List Value
  | [] => []
  | o :: r => Pl.oc o ++ Pl.flat r
theorem Pl.flat_append (a b : List Pl.Ob) : Pl.flat (a ++ b) = Pl.flat a ++ Pl.flat b := by
  induction a with
  | nil => rfl
  | cons o r ih => simp only [List.cons_append, Pl.flat, ih, List.append_assoc]

/-- the own append, as one step of a region that draws -/
theorem step_append_own {P : Program} {ops : Array Oper} {o : Oper} {a : Act} {w : World} {K : Act → World → Prop} {Q : Exit → Act → World → Prop} {E : Prop}
    (hg : o.guard = none) (s x : Operand) (t : TypeId) (ho : o.op = .call { callee := .builtin .append, args := #[s, x], argTypes := #[t, t] })
    (base : Nat) (e : TypeId) (i : TypeInfo) (z : Value) (size bytes : Nat) (ht : P.underlying t = some (.slice e)) (hi : P.info? e = some i) (hz : i.zero = some z)
    (hsize : i.size = size) (hby : i.bytes = bytes) (hzs : z.cells.size = size) (hsz : 0 < size)
    (v : Value) (n : Nat) (xs : List Value) (hs : a.eval s = v) (hown : w.ownsRow base e size v n xs)
    (ad : Addr) (m c : Nat) (news : List Value) (hx : a.eval x = .slice (some ad) m c) (hl : news.length = m * size) (hnews : ∀ j u, news[j]? = some u → w.cell? (ad.add j) = some u) (h1 : ∀ u ∈ news, u.oneCell' = true)
    (h63 : n + m ≤ maxLen) (hbytes : (n + m) * bytes ≤ 140737488355328) (hbase : base ≤ w.heap.size)
    (h : ∀ v' w', w'.ownsRow base e size v' (n + m) (xs ++ news) → w.grownBy w' v.ownBlock → (v' = .slice none 0 0 ↔ v = .slice none 0 0 ∧ m = 0) → K (a.put o.dst v') w') :
    if Region.wanted o (yielded ops a.tmps) = true then Oper.wp P o a w K Q else E := by
  have hw : Region.wanted o (yielded ops a.tmps) = true := by simp [Region.wanted, hg]
  rw [if_pos hw]
  exact wp_append_own w s x t ho base e i z size bytes ht hi hz hsize hby hzs hsz v n xs hs hown ad m c news hx hl hnews h1 h63 hbytes hbase fun v' w' h2 h3 h4 => h v' w' h2 h3 h4

/-- the append where there is room: the same block -/
theorem step_append_spare {P : Program} {ops : Array Oper} {o : Oper} {a : Act} {w : World} {K : Act → World → Prop} {Q : Exit → Act → World → Prop} {E : Prop}
    (hg : o.guard = none) (s x : Operand) (t : TypeId) (ho : o.op = .call { callee := .builtin .append, args := #[s, x], argTypes := #[t, t] })
    (base : Nat) (e : TypeId) (i : TypeInfo) (size : Nat) (ht : P.underlying t = some (.slice e)) (hi : P.info? e = some i) (hsize : i.size = size)
    (g n cap : Nat) (xs : List Value) (hs : a.eval s = .slice (some ⟨g, 0, none⟩) n cap) (hown : w.ownsRow base e size (.slice (some ⟨g, 0, none⟩) n cap) n xs)
    (ad : Addr) (m c : Nat) (news : List Value) (hx : a.eval x = .slice (some ad) m c) (hl : news.length = m * size) (hnews : ∀ j u, news[j]? = some u → w.cell? (ad.add j) = some u) (h1 : ∀ u ∈ news, u.oneCell' = true)
    (hroom : n + m ≤ cap)
    (h : ∀ w', w'.ownsRow base e size (.slice (some ⟨g, 0, none⟩) (n + m) cap) (n + m) (xs ++ news) → w.grownBy w' (some g) → K (a.put o.dst (.slice (some ⟨g, 0, none⟩) (n + m) cap)) w') :
    if Region.wanted o (yielded ops a.tmps) = true then Oper.wp P o a w K Q else E := by
  have hw : Region.wanted o (yielded ops a.tmps) = true := by simp [Region.wanted, hg]
  rw [if_pos hw]
  exact wp_append_own_spare w s x t ho base e i size ht hi hsize g n cap xs hs hown ad m c news hx hl hnews h1 hroom fun w' h2 h3 => h w' h2 h3
/-- the append that grows: a new block -/
theorem step_append_grows {P : Program} {ops : Array Oper} {o : Oper} {a : Act} {w : World} {K : Act → World → Prop} {Q : Exit → Act → World → Prop} {E : Prop}
    (hg : o.guard = none) (s x : Operand) (t : TypeId) (ho : o.op = .call { callee := .builtin .append, args := #[s, x], argTypes := #[t, t] })
    (e : TypeId) (i : TypeInfo) (z : Value) (size bytes : Nat) (ht : P.underlying t = some (.slice e)) (hi : P.info? e = some i) (hz : i.zero = some z)
    (hsize : i.size = size) (hby : i.bytes = bytes) (hzs : z.cells.size = size) (hsz : 0 < size)
    (ao : Option Addr) (n cap : Nat) (olds : List Value) (hs : a.eval s = .slice ao n cap) (hnone : ao = none → n = 0 ∧ cap = 0) (hlo : olds.length = n * size) (holds : ∀ b, ao = some b → ∀ j u, olds[j]? = some u → w.cell? (b.add j) = some u)
    (ad : Addr) (m c : Nat) (news : List Value) (hx : a.eval x = .slice (some ad) m c) (hn : news.length = m * size) (hc : ∀ j u, news[j]? = some u → w.cell? (ad.add j) = some u) (h1c : ∀ u ∈ news, u.oneCell' = true)
    (hfull : cap < n + m) (b1 : n + m ≤ maxLen) (b2 : (n + m) * bytes ≤ 140737488355328)
    (hK : ∀ v' w', w'.ownsRow w.heap.size e size v' (n + m) (olds ++ news) → w.grownBy w' none → K (a.put o.dst v') w') :
    if Region.wanted o (yielded ops a.tmps) = true then Oper.wp P o a w K Q else E := by
  have hw : Region.wanted o (yielded ops a.tmps) = true := by simp [Region.wanted, hg]
  rw [if_pos hw]
  cases ao with
  | some b =>
    obtain ⟨v', w', hrun, r1, r2⟩ := run_append_arg_grows (P := P) w t o.type e i z size bytes ht hi hz hsize hby hzs hsz b n cap olds hlo (holds b rfl) ad m c news hn hc hfull b1 b2
    unfold Oper.wp
    simp [execOp, ho, resolve, invoke, builtin, hs, hx, hrun, Result.andThen]
    exact hK v' w' r1 r2
  | none =>
    obtain ⟨rfl, rfl⟩ := hnone rfl
    obtain rfl : olds = [] := List.eq_nil_of_length_eq_zero (by simpa using hlo)
    obtain ⟨v', w', hrun, r1, r2, _⟩ := run_append_own (P := P) w w.heap.size t o.type e i z size bytes ht hi hz hsize hby hzs hsz (.slice none 0 0) 0 [] (World.ownsRow_nil w _ e size) ad m c news hn hc h1c b1 b2 (Nat.le_refl _)
    unfold Oper.wp
    simp [execOp, ho, resolve, invoke, builtin, hs, hx, hrun, Result.andThen]
    exact hK v' w' r1 r2
end Go.Proofs.Ytenmbkngkabonaa

namespace Go.Proofs.Ytenmbkngkabonaa
set_option linter.unusedVariables false
open Go.RowKit

/-- outside P nothing has turned -/
def Fr (P : Nat → Prop) (W w' : World) : Prop := w'.os = W.os ∧ w'.output = W.output ∧ W.heap.size ≤ w'.heap.size ∧ ∀ c, c < W.heap.size → ¬ P c → w'.heap[c]? = W.heap[c]?
theorem Fr.refl (P : Nat → Prop) (W : World) : Fr P W W := ⟨rfl, rfl, Nat.le_refl _, fun _ _ _ => rfl⟩
theorem Fr.trans {P : Nat → Prop} {a b c : World} (h : Fr P a b) (k : Fr P b c) : Fr P a c :=
  ⟨k.1.trans h.1, k.2.1.trans h.2.1, Nat.le_trans h.2.2.1 k.2.2.1, fun i hi hp => (k.2.2.2 i (Nat.lt_of_lt_of_le hi h.2.2.1) hp).trans (h.2.2.2 i hi hp)⟩
/-- what is written may lie in new memory, too -/
theorem Fr.trans' {P Q : Nat → Prop} {a b c : World} (h : Fr P a b) (k : Fr Q b c) (hQ : ∀ i, Q i → P i ∨ a.heap.size ≤ i) : Fr P a c :=
  ⟨k.1.trans h.1, k.2.1.trans h.2.1, Nat.le_trans h.2.2.1 k.2.2.1, fun i hi hp => (k.2.2.2 i (Nat.lt_of_lt_of_le hi h.2.2.1) (fun q => (hQ i q).elim hp (fun h' => by omega))).trans (h.2.2.2 i hi hp)⟩
theorem Fr.alloc (P : Nat → Prop) (W : World) (o : Obj) : Fr P W (W.alloc o) := ⟨rfl, rfl, by simp, fun i hi _ => Below.heap_alloc _ _ _ hi⟩
theorem Fr.setCell (P : Nat → Prop) (W : World) (a : Addr) (u : Value) (h : P a.block) : Fr P W (W.setCell a u) :=
  ⟨rfl, rfl, by simp, fun i hi hp => Below.heap_setCell _ _ _ _ (fun e => hp (e ▸ h))⟩
theorem Fr.grown (P : Nat → Prop) {W w' : World} {row : Option Nat} (hg : W.grownBy w' row) (h : ∀ k, row = some k → P k) : Fr P W w' :=
  ⟨hg.os, hg.output, hg.size, fun i hi hp => hg.block i hi (fun e => hp (h i e.symm))⟩
theorem grown_heap {W w' : World} (h : Grown W w') (c : Nat) (hc : c < W.heap.size) : w'.heap[c]? = W.heap[c]? := by
  have := h.1.2.2 c hc
  have hs : W.heap[c]? = some W.heap[c] := Array.getElem?_eq_getElem hc
  rw [hs] at this ⊢
  split at this
  · rename_i h1 h2
    obtain ⟨rfl, rfl, hz, hj⟩ := this
    injection h1 with h1
    rw [h2, h1]
    congr 2
    exact Array.ext_getElem? (fun j => hj j (fun f => f))
  · rename_i h1 h2
    injection h1 with h1
    rw [h2, h1]
    rcases this with f | ⟨rfl, rfl⟩
    · exact f.elim
    · rfl
  · exact this
theorem Fr.of_grown (P : Nat → Prop) {W w' : World} (h : Grown W w') : Fr P W w' := ⟨h.1.1, h.1.2.1, h.2.2, fun i hi _ => grown_heap h i hi⟩
theorem Kept.fr {P : Nat → Prop} {w W W' : World} (h : Kept w W) (k : Fr P W W') (hp : ∀ c, P c → w.heap.size ≤ c) : Kept w W' := by
  obtain ⟨⟨h1, h2, h3⟩, hf, hs⟩ := h
  have hb : ∀ i, i < w.heap.size → W'.heap[i]? = W.heap[i]? := fun i hi => k.2.2.2 i (by omega) (fun q => by have := hp i q; omega)
  refine ⟨⟨by rw [k.1]; exact h1, by rw [k.2.1]; exact h2, fun i hi => ?_⟩, fun a ha => ?_, Nat.le_trans hs k.2.2.1⟩
  · rw [hb i hi]; exact h3 i hi
  · rw [← hf a ha]; exact World.frozen?_of_block (hb a.block ha)
theorem Fr.cell {P : Nat → Prop} {W W' : World} (k : Fr P W W') {a : Addr} (ha : a.block < W.heap.size) (hp : ¬ P a.block) : W'.cell? a = W.cell? a := World.cell?_of_block (k.2.2.2 _ ha hp)
theorem Fr.frozen {P : Nat → Prop} {W W' : World} (k : Fr P W W') {a : Addr} (ha : a.block < W.heap.size) (hp : ¬ P a.block) : W'.frozen? a = W.frozen? a := World.frozen?_of_block (k.2.2.2 _ ha hp)
theorem own_lt {w : World} {base : Nat} {e : TypeId} {size : Nat} {v : Value} {n : Nat} {xs : List Value} (h : w.ownsRow base e size v n xs) : ∀ k, v.ownBlock = some k → k < w.heap.size := by
  intro k hk
  rcases h.2 with ⟨rfl, _⟩ | ⟨g, cap, cur, rfl, hb, hg, _⟩
  · cases hk
  · simp [Value.ownBlock] at hk
    subst hk
    exact (Array.getElem?_eq_some_iff.1 hg).1
theorem Fr.drew {P : Nat → Prop} {W w' : World} (h : Fr P W w') : Fr P W w'.drew := h
theorem own_some {w : World} {base : Nat} {e : TypeId} {size : Nat} {v : Value} {n : Nat} {xs : List Value} (h : w.ownsRow base e size v (n + 1) xs) : ∃ g cap, v = .slice (some ⟨g, 0, none⟩) (n + 1) cap ∧ base ≤ g := by
  rcases h.2 with ⟨_, h0⟩ | ⟨g, cap, cur, rfl, hb, _⟩
  · omega
  · exact ⟨g, cap, rfl, hb⟩
theorem own_fr {P : Nat → Prop} {w W' : World} {base : Nat} {e : TypeId} {size : Nat} {v : Value} {n : Nat} {xs : List Value} (h : w.ownsRow base e size v n xs) (k : Fr P w W') (hp : ∀ g, v.ownBlock = some g → ¬ P g) : W'.ownsRow base e size v n xs := by
  have hl := own_lt h
  refine ⟨h.1, ?_⟩
  rcases h.2 with h2 | ⟨g, cap, cur, rfl, hb, hg, r⟩
  · exact .inl h2
  · exact .inr ⟨g, cap, cur, rfl, hb, (k.2.2.2 g (hl g rfl) (hp g rfl)).trans hg, r⟩

/-- a stack: its block p holds the slice v, of the objects L -/
def StkV (base p : Nat) (v : Value) (L : List Pl.Ob) (W : World) : Prop :=
  W.cell? ⟨p, 0, none⟩ = some v ∧ W.frozen? ⟨p, 0, none⟩ = false ∧ W.ownsRow base 38 6 v L.length (Pl.flat L) ∧ v.ownBlock ≠ some p ∧ p < W.heap.size
theorem StkV.fr {P : Nat → Prop} {base p : Nat} {v : Value} {L : List Pl.Ob} {W W' : World} (h : StkV base p v L W) (k : Fr P W W') (hp : ¬ P p) (hg : ∀ g, v.ownBlock = some g → ¬ P g) : StkV base p v L W' :=
  ⟨(k.cell (a := ⟨p, 0, none⟩) h.2.2.2.2 hp).trans h.1, (k.frozen (a := ⟨p, 0, none⟩) h.2.2.2.2 hp).trans h.2.1, own_fr h.2.2.1 k hg, h.2.2.2.1, Nat.lt_of_lt_of_le h.2.2.2.2 k.2.2.1⟩
theorem StkV.slice {base p : Nat} {v : Value} {L : List Pl.Ob} {W : World} (h : StkV base p v L W) : ∃ ao cap, v = .slice ao L.length cap := by
  rcases h.2.2.1.2 with ⟨rfl, h0⟩ | ⟨g, cap, cur, rfl, _⟩
  · exact ⟨none, 0, by rw [h0]⟩
  · exact ⟨_, _, rfl⟩

theorem new_any (w : World) : Calls Try.prog 37 #[] w fun e w' => e = .returned (.pointer (some ⟨w.heap.size, 0, none⟩)) ∧ w' = w.alloc (.cells #[.slice none 0 0] 81) := by
  go_enter Try.func37, Try.ntmps37
  go_wp2
  go_ret
  exact ⟨rfl, rfl⟩
theorem new_stk (w : World) : StkV w.heap.size w.heap.size (.slice none 0 0) [] (w.alloc (.cells #[.slice none 0 0] 81)) :=
  ⟨by simp [go_sem], by rw [frozen?_alloc_cells]; simp [World.frozen?], World.ownsRow_nil _ _ _ _, by simp [Value.ownBlock], by simp⟩

theorem len_any (base p : Nat) (v : Value) (L : List Pl.Ob) (W : World) (h : StkV base p v L W) :
    Calls Try.prog 28 #[.pointer (some ⟨p, 0, none⟩)] W fun e w' => e = .returned (.int .i64 (L.length : Int)) ∧ w' = W := by
  obtain ⟨ao, cap, rfl⟩ := h.slice
  have h0 := h.1
  clear h
  go_enter Try.func28, Try.ntmps28
  go_wp2
  go_ret
  exact ⟨rfl, rfl⟩
end Go.Proofs.Ytenmbkngkabonaa

namespace Go.Proofs.Ytenmbkngkabonaa
set_option linter.unusedVariables false
open Go.RowKit

set_option maxHeartbeats 2000000 in
set_option maxRecDepth 100000 in
theorem push_ok (base p : Nat) (v : Value) (L : List Pl.Ob) (k : Int) (x : Bool) (n a l : Int) (s : ByteArray) (hm : Pl.may k n a l s) (hn : L.length < 200) (W : World) (hS : StkV base p v L W) (hb : base ≤ W.heap.size) :
    Calls Try.prog 38 #[.pointer (some ⟨p, 0, none⟩), obv k x n a l s] W fun e w' => e = .returned (.int .i64 0) ∧
      (∃ v', StkV base p v' (L ++ [(k, x, n, a, l, s)]) w' ∧ ∀ g, v'.ownBlock = some g → v.ownBlock = some g ∨ W.heap.size ≤ g) ∧ Fr (fun c => c = p ∨ v.ownBlock = some c) W w' := by
  obtain ⟨i0, hi, hz0, hz1, hz2⟩ := info_parts Try.objInfo
  have CM := Lib.hid (fun W => may_yes k x n a l s hm W)
  obtain ⟨ao, cap, rfl⟩ := hS.slice
  obtain ⟨h0, h1, hown, hne, hp⟩ := id hS
  have hlen : (L.length : Int) < 200 := by omega
  have hp0 : ∀ o t, (W.alloc (.cells o t)).cell? ⟨p, 0, none⟩ = some (.slice ao L.length cap) := fun o t => by rw [World.cell?_alloc_past _ _ _ hp]; exact h0
  clear hm hS
  go_enter Try.func38, Try.ntmps38
  go_wp2_with fail
  refine (CM.out _).mono ?_
  rintro e w1 ⟨rfl, g1⟩
  have hO : ObS W W.heap.size k x n a l s w1 := ObS.grow (by exact ⟨by simp [go_sem], by simp [go_sem], by simp [go_sem], by simp [go_sem], by simp [go_sem], by simp [go_sem], by (repeat (first | exact Grown.refl _ | assumption | apply Grown.drew | apply Grown.alloc))⟩) g1
  have F1 : Fr (fun c => c = p ∨ (Value.slice ao L.length cap).ownBlock = some c) W w1 := Fr.of_grown _ hO.2.2.2.2.2.2
  have hp1 : w1.cell? ⟨p, 0, none⟩ = some (.slice ao L.length cap) := grown_cell hO.2.2.2.2.2.2 h0
  have hf1 : w1.frozen? ⟨p, 0, none⟩ = false := by rw [hO.2.2.2.2.2.2.2.1]; exact h1
  have hown1 := own_fr (P := fun _ => False) hown (Fr.of_grown _ hO.2.2.2.2.2.2) (fun _ _ f => f)
  have hsz := hO.2.2.2.2.2.2.2.2
  obtain ⟨o0, o1, o2, o3, o4, o5, og⟩ := id hO
  go_wp2_with fail
  have hp2 := Lib.hid (fun (A : Array Value) (t : TypeId) => (show (w1.alloc (.cells A t)).cell? ⟨p, 0, none⟩ = some (.slice ao L.length cap) from by rw [World.cell?_alloc_past _ _ _ (by omega)]; exact hp1))
  have hf2 := Lib.hid (fun (A : Array Value) (t : TypeId) => (frozen?_alloc_cells w1 A t ⟨p, 0, none⟩).trans hf1)
  have HO2 := Lib.hid (fun (A : Array Value) (t : TypeId) => own_fr (P := fun _ => False) hown1 (Fr.alloc _ w1 (.cells A t)) (fun _ _ f => f))
  have HN := Lib.hid (fun (A : Array Value) (t : TypeId) (hA : A.toList = Pl.oc (k, x, n, a, l, s)) (j : Nat) (u : Value) (hu : (Pl.oc (k, x, n, a, l, s))[j]? = some u) => alloc_cell w1 A t j u (by rw [hA]; exact hu))
  have H1 : Hid (∀ u ∈ Pl.oc (k, x, n, a, l, s), u.oneCell' = true) := Lib.hid (by intro u hu; simp [Pl.oc] at hu; rcases hu with rfl | rfl | rfl | rfl | rfl | rfl <;> rfl)
  have q0 := fun (A : Array Value) (t : TypeId) => (hO.grow ((Grown.refl w1).alloc A t)).1
  have q1 := fun (A : Array Value) (t : TypeId) => (hO.grow ((Grown.refl w1).alloc A t)).2.1
  have q2 := fun (A : Array Value) (t : TypeId) => (hO.grow ((Grown.refl w1).alloc A t)).2.2.1
  have p2 := fun (A : Array Value) (t : TypeId) => hp2.out A t
  have hszL := Lib.hid hsz
  have hpp : p < w1.heap.size := by omega
  have hbb : base ≤ w1.heap.size := by omega
  by_cases hroom : L.length + 1 ≤ cap
  · obtain ⟨g, rfl⟩ : ∃ g, ao = some ⟨g, 0, none⟩ := by
      rcases hown.2 with ⟨h, _⟩ | ⟨g, cap', cur, h, _⟩
      · injection h with h1 h2 h3; omega
      · injection h with h1 h2 h3; exact ⟨g, h1⟩
    have hgp : g ≠ p := fun e => hne (by rw [e]; rfl)
    go_region_law (refine step_append_spare rfl (.tmp 24) (.tmp 26) 32 rfl base 38 i0 6 Try.underlying32 hi hz1 g L.length cap (Pl.flat L) (by simp [Act.eval]) (HO2.out _ _) ⟨w1.heap.size, 0, none⟩ 1 1 (Pl.oc (k, x, n, a, l, s)) (by simp [Act.eval]) rfl (HN.out _ _ rfl) H1.out hroom ?_; intro w' hown' hgr; have hcp := hgr.cell (hp2.out _ _) (fun e => hgp (Option.some.inj e).symm); have hfp := (World.frozen?_of_block (a := ⟨p, 0, none⟩) (hgr.block p (by simp; omega) (fun e => hgp (Option.some.inj e).symm))).trans (hf2.out _ _))
    all_goals
      go_wp2_with fail
      go_ret
      refine ⟨rfl, ⟨.slice (some ⟨g, 0, none⟩) (L.length + 1) cap, ⟨World.cell?_setCell_same' _ _ _ (by rw [hcp]; rfl), by simpa using hfp, ?_, fun e => hgp (Option.some.inj e), ?_⟩, fun g2 e => .inl e⟩, ?_⟩
      · rw [List.length_append, Pl.flat_append]
        have := own_fr (P := fun c => c = p) hown' (Fr.setCell (fun c => c = p) w' ⟨p, 0, none⟩ (.slice (some ⟨g, 0, none⟩) (L.length + 1) cap) rfl) (fun g2 e h => hgp ((Option.some.inj e).trans h))
        simpa [Pl.flat] using this
      · have := hgr.size
        simp at this ⊢
        omega
      · exact ((F1.trans (Fr.alloc _ w1 (.cells _ 38))).drew.trans (Fr.grown _ hgr (by intro k2 e; exact .inr e))).trans (Fr.setCell _ _ _ _ (.inl rfl))
  · have hfull : cap < L.length + 1 := by omega
    have hnone : Hid (ao = none → L.length = 0 ∧ cap = 0) := Lib.hid (by
      rintro rfl
      rcases hown.2 with ⟨h, h0⟩ | ⟨g, cap', cur, h, _⟩
      · injection h with h1 h2 h3; exact ⟨h0, h3⟩
      · injection h with h1 h2 h3; cases h1)
    have HOLD := Lib.hid (fun (A : Array Value) (t : TypeId) (b : Addr) (hb : ao = some b) => (show ∀ j u, (Pl.flat L)[j]? = some u → (w1.alloc (.cells A t)).cell? (b.add j) = some u from by
      subst hb
      have h2 := HO2.out A t
      rcases h2.2 with ⟨h, _⟩ | ⟨g, cap', cur, h, _⟩
      · injection h with h1 h2 h3; cases h1
      · injection h with h1 h2 h3
        cases h1
        exact h2.cells rfl))
    have hne2 := Lib.hid hne
    go_region_law (refine step_append_grows rfl (.tmp 24) (.tmp 26) 32 rfl 38 i0 _ 6 56 Try.underlying32 hi hz0 hz1 hz2 rfl (by decide) ao L.length cap (Pl.flat L) (by simp [Act.eval]) hnone.out hown.1 (HOLD.out _ _) ⟨w1.heap.size, 0, none⟩ 1 1 (Pl.oc (k, x, n, a, l, s)) (by simp [Act.eval]) rfl (HN.out _ _ rfl) H1.out hfull (by unfold maxLen; omega) (by omega) ?_; intro v' w' hown' hgr; obtain ⟨g', cap', rfl, hg'⟩ := own_some hown'; have hcp := hgr.cell (hp2.out _ _) (by simp); have hfp := (World.frozen?_of_block (a := ⟨p, 0, none⟩) (hgr.block p (by simp; omega) (by simp))).trans (hf2.out _ _))
    all_goals
      have hg2 : w1.heap.size + 1 ≤ g' := by simpa using hg'
      have hgp : g' ≠ p := by omega
      go_wp2_with fail
      go_ret
      refine ⟨rfl, ⟨.slice (some ⟨g', 0, none⟩) (L.length + 1) cap', ⟨World.cell?_setCell_same' _ _ _ (by rw [hcp]; rfl), by simpa using hfp, ?_, fun e => hgp (Option.some.inj e), ?_⟩, ?_⟩, ?_⟩
      · rw [List.length_append, Pl.flat_append]
        have h3 : w'.ownsRow base 38 6 (.slice (some ⟨g', 0, none⟩) (L.length + 1) cap') (L.length + 1) (Pl.flat L ++ Pl.oc (k, x, n, a, l, s)) := by
          refine ⟨hown'.1, ?_⟩
          rcases hown'.2 with h | ⟨g2, c2, cur, e, hb2, r⟩
          · exact .inl h
          · exact .inr ⟨g2, c2, cur, e, by have : w1.heap.size + 1 ≤ g2 := by simpa using hb2
                                           omega, r⟩
        have := own_fr (P := fun c => c = p) h3 (Fr.setCell (fun c => c = p) w' ⟨p, 0, none⟩ (.slice (some ⟨g', 0, none⟩) (L.length + 1) cap') rfl) (fun g2 e h => hgp ((Option.some.inj e).trans h))
        simpa [Pl.flat] using this
      · have := hgr.size
        simp at this ⊢
        omega
      · intro g2 e
        have := Option.some.inj e
        exact .inr (by simp at this; omega)
      · exact ((F1.trans (Fr.alloc _ w1 (.cells _ 38))).drew.trans (Fr.grown _ hgr (by intro k2 e; cases e))).trans (Fr.setCell _ _ _ _ (.inl rfl))
end Go.Proofs.Ytenmbkngkabonaa

namespace Go.Proofs.Ytenmbkngkabonaa
set_option linter.unusedVariables false
open Go.RowKit

theorem push_bad (base p : Nat) (v : Value) (L : List Pl.Ob) (k : Int) (x : Bool) (n a l : Int) (s : ByteArray) (hm : ¬ Pl.may k n a l s) (W : World) (hS : StkV base p v L W) :
    Calls Try.prog 38 #[.pointer (some ⟨p, 0, none⟩), obv k x n a l s] W fun e w' => e = .returned (.int .i64 1) ∧ Grown W w' := by
  have CM := Lib.hid (fun W => may_no k x n a l s hm W)
  clear hm hS
  go_enter Try.func38, Try.ntmps38
  go_wp2_with fail
  refine (CM.out _).mono ?_
  rintro e w1 ⟨rfl, g1⟩
  go_wp2_with fail
  go_ret
  exact ⟨rfl, grown_trans (by (repeat (first | exact Grown.refl _ | apply Grown.drew | apply Grown.alloc))) g1⟩
theorem push_full (base p : Nat) (v : Value) (L : List Pl.Ob) (k : Int) (x : Bool) (n a l : Int) (s : ByteArray) (hm : Pl.may k n a l s) (hn : 200 ≤ L.length) (W : World) (hS : StkV base p v L W) :
    Calls Try.prog 38 #[.pointer (some ⟨p, 0, none⟩), obv k x n a l s] W fun e w' => e = .returned (.int .i64 8) ∧ Grown W w' := by
  have CM := Lib.hid (fun W => may_yes k x n a l s hm W)
  obtain ⟨ao, cap, rfl⟩ := hS.slice
  obtain ⟨h0, h1, hown, hne, hp⟩ := id hS
  have hlen : 200 ≤ (L.length : Int) := by omega
  clear hm hS
  go_enter Try.func38, Try.ntmps38
  go_wp2_with fail
  refine (CM.out _).mono ?_
  rintro e w1 ⟨rfl, g1⟩
  have g2 : Grown W w1 := grown_trans (by (repeat (first | exact Grown.refl _ | apply Grown.drew | apply Grown.alloc))) g1
  have hp1 : w1.cell? ⟨p, 0, none⟩ = some (.slice ao L.length cap) := grown_cell g2 h0
  go_wp2_with fail
  go_ret
  exact ⟨rfl, g2⟩

/-- the cells of one of a list's objects -/
theorem Pl.flat_get : ∀ (L : List Pl.Ob) (j : Nat) (o : Pl.Ob), L[j]? = some o → ∀ r, r < 6 → (Pl.flat L)[j * 6 + r]? = (Pl.oc o)[r]?
  | [], j, o, h, _, _ => by simp at h
  | q :: L, 0, o, h, r, hr => by
    simp at h
    subst h
    simp only [Pl.flat, Nat.zero_mul, Nat.zero_add]
    rw [List.getElem?_append_left (by simp [Pl.oc]; exact hr)]
  | q :: L, j + 1, o, h, r, hr => by
    have := Pl.flat_get L j o (by simpa using h) r hr
    simp only [Pl.flat]
    rw [List.getElem?_append_right (by simp [Pl.oc]; omega), ← this]
    congr 1
    simp [Pl.oc]; omega
theorem StkV.at {base p : Nat} {v : Value} {L : List Pl.Ob} {W : World} (h : StkV base p v L W) (j : Nat) (o : Pl.Ob) (hj : L[j]? = some o) : ∃ g cap, v = .slice (some ⟨g, 0, none⟩) L.length cap ∧ L.length ≤ cap ∧
    W.cell? ⟨g, j * 6, none⟩ = some (.int .i64 o.1) ∧ W.cell? ⟨g, j * 6 + 1, none⟩ = some (.bool o.2.1) ∧ W.cell? ⟨g, j * 6 + 2, none⟩ = some (.int .i64 o.2.2.1) ∧ W.cell? ⟨g, j * 6 + 3, none⟩ = some (.int .i64 o.2.2.2.1) ∧
    W.cell? ⟨g, j * 6 + 4, none⟩ = some (.int .i64 o.2.2.2.2.1) ∧ W.cell? ⟨g, j * 6 + 5, none⟩ = some (.string o.2.2.2.2.2) := by
  have hl : j < L.length := (List.getElem?_eq_some_iff.1 hj).1
  rcases h.2.2.1.2 with ⟨rfl, h0⟩ | ⟨g, cap, cur, rfl, hb, hg, hc, r⟩
  · omega
  · have c := h.2.2.1
    refine ⟨g, cap, rfl, hc, ?_, ?_, ?_, ?_, ?_, ?_⟩ <;> rw [c.cellAt _ (by omega)]
    · exact (Pl.flat_get L j o hj 0 (by omega)).trans rfl
    · exact (Pl.flat_get L j o hj 1 (by omega)).trans rfl
    · exact (Pl.flat_get L j o hj 2 (by omega)).trans rfl
    · exact (Pl.flat_get L j o hj 3 (by omega)).trans rfl
    · exact (Pl.flat_get L j o hj 4 (by omega)).trans rfl
    · exact (Pl.flat_get L j o hj 5 (by omega)).trans rfl

theorem peek_low (base p : Nat) (v : Value) (L : List Pl.Ob) (i : Int) (hi : i < 0) (W : World) (hS : StkV base p v L W) :
    Calls Try.prog 40 #[.pointer (some ⟨p, 0, none⟩), .int .i64 i] W fun e w' => e = .returned (.tuple #[obv 0 false 0 0 0 ⟨#[]⟩, .int .i64 2]) ∧ Grown W w' := by
  clear hS
  go_enter Try.func40, Try.ntmps40
  go_wp2_with fail
  refine bodyPost_ret (v := .tuple #[obv 0 false 0 0 0 ⟨#[]⟩, .int .i64 2]) (by simp [results, Try.results40, go_sem]) rfl ⟨rfl, by (repeat (first | exact Grown.refl _ | assumption | apply Grown.drew | apply Grown.alloc | (refine Grown.setCell ?_ (by simp) _)))⟩
theorem peek_under (base p : Nat) (v : Value) (L : List Pl.Ob) (i : Int) (hi0 : 0 ≤ i) (hi : (L.length : Int) ≤ i) (W : World) (hS : StkV base p v L W) :
    Calls Try.prog 40 #[.pointer (some ⟨p, 0, none⟩), .int .i64 i] W fun e w' => e = .returned (.tuple #[obv 0 false 0 0 0 ⟨#[]⟩, .int .i64 7]) ∧ Grown W w' := by
  obtain ⟨ao, cap, rfl⟩ := hS.slice
  obtain ⟨h0, h1, hown, hne, hp⟩ := id hS
  clear hS
  have hp0 : ∀ o t, (W.alloc (.cells o t)).cell? ⟨p, 0, none⟩ = some (.slice ao L.length cap) := fun o t => by rw [World.cell?_alloc_past _ _ _ hp]; exact h0
  go_enter Try.func40, Try.ntmps40
  go_wp2_with fail
  refine bodyPost_ret (v := .tuple #[obv 0 false 0 0 0 ⟨#[]⟩, .int .i64 7]) (by simp [results, Try.results40, go_sem]) rfl ⟨rfl, by (repeat (first | exact Grown.refl _ | assumption | apply Grown.drew | apply Grown.alloc | (refine Grown.setCell ?_ (by simp) _)))⟩

set_option maxHeartbeats 1000000 in
theorem peek_ok (base p : Nat) (v : Value) (L : List Pl.Ob) (i j : Nat) (k : Int) (x : Bool) (n a l : Int) (s : ByteArray) (hij : i + j + 1 = L.length) (hj : L[j]? = some (k, x, n, a, l, s)) (hlen : L.length ≤ 300) (W : World) (hS : StkV base p v L W) :
    Calls Try.prog 40 #[.pointer (some ⟨p, 0, none⟩), .int .i64 (i : Int)] W fun e w' => e = .returned (.tuple #[obv k x n a l s, .int .i64 0]) ∧ Grown W w' := by
  obtain ⟨g, cap, rfl, hcap, c0, c1, c2, c3, c4, c5⟩ := hS.at j _ hj
  obtain ⟨h0, h1, hown, hne, hp⟩ := id hS
  have hg := own_lt hown g rfl
  clear hS
  have hO : ObS W W.heap.size 0 false 0 0 0 ⟨#[]⟩ (W.alloc (.cells #[.int .i64 0, .bool false, .int .i64 0, .int .i64 0, .int .i64 0, .string ⟨#[]⟩] 38)) := ⟨by simp [go_sem], by simp [go_sem], by simp [go_sem], by simp [go_sem], by simp [go_sem], by simp [go_sem], (Grown.refl W).alloc _ _⟩
  have hp0 : ∀ o t, (W.alloc (.cells o t)).cell? ⟨p, 0, none⟩ = some (.slice (some ⟨g, 0, none⟩) L.length cap) := fun o t => by rw [World.cell?_alloc_past _ _ _ hp]; exact h0
  have d0 : ∀ o t, (W.alloc (.cells o t)).cell? ⟨g, j * 6, none⟩ = _ := fun o t => (World.cell?_alloc_past _ _ _ hg).trans c0
  have d1 : ∀ o t, (W.alloc (.cells o t)).cell? ⟨g, j * 6 + 1, none⟩ = _ := fun o t => (World.cell?_alloc_past _ _ _ hg).trans c1
  have d2 : ∀ o t, (W.alloc (.cells o t)).cell? ⟨g, j * 6 + 2, none⟩ = _ := fun o t => (World.cell?_alloc_past _ _ _ hg).trans c2
  have d3 : ∀ o t, (W.alloc (.cells o t)).cell? ⟨g, j * 6 + 3, none⟩ = _ := fun o t => (World.cell?_alloc_past _ _ _ hg).trans c3
  have d4 : ∀ o t, (W.alloc (.cells o t)).cell? ⟨g, j * 6 + 4, none⟩ = _ := fun o t => (World.cell?_alloc_past _ _ _ hg).trans c4
  have d5 : ∀ o t, (W.alloc (.cells o t)).cell? ⟨g, j * 6 + 5, none⟩ = _ := fun o t => (World.cell?_alloc_past _ _ _ hg).trans c5
  have e1 : (L.length : Int) - 1 - i = j := by omega
  have e2 : (j : Int) < L.length := by omega
  have e3 : (i : Int) < L.length := by omega
  have e4 : (L.length : Int) ≤ 300 := by omega
  have e5 : 1 ≤ (L.length : Int) := by omega
  go_enter Try.func40, Try.ntmps40
  go_wp2_with fail
  go_region
  all_goals
    go_wp2_with fail
    refine bodyPost_ret (v := .tuple #[obv k x n a l s, .int .i64 0]) (by simp [results, Try.results40, go_sem]) rfl ⟨rfl, by (repeat (first | exact Grown.refl _ | assumption | apply Grown.drew | apply Grown.alloc | (refine Grown.setCell ?_ (by simp) _)))⟩
end Go.Proofs.Ytenmbkngkabonaa
