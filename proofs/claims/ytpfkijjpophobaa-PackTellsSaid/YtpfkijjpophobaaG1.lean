/- Rows of bytes that grow (their block marked or not), and appends of any row. -/
import Derived.Test.YtpfkijjpophobaaL6b
import Derived.Lib.FrozenHead
import Derived.Deep.DeepAppendRoom
import Derived.Deep.RegionLaw
namespace Go.Proofs.Ytpfkijjpophobaa
set_option linter.unusedVariables false
open Go.RowKit

theorem run_append_owned_zero {P : Program} (w : World) (base : Nat) (t ty e : TypeId) (i : TypeInfo) (size : Nat) (ht : P.underlying t = some (.slice e)) (hi : P.info? e = some i)
    (v : Value) (n : Nat) (xs : List Value) (hown : w.ownsRow base e size v n xs) (ao : Option Addr) (c : Nat) :
    (Builtin.append_ #[t, t] ty #[v, .slice ao 0 c]).run P w = .ok v w := by
  have hl : ∀ b : Addr, (Sem.run P (loadCells b 0) w) = .ok #[] w := fun b => run_loadCells_list (P := P) w b [] (by simp)
  rcases hown.2 with ⟨rfl, rfl⟩ | ⟨g, cap, cur, rfl, _, _, hnc, _⟩
  · cases ao <;> simp [Builtin.append_, run_underlying ht, sizeOf, typeInfo, hi, Builtin.lenOf, Builtin.firstCells, hl]
  · cases ao <;> simp [Builtin.append_, run_underlying ht, sizeOf, typeInfo, hi, Builtin.lenOf, Builtin.firstCells, hnc, storeCells, hl]
theorem own_weaken {w : World} {b1 b2 : Nat} {e : TypeId} {size : Nat} {v : Value} {n : Nat} {xs : List Value} (h : w.ownsRow b1 e size v n xs) (hb : b2 ≤ b1) : w.ownsRow b2 e size v n xs := by
  refine ⟨h.1, ?_⟩
  rcases h.2 with h0 | ⟨g, cap, cur, hv, hb1, r⟩
  · exact .inl h0
  · exact .inr ⟨g, cap, cur, hv, Nat.le_trans hb hb1, r⟩
theorem own_base {w : World} {base : Nat} {e : TypeId} {size : Nat} {v : Value} {n : Nat} {xs : List Value} (h : w.ownsRow base e size v n xs) : ∀ g, v.ownBlock = some g → base ≤ g := by
  intro k hk
  rcases h.2 with ⟨rfl, _⟩ | ⟨g, cap, cur, rfl, hb, _⟩
  · cases hk
  · simp [Value.ownBlock] at hk
    subst hk
    exact hb

section
variable {P : Program} (w : World) (base : Nat) (t : TypeId) (e : TypeId) (i : TypeInfo) (z : Value) (size bytes : Nat) (ht : P.underlying t = some (.slice e)) (hi : P.info? e = some i) (hz : i.zero = some z)
    (hsize : i.size = size) (hby : i.bytes = bytes) (hzs : z.cells.size = size) (hsz : 0 < size)
    (v : Value) (n : Nat) (xs : List Value) (hown : w.ownsRow base e size v n xs)
    (ao : Option Addr) (m c : Nat) (news : List Value) (hnone : ao = none → m = 0) (hl : news.length = m * size) (hnews : ∀ ad, ao = some ad → ∀ j u, news[j]? = some u → w.cell? (ad.add j) = some u) (h1 : ∀ u ∈ news, u.oneCell' = true)
    (h63 : n + m ≤ maxLen) (hbytes : (n + m) * bytes ≤ 140737488355328) (hbase : base ≤ w.heap.size)
include ht hi hz hsize hby hzs hsz hown hnone hl hnews h1 h63 hbytes hbase
/-- append of any row, empty ones too -/
theorem run_append_all (ty : TypeId) : ∃ v' w', (Builtin.append_ #[t, t] ty #[v, .slice ao m c]).run P w = .ok v' w' ∧ w'.ownsRow base e size v' (n + m) (xs ++ news) ∧ w.grownBy w' v.ownBlock ∧ ∀ g, v'.ownBlock = some g → v.ownBlock = some g ∨ w.heap.size ≤ g := by
  cases ao with
  | none =>
    obtain rfl := hnone rfl
    obtain rfl : news = [] := List.eq_nil_of_length_eq_zero (by simpa using hl)
    exact ⟨v, w, run_append_owned_zero (P := P) w base t ty e i size ht hi v n xs hown none c, by simpa using hown, World.grownBy.refl _ _, fun g h => .inl h⟩
  | some ad =>
    rcases hown.2 with ⟨rfl, rfl⟩ | ⟨g, cap, cur, rfl, hb, hg, hnc, _⟩
    · obtain rfl : xs = [] := List.eq_nil_of_length_eq_zero (by simpa using hown.1)
      obtain ⟨v', w', r1, r2, r3, _⟩ := run_append_own (P := P) w w.heap.size t ty e i z size bytes ht hi hz hsize hby hzs hsz (.slice none 0 0) 0 [] (World.ownsRow_nil w _ e size) ad m c news hl (hnews ad rfl) h1 h63 hbytes (Nat.le_refl _)
      exact ⟨v', w', r1, own_weaken r2 hbase, r3, fun g h => .inr (own_base r2 g h)⟩
    · by_cases hroom : n + m ≤ cap
      · obtain ⟨w', r1, r2, r3⟩ := run_append_own_spare (P := P) w base t ty e i size ht hi hsize g n cap xs hown ad m c news hl (hnews ad rfl) h1 hroom
        exact ⟨_, w', r1, r2, r3, fun g2 h => .inl h⟩
      · obtain ⟨v', w', r1, r2, r3⟩ := run_append_arg_grows (P := P) w t ty e i z size bytes ht hi hz hsize hby hzs hsz ⟨g, 0, none⟩ n cap xs hown.1 (hown.cells rfl) ad m c news hl (hnews ad rfl) (by omega) h63 hbytes
        exact ⟨v', w', r1, own_weaken r2 hbase, ⟨r3.1, r3.2, r3.3, r3.4, fun k hk _ => r3.5 k hk (by simp)⟩, fun g2 h => .inr (own_base r2 g2 h)⟩
theorem wp_append_all {o : Oper} {a : Act} {K : Act → World → Prop} {Q : Exit → Act → World → Prop} (s x : Operand) (ho : o.op = .call { callee := .builtin .append, args := #[s, x], argTypes := #[t, t] })
    (hs : a.eval s = v) (hx : a.eval x = .slice ao m c)
    (h : ∀ v' w', w'.ownsRow base e size v' (n + m) (xs ++ news) → w.grownBy w' v.ownBlock → (∀ g, v'.ownBlock = some g → v.ownBlock = some g ∨ w.heap.size ≤ g) → K (a.put o.dst v') w') : o.wp P a w K Q := by
  obtain ⟨v', w', hr, h2, h3, h4⟩ := run_append_all (P := P) w base t e i z size bytes ht hi hz hsize hby hzs hsz v n xs hown ao m c news hnone hl hnews h1 h63 hbytes hbase o.type
  unfold Oper.wp execOp
  simp only [ho, resolve, invoke, builtin, Sem.run_bind, Sem.run_pure, Result.andThen_ok, List.map_toArray, List.map_cons, List.map_nil, hs, hx, hr]
  exact h v' w' h2 h3 h4
theorem wpList_append_all {ops : Array Oper} {rest : List Oper} {o : Oper} {a : Act} {Q : Exit → Act → World → Prop} (hgd : o.guard = none) (s x : Operand) (ho : o.op = .call { callee := .builtin .append, args := #[s, x], argTypes := #[t, t] })
    (hs : a.eval s = v) (hx : a.eval x = .slice ao m c)
    (h : ∀ v' w', w'.ownsRow base e size v' (n + m) (xs ++ news) → w.grownBy w' v.ownBlock → (∀ g, v'.ownBlock = some g → v.ownBlock = some g ∨ w.heap.size ≤ g) → wpList P ops Q rest (a.put o.dst v') w') : wpList P ops Q (o :: rest) a w :=
  wpList_plain hgd fun _ hK => wp_append_all w base t e i z size bytes ht hi hz hsize hby hzs hsz v n xs hown ao m c news hnone hl hnews h1 h63 hbytes hbase s x ho hs hx fun v' w' h2 h3 h4 => hK _ _ (h v' w' h2 h3 h4)
theorem step_append_all {ops : Array Oper} {o : Oper} {a : Act} {K : Act → World → Prop} {Q : Exit → Act → World → Prop} {E : Prop} (hgd : o.guard = none) (s x : Operand) (ho : o.op = .call { callee := .builtin .append, args := #[s, x], argTypes := #[t, t] })
    (hs : a.eval s = v) (hx : a.eval x = .slice ao m c)
    (h : ∀ v' w', w'.ownsRow base e size v' (n + m) (xs ++ news) → w.grownBy w' v.ownBlock → (∀ g, v'.ownBlock = some g → v.ownBlock = some g ∨ w.heap.size ≤ g) → K (a.put o.dst v') w') :
    if Region.wanted o (yielded ops a.tmps) = true then Oper.wp P o a w K Q else E := by
  have hw : Region.wanted o (yielded ops a.tmps) = true := by simp [Region.wanted, hgd]
  rw [if_pos hw]
  exact wp_append_all w base t e i z size bytes ht hi hz hsize hby hzs hsz v n xs hown ao m c news hnone hl hnews h1 h63 hbytes hbase s x ho hs hx h
end

/-- the cells of an owned row, as a source -/
theorem own_src {w : World} {base : Nat} {e : TypeId} {size : Nat} {ao : Option Addr} {n m cap : Nat} {xs : List Value} (h : w.ownsRow base e size (.slice ao m cap) n xs) : (ao = none → n = 0) ∧ ∀ ad, ao = some ad → ∀ j u, xs[j]? = some u → w.cell? (ad.add j) = some u := by
  rcases h.2 with ⟨hv, h0⟩ | ⟨g, cap, cur, hv, hb, hg, hc, r⟩
  · injection hv with hv1 _ _
    subst hv1
    exact ⟨fun _ => h0, fun ad q => by cases q⟩
  · injection hv with hv1 _ _
    subst hv1
    exact ⟨fun q => (by cases q), fun ad q => (by cases q; exact h.cells rfl)⟩


def Pl.u8 (b : UInt8) : Value := .int .u8 (b.toNat : Int)
theorem Pl.u8_one (L : List UInt8) : ∀ v ∈ L.map Pl.u8, v.oneCell' = true := fun v hv => by
  obtain ⟨b, _, rfl⟩ := List.mem_map.1 hv
  rfl
theorem storeCells_mark (P : Program) (g o : Nat) (t : TypeId) (fz : Nat × Nat) : ∀ (vs : List Value) (i : Nat) (cur : Array Value) (w : World), w.heap[g]? = some (.cells cur t fz) → (∀ j, j < cur.size → ¬ (fz.1 ≤ j ∧ j < fz.2)) → o + i + vs.length ≤ cur.size → (∀ v ∈ vs, v.oneCell' = true) →
    (storeCells ⟨g, o, none⟩ vs i).run P w = .ok () (w.setRow g (cur.toList.take (o + i) ++ vs ++ cur.toList.drop (o + i + vs.length)).toArray)
  | [], i, cur, w, hg, _, _, _ => by
    simp only [storeCells, List.append_nil, List.length_nil, Nat.add_zero, List.take_append_drop, Array.toArray_toList]
    rw [setRow_self w g cur t fz hg]
    rfl
  | v :: rest, i, cur, w, hg, hfz, hl, h1 => by
    have hi : o + i < cur.size := by simp at hl; omega
    have hadd : (⟨g, o, none⟩ : Addr).add i = ⟨g, o + i, none⟩ := by unfold Addr.add; split <;> simp_all
    have hcell : w.cell? ⟨g, o + i, none⟩ = some cur[o + i] := by simp [World.cell?, hg, hi]
    have hfro : w.frozen? ⟨g, o + i, none⟩ = false := by
      have := hfz (o + i) hi
      obtain ⟨lo, hi'⟩ := fz
      simp only [World.frozen?, hg, Bool.and_eq_false_iff, decide_eq_false_iff_not]
      simp only at this
      omega
    have hst : (store ((⟨g, o, none⟩ : Addr).add i) v).run P w = .ok () (w.setRow g (cur.setIfInBounds (o + i) v)) := by
      rw [hadd, run_store P w _ v _ (h1 v (by simp)), hcell]
      simp [hfro, setCell_eq_setRow w g (o + i) cur t fz v hg]
    have ih := storeCells_mark P g o t fz rest (i + 1) (cur.setIfInBounds (o + i) v) (w.setRow g (cur.setIfInBounds (o + i) v)) (setRow_heap w g cur _ t _ hg) (by simpa using hfz) (by simp at hl ⊢; omega) (fun x hx => h1 x (by simp [hx]))
    simp only [storeCells, Sem.run_bind, hst, Result.andThen_ok, ih, setRow_setRow]
    congr 3
    have e := list_seg_step cur.toList (o + i) v rest (by simp at hl ⊢; omega)
    simpa [Array.toList_setIfInBounds, Nat.add_assoc] using e
/-- a row of bytes that is ours -/
def OwnB (base : Nat) (v : Value) (L : List UInt8) (W : World) : Prop :=
  (v = .slice none 0 0 ∧ L = []) ∨ ∃ g cap cur fz, v = .slice (some ⟨g, 0, none⟩) L.length cap ∧ base ≤ g ∧ W.heap[g]? = some (.cells cur 5 fz) ∧ (∀ j, j < cap → ¬ (fz.1 ≤ j ∧ j < fz.2)) ∧ L.length ≤ cap ∧ cap ≤ maxLen ∧ cur.size = cap ∧ cur.toList.take L.length = L.map Pl.u8
/-- bytes that lie anywhere -/
def RdB (v : Value) (L : List UInt8) (W : World) : Prop :=
  ∃ ao cap, v = .slice ao L.length cap ∧ L.length ≤ cap ∧ (L = [] ∨ ∃ g o, ao = some ⟨g, o, none⟩ ∧ g < W.heap.size ∧ ∀ j b, L[j]? = some b → W.cell? ⟨g, o + j, none⟩ = some (Pl.u8 b))
theorem OwnB.rd {base : Nat} {v : Value} {L : List UInt8} {W : World} (h : OwnB base v L W) : RdB v L W := by
  rcases h with ⟨rfl, rfl⟩ | ⟨g, cap, cur, fz, rfl, hb, hg, hz, hc, hm, hs, ht⟩
  · exact ⟨none, 0, rfl, Nat.le_refl _, .inl rfl⟩
  · refine ⟨_, cap, rfl, hc, .inr ⟨g, 0, rfl, (Array.getElem?_eq_some_iff.1 hg).1, fun j b hj => ?_⟩⟩
    have hl := (List.getElem?_eq_some_iff.1 hj).1
    rw [Nat.zero_add, cell_of_row W g j cur 5 fz hg]
    have e : (cur.toList.take L.length)[j]? = some (Pl.u8 b) := by rw [ht, List.getElem?_map, hj]; rfl
    rw [List.getElem?_take, if_pos hl] at e
    simpa using e
theorem OwnB.weaken {b1 b2 : Nat} {v : Value} {L : List UInt8} {W : World} (h : OwnB b1 v L W) (hb : b2 ≤ b1) : OwnB b2 v L W := by
  rcases h with h | ⟨g, cap, cur, fz, hv, hb1, r⟩
  · exact .inl h
  · exact .inr ⟨g, cap, cur, fz, hv, Nat.le_trans hb hb1, r⟩
theorem OwnB.fr {P : Nat → Prop} {base : Nat} {v : Value} {L : List UInt8} {W W' : World} (h : OwnB base v L W) (k : Fr P W W') (hp : ∀ g, v.ownBlock = some g → ¬ P g) : OwnB base v L W' := by
  rcases h with h | ⟨g, cap, cur, fz, rfl, hb1, hg, r⟩
  · exact .inl h
  · exact .inr ⟨g, cap, cur, fz, rfl, hb1, (k.2.2.2 g (Array.getElem?_eq_some_iff.1 hg).1 (hp g rfl)).trans hg, r⟩
theorem OwnB.from {base : Nat} {v : Value} {L : List UInt8} {W : World} (h : OwnB base v L W) : ∀ g, v.ownBlock = some g → base ≤ g ∧ g < W.heap.size := by
  intro k hk
  rcases h with ⟨rfl, _⟩ | ⟨g, cap, cur, fz, rfl, hb1, hg, r⟩
  · cases hk
  · simp [Value.ownBlock] at hk
    subst hk
    exact ⟨hb1, (Array.getElem?_eq_some_iff.1 hg).1⟩
theorem RdB.fr {P : Nat → Prop} {W W' : World} {ao : Option Addr} {m cap : Nat} {L : List UInt8} (h : RdB (.slice ao m cap) L W) (k : Fr P W W') (hp : ∀ a, ao = some a → ¬ P a.block) : RdB (.slice ao m cap) L W' := by
  obtain ⟨ao2, cap2, hv, hc, h⟩ := h
  injection hv with q1 q2 q3
  subst q1
  refine ⟨ao, cap2, by rw [q2, q3], hc, ?_⟩
  rcases h with h | ⟨g, o, rfl, hg, h⟩
  · exact .inl h
  · exact .inr ⟨g, o, rfl, Nat.lt_of_lt_of_le hg k.2.2.1, fun j u hu => (k.cell (a := ⟨g, o + j, none⟩) hg (hp ⟨g, o, none⟩ rfl)).trans (h j u hu)⟩
theorem RdB.fr0 {W W' : World} {v : Value} {L : List UInt8} (h : RdB v L W) (k : Fr (fun _ => False) W W') : RdB v L W' := by
  obtain ⟨ao, cap, rfl, _⟩ := id h
  exact h.fr k (fun _ _ f => f)
theorem Try.byteInfo : (Try.prog.info? 5).map (fun i => (i.zero, i.size, i.bytes)) = some (some (.int .u8 0), 1, 1) := by kernel_rfl
theorem ownB_of {base : Nat} {v : Value} {n : Nat} {L : List UInt8} {W : World} (h : W.ownsRow base 5 1 v n (L.map Pl.u8)) : OwnB base v L W := by
  have hl : L.length = n := by have := h.1; simpa using this
  rcases h.2 with ⟨rfl, h0⟩ | ⟨g, cap, cur, rfl, hb, hg, hc, hm, hs, ht⟩
  · exact .inl ⟨rfl, List.eq_nil_of_length_eq_zero (by omega)⟩
  · refine .inr ⟨g, cap, cur, (0, 0), by rw [hl], hb, hg, fun j _ q => by simp at q, by omega, hm, by simpa using hs, ?_⟩
    rw [hl]
    simpa using ht
/-- append of bytes, whatever they come from -/
theorem run_appB (base : Nat) (v : Value) (L : List UInt8) (W : World) (hown : OwnB base v L W) (x : Value) (m : Nat) (N : List UInt8) (u ty : TypeId) (hu : u = 30 ∨ u = 9) (hm : N.length = m)
    (hx : ∀ w', (Builtin.lenOf x).run Try.prog w' = .ok m w') (hf : ∀ w', w' = W ∨ w' = W.drew → (Builtin.firstCells 1 m x).run Try.prog w' = .ok (N.map Pl.u8).toArray w')
    (h63 : L.length + m ≤ 140737488355328) (hbase : base ≤ W.heap.size) :
    ∃ v' w', (Builtin.append_ #[30, u] ty #[v, x]).run Try.prog W = .ok v' w' ∧ OwnB base v' (L ++ N) w' ∧ W.grownBy w' v.ownBlock ∧ ∀ g, v'.ownBlock = some g → v.ownBlock = some g ∨ W.heap.size ≤ g := by
  obtain ⟨i, hi, hz0, hz1, hz2⟩ := info_parts Try.byteInfo
  have hnm : (N.map Pl.u8).length = m := by rw [List.length_map]; exact hm
  have hlen : (L ++ N).length = L.length + m := by rw [List.length_append, hm]
  have ht : Try.prog.underlying 30 = some (.slice 5) := Try.underlying30
  have hge := grownCap_ge W (L.length + m)
  rcases hown with ⟨rfl, rfl⟩ | ⟨g, cap, cur, fz, rfl, hb, hg, hz, hc, hcm, hs, htk⟩
  · by_cases hm0 : m = 0
    · subst hm0
      obtain rfl : N = [] := List.eq_nil_of_length_eq_zero hm
      refine ⟨.slice none 0 0, W, ?_, .inl ⟨rfl, rfl⟩, World.grownBy.refl _ _, fun g h => .inl h⟩
      have hf0 := hf W (.inl rfl)
      rcases hu with rfl | rfl
      · simp [Builtin.append_, run_underlying Try.underlying30, sizeOf, typeInfo, hi, hz1, hx, hf0]
      · simp [Builtin.append_, run_underlying Try.underlying30, run_underlying Try.underlying9, sizeOf, typeInfo, hi, hz1, hx, hf0]
    · have hn0 : ¬ (m ≤ 0) := by omega
      have h63' : ¬ (9223372036854775807 < (m : Int)) := by simp at h63; omega
      have h48' : ¬ (281474976710656 < Builtin.nextslicecap m 0) := by rw [nextslicecap_zero (by omega)]; simp at h63; omega
      have hf0 := hf W.drew (.inr rfl)
      have hfo : (Builtin.firstCells 1 0 (.slice none 0 0)).run Try.prog W.drew = .ok #[] W.drew := run_firstCells_none (P := Try.prog) W.drew 1 0 0 0
      have hcm2 : grownCap W m 0 5 ≤ maxLen := grownCap_le_maxLen W m 0 5 (by simp only [maxLen]; simp at h63; omega)
      have hge2 := grownCap_ge W m 0 5
      have hrun : (Builtin.append_ #[30, u] ty #[.slice none 0 0, x]).run Try.prog W = .ok (.slice (some ⟨W.heap.size, 0, none⟩) m (grownCap W m 0 5)) (W.drew.alloc (.cells ((N.map Pl.u8).toArray ++ Builtin.zeroCells (Value.int .u8 0).cells (grownCap W m 0 5 - m)) 5)) := by
        rcases hu with rfl | rfl
        · simp [Builtin.append_, run_underlying Try.underlying30, sizeOf, typeInfo, zeroValue, hi, hz0, hz1, hz2, hx, hm0, h63', Question.forced, hf0, run_firstCells_none, newRow, grownCap, h48']
        · simp [Builtin.append_, run_underlying Try.underlying30, run_underlying Try.underlying9, sizeOf, typeInfo, zeroValue, hi, hz0, hz1, hz2, hx, hm0, h63', Question.forced, hf0, run_firstCells_none, newRow, grownCap, h48']
      refine ⟨_, _, hrun, .inr ⟨W.heap.size, _, _, (0, 0), by rw [hlen]; simp, hbase, heap_alloc_new W.drew _, fun j _ q => by simp at q, by rw [hlen]; simpa using hge2, hcm2, ?_, ?_⟩, ⟨rfl, rfl, rfl, by simp, fun k hk _ => Below.heap_alloc W.drew _ _ hk⟩, fun g h => .inr ?_⟩
      · have hzc : (Value.int IntKind.u8 0).cells.size = 1 := rfl
        simp only [Array.size_append, List.size_toArray, size_zeroCells, hzc, hnm]
        omega
      · rw [Array.toList_append, hlen]
        simp [← hm]
      · simp [Value.ownBlock] at h; omega
  · by_cases hroom : L.length + m ≤ cap
    · have hf0 := hf W (.inl rfl)
      have hst := storeCells_mark Try.prog g L.length 5 fz (N.map Pl.u8) 0 cur W hg (by rw [hs]; exact hz) (by rw [hnm]; omega) (Pl.u8_one N)
      simp only [Nat.add_zero, hnm] at hst
      have hrun : (Builtin.append_ #[30, u] ty #[.slice (some ⟨g, 0, none⟩) L.length cap, x]).run Try.prog W = .ok (.slice (some ⟨g, 0, none⟩) (L.length + m) cap) (W.setRow g (cur.toList.take L.length ++ N.map Pl.u8 ++ cur.toList.drop (L.length + m)).toArray) := by
        rcases hu with rfl | rfl
        · simp [Builtin.append_, run_underlying Try.underlying30, sizeOf, typeInfo, hi, hz1, hx, hroom, hf0, Addr.add_lit, hst]
        · simp [Builtin.append_, run_underlying Try.underlying30, run_underlying Try.underlying9, sizeOf, typeInfo, hi, hz1, hx, hroom, hf0, Addr.add_lit, hst]
      refine ⟨_, _, hrun, .inr ⟨g, cap, _, fz, by rw [hlen], hb, setRow_heap W g cur _ 5 _ hg, hz, by rw [hlen]; exact hroom, hcm, ?_, ?_⟩, ⟨rfl, rfl, rfl, by simp, fun k _ hk => setRow_other W g k _ (fun e => hk (by simp [Value.ownBlock, e]))⟩, fun g' h => .inl h⟩
      · simp only [List.size_toArray, List.length_append, List.length_take, List.length_drop, Array.length_toList, hnm]
        omega
      · rw [htk, List.map_append, hlen, ← hm, ← List.length_append]
        rw [show (L ++ N).length = (L.map Pl.u8 ++ N.map Pl.u8).length by simp]
        exact List.take_left
    · have hn0 : ¬ (L.length + m ≤ cap) := hroom
      have h63' : ¬ (9223372036854775807 < ((L.length : Int) + (m : Int))) := by omega
      have h48' : ¬ (281474976710656 < Builtin.nextslicecap (L.length + m) cap) := by have := growslice_fits (need := L.length + m) (old := cap) (bytes := 1) (by omega) (by omega); omega
      have hf0 := hf W.drew (.inr rfl)
      have hcl : ∀ j u, (L.map Pl.u8)[j]? = some u → W.cell? ((⟨g, 0, none⟩ : Addr).add j) = some u := fun j u hu => by
        rw [← htk, List.getElem?_take] at hu
        split at hu
        · rw [Addr.add_lit, Nat.zero_add, cell_of_row W g j cur 5 fz hg]
          simpa using hu
        · cases hu
      have hfo := run_firstCells_some (P := Try.prog) W.drew 1 L.length ⟨g, 0, none⟩ L.length cap (L.map Pl.u8) (by simp) hcl
      have hcm2 : grownCap W (L.length + m) cap 5 ≤ maxLen := grownCap_le_maxLen W (L.length + m) cap 5 (by simp only [maxLen]; omega)
      have hge2 := grownCap_ge W (L.length + m) cap 5
      have hrun : (Builtin.append_ #[30, u] ty #[.slice (some ⟨g, 0, none⟩) L.length cap, x]).run Try.prog W = .ok (.slice (some ⟨W.heap.size, 0, none⟩) (L.length + m) (grownCap W (L.length + m) cap 5)) (W.drew.alloc (.cells ((L.map Pl.u8).toArray ++ (N.map Pl.u8).toArray ++ Builtin.zeroCells (Value.int .u8 0).cells (grownCap W (L.length + m) cap 5 - (L.length + m))) 5)) := by
        rcases hu with rfl | rfl
        · simp [Builtin.append_, run_underlying Try.underlying30, sizeOf, typeInfo, zeroValue, hi, hz0, hz1, hz2, hx, hn0, h63', Question.forced, hf0, hfo, newRow, grownCap, h48']
          congr 2
          apply Array.ext'
          simp [List.append_assoc]
        · simp [Builtin.append_, run_underlying Try.underlying30, run_underlying Try.underlying9, sizeOf, typeInfo, zeroValue, hi, hz0, hz1, hz2, hx, hn0, h63', Question.forced, hf0, hfo, newRow, grownCap, h48']
          congr 2
          apply Array.ext'
          simp [List.append_assoc]
      refine ⟨_, _, hrun, .inr ⟨W.heap.size, _, _, (0, 0), by rw [hlen], hbase, heap_alloc_new W.drew _, fun j _ q => by simp at q, by rw [hlen]; exact hge2, hcm2, ?_, ?_⟩, ⟨rfl, rfl, rfl, by simp, fun k hk _ => Below.heap_alloc W.drew _ _ hk⟩, fun g h => .inr ?_⟩
      · have hzc : (Value.int IntKind.u8 0).cells.size = 1 := rfl
        simp only [Array.size_append, List.size_toArray, size_zeroCells, hzc, hnm, List.length_map]
        omega
      · rw [Array.toList_append, Array.toList_append, List.map_append, hlen]
        rw [show L.length + m = (L.map Pl.u8 ++ N.map Pl.u8).length by simp [hm]]
        exact List.take_left
      · simp [Value.ownBlock] at h; omega
theorem src_slice {v : Value} {N : List UInt8} {W : World} (h : RdB v N W) : (∀ w', (Builtin.lenOf v).run Try.prog w' = .ok N.length w') ∧ ∀ w', w' = W ∨ w' = W.drew → (Builtin.firstCells 1 N.length v).run Try.prog w' = .ok (N.map Pl.u8).toArray w' := by
  obtain ⟨ao, cap, rfl, hc, h⟩ := h
  refine ⟨fun w' => by simp [Builtin.lenOf], fun w' hw => ?_⟩
  rcases h with rfl | ⟨g, o, rfl, hg, h⟩
  · cases ao with
    | none => exact run_firstCells_none (P := Try.prog) w' 1 0 0 cap
    | some a => exact run_firstCells_some (P := Try.prog) w' 1 0 a 0 cap [] rfl (by simp)
  · refine run_firstCells_some (P := Try.prog) w' 1 N.length ⟨g, o, none⟩ N.length cap (N.map Pl.u8) (by simp) (fun j u hu => ?_)
    rw [List.getElem?_map] at hu
    obtain ⟨b, hb, rfl⟩ := Option.map_eq_some_iff.1 hu
    have e := h j b hb
    rw [Addr.add_lit]
    rcases hw with rfl | rfl
    · exact e
    · exact e
theorem src_string (N : List UInt8) (W : World) : (∀ w', (Builtin.lenOf (.string (Pl.tx N))).run Try.prog w' = .ok N.length w') ∧ ∀ w', w' = W ∨ w' = W.drew → (Builtin.firstCells 1 N.length (.string (Pl.tx N))).run Try.prog w' = .ok (N.map Pl.u8).toArray w' := by
  refine ⟨fun w' => by simp [Builtin.lenOf, Pl.tx_size], fun w' _ => ?_⟩
  have hf := Lib.run_firstCells_string (P := Try.prog) w' 1 (Pl.tx N)
  rw [Pl.tx_size] at hf
  rw [hf]
  rfl
theorem wp_appB (W : World) (base : Nat) (v : Value) (L : List UInt8) (hown : OwnB base v L W) (xv : Value) (N : List UInt8) (u : TypeId) (hu : u = 30 ∨ u = 9)
    (hsrc : (∀ w', (Builtin.lenOf xv).run Try.prog w' = .ok N.length w') ∧ ∀ w', w' = W ∨ w' = W.drew → (Builtin.firstCells 1 N.length xv).run Try.prog w' = .ok (N.map Pl.u8).toArray w')
    (h63 : L.length + N.length ≤ 140737488355328) (hbase : base ≤ W.heap.size)
    {o : Oper} {a : Act} {K : Act → World → Prop} {Q : Exit → Act → World → Prop} (s x : Operand) (ho : o.op = .call { callee := .builtin .append, args := #[s, x], argTypes := #[30, u] })
    (hs : a.eval s = v) (hx : a.eval x = xv)
    (h : ∀ v' w', OwnB base v' (L ++ N) w' → W.grownBy w' v.ownBlock → (∀ g, v'.ownBlock = some g → v.ownBlock = some g ∨ W.heap.size ≤ g) → K (a.put o.dst v') w') : o.wp Try.prog a W K Q := by
  obtain ⟨v', w', hr, h2, h3, h4⟩ := run_appB base v L W hown xv N.length N u o.type hu rfl hsrc.1 hsrc.2 h63 hbase
  unfold Oper.wp execOp
  simp only [ho, resolve, invoke, builtin, Sem.run_bind, Sem.run_pure, Result.andThen_ok, List.map_toArray, List.map_cons, List.map_nil, hs, hx, hr]
  exact h v' w' h2 h3 h4
theorem wpList_appB (W : World) (base : Nat) (v : Value) (L : List UInt8) (hown : OwnB base v L W) (xv : Value) (N : List UInt8) (u : TypeId) (hu : u = 30 ∨ u = 9)
    (hsrc : (∀ w', (Builtin.lenOf xv).run Try.prog w' = .ok N.length w') ∧ ∀ w', w' = W ∨ w' = W.drew → (Builtin.firstCells 1 N.length xv).run Try.prog w' = .ok (N.map Pl.u8).toArray w')
    (h63 : L.length + N.length ≤ 140737488355328) (hbase : base ≤ W.heap.size)
    {ops : Array Oper} {rest : List Oper} {o : Oper} {a : Act} {Q : Exit → Act → World → Prop} (hgd : o.guard = none) (s x : Operand) (ho : o.op = .call { callee := .builtin .append, args := #[s, x], argTypes := #[30, u] })
    (hs : a.eval s = v) (hx : a.eval x = xv)
    (h : ∀ v' w', OwnB base v' (L ++ N) w' → W.grownBy w' v.ownBlock → (∀ g, v'.ownBlock = some g → v.ownBlock = some g ∨ W.heap.size ≤ g) → wpList Try.prog ops Q rest (a.put o.dst v') w') : wpList Try.prog ops Q (o :: rest) a W :=
  wpList_plain hgd fun _ hK => wp_appB W base v L hown xv N u hu hsrc h63 hbase s x ho hs hx fun v' w' h2 h3 h4 => hK _ _ (h v' w' h2 h3 h4)
theorem step_appB (W : World) (base : Nat) (v : Value) (L : List UInt8) (hown : OwnB base v L W) (xv : Value) (N : List UInt8) (u : TypeId) (hu : u = 30 ∨ u = 9)
    (hsrc : (∀ w', (Builtin.lenOf xv).run Try.prog w' = .ok N.length w') ∧ ∀ w', w' = W ∨ w' = W.drew → (Builtin.firstCells 1 N.length xv).run Try.prog w' = .ok (N.map Pl.u8).toArray w')
    (h63 : L.length + N.length ≤ 140737488355328) (hbase : base ≤ W.heap.size)
    {ops : Array Oper} {o : Oper} {a : Act} {K : Act → World → Prop} {Q : Exit → Act → World → Prop} {E : Prop} (hgd : o.guard = none) (s x : Operand) (ho : o.op = .call { callee := .builtin .append, args := #[s, x], argTypes := #[30, u] })
    (hs : a.eval s = v) (hx : a.eval x = xv)
    (h : ∀ v' w', OwnB base v' (L ++ N) w' → W.grownBy w' v.ownBlock → (∀ g, v'.ownBlock = some g → v.ownBlock = some g ∨ W.heap.size ≤ g) → K (a.put o.dst v') w') :
    if Region.wanted o (yielded ops a.tmps) = true then Oper.wp Try.prog o a W K Q else E := by
  have hw : Region.wanted o (yielded ops a.tmps) = true := by simp [Region.wanted, hgd]
  rw [if_pos hw]
  exact wp_appB W base v L hown xv N u hu hsrc h63 hbase s x ho hs hx h
end Go.Proofs.Ytpfkijjpophobaa
