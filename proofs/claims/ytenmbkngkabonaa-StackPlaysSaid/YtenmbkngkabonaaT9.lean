/- Rows of objects: Items, Clear, Pop, tympanhelp.Same. -/
import Derived.Test.YtenmbkngkabonaaT8
namespace Go.Proofs.Ytenmbkngkabonaa
set_option linter.unusedVariables false
open Go.RowKit

theorem row_at {base : Nat} {v : Value} {L : List Pl.Ob} {W : World} (c : W.ownsRow base 38 6 v L.length (Pl.flat L)) (j : Nat) (o : Pl.Ob) (hj : L[j]? = some o) : ∃ g cap, v = .slice (some ⟨g, 0, none⟩) L.length cap ∧ L.length ≤ cap ∧
    W.cell? ⟨g, j * 6, none⟩ = some (.int .i64 o.1) ∧ W.cell? ⟨g, j * 6 + 1, none⟩ = some (.bool o.2.1) ∧ W.cell? ⟨g, j * 6 + 2, none⟩ = some (.int .i64 o.2.2.1) ∧ W.cell? ⟨g, j * 6 + 3, none⟩ = some (.int .i64 o.2.2.2.1) ∧
    W.cell? ⟨g, j * 6 + 4, none⟩ = some (.int .i64 o.2.2.2.2.1) ∧ W.cell? ⟨g, j * 6 + 5, none⟩ = some (.string o.2.2.2.2.2) := by
  have hl : j < L.length := (List.getElem?_eq_some_iff.1 hj).1
  rcases c.2 with ⟨rfl, h0⟩ | ⟨g, cap, cur, rfl, hb, hg, hc, r⟩
  · omega
  · refine ⟨g, cap, rfl, hc, ?_, ?_, ?_, ?_, ?_, ?_⟩ <;> rw [c.cellAt _ (by omega)]
    · exact (Pl.flat_get L j o hj 0 (by omega)).trans rfl
    · exact (Pl.flat_get L j o hj 1 (by omega)).trans rfl
    · exact (Pl.flat_get L j o hj 2 (by omega)).trans rfl
    · exact (Pl.flat_get L j o hj 3 (by omega)).trans rfl
    · exact (Pl.flat_get L j o hj 4 (by omega)).trans rfl
    · exact (Pl.flat_get L j o hj 5 (by omega)).trans rfl

theorem own_weaken {w : World} {b1 b2 : Nat} {e : TypeId} {size : Nat} {v : Value} {n : Nat} {xs : List Value} (h : w.ownsRow b1 e size v n xs) (hb : b2 ≤ b1) : w.ownsRow b2 e size v n xs := by
  refine ⟨h.1, ?_⟩
  rcases h.2 with h0 | ⟨g, cap, cur, hv, hb1, r⟩
  · exact .inl h0
  · exact .inr ⟨g, cap, cur, hv, Nat.le_trans hb hb1, r⟩
theorem own_base {w : World} {base : Nat} {e : TypeId} {size : Nat} {v : Value} {n : Nat} {xs : List Value} (h : w.ownsRow base e size v n xs) : ∀ g, v.ownBlock = some g → base ≤ g := by
  intro k hk
  rcases h.2 with ⟨rfl, _⟩ | ⟨g, cap, cur, rfl, hb, _⟩
  · cases hk
  · simp [Value.ownBlock] at hk
    subst hk
    exact hb

section
variable {P : Program} (w : World) (base : Nat) (t : TypeId) (e : TypeId) (i : TypeInfo) (z : Value) (size bytes : Nat) (ht : P.underlying t = some (.slice e)) (hi : P.info? e = some i) (hz : i.zero = some z)
    (hsize : i.size = size) (hby : i.bytes = bytes) (hzs : z.cells.size = size) (hsz : 0 < size)
    (v : Value) (n : Nat) (xs : List Value) (hown : w.ownsRow base e size v n xs)
    (ao : Option Addr) (m c : Nat) (news : List Value) (hnone : ao = none → m = 0) (hl : news.length = m * size) (hnews : ∀ ad, ao = some ad → ∀ j u, news[j]? = some u → w.cell? (ad.add j) = some u) (h1 : ∀ u ∈ news, u.oneCell' = true)
    (h63 : n + m ≤ maxLen) (hbytes : (n + m) * bytes ≤ 140737488355328) (hbase : base ≤ w.heap.size)
include ht hi hz hsize hby hzs hsz hown hnone hl hnews h1 h63 hbytes hbase
/-- append of any row, empty ones too -/
theorem run_append_all (ty : TypeId) : ∃ v' w', (Builtin.append_ #[t, t] ty #[v, .slice ao m c]).run P w = .ok v' w' ∧ w'.ownsRow base e size v' (n + m) (xs ++ news) ∧ w.grownBy w' v.ownBlock ∧ ∀ g, v'.ownBlock = some g → v.ownBlock = some g ∨ w.heap.size ≤ g := by
  cases ao with
  | none =>
    obtain rfl := hnone rfl
    obtain rfl : news = [] := List.eq_nil_of_length_eq_zero (by simpa using hl)
    exact ⟨v, w, run_append_owned_zero (P := P) w base t ty e i size ht hi v n xs hown none c, by simpa using hown, World.grownBy.refl _ _, fun g h => .inl h⟩
  | some ad =>
    rcases hown.2 with ⟨rfl, rfl⟩ | ⟨g, cap, cur, rfl, hb, hg, hnc, _⟩
    · obtain rfl : xs = [] := List.eq_nil_of_length_eq_zero (by simpa using hown.1)
      obtain ⟨v', w', r1, r2, r3, _⟩ := run_append_own (P := P) w w.heap.size t ty e i z size bytes ht hi hz hsize hby hzs hsz (.slice none 0 0) 0 [] (World.ownsRow_nil w _ e size) ad m c news hl (hnews ad rfl) h1 h63 hbytes (Nat.le_refl _)
      exact ⟨v', w', r1, own_weaken r2 hbase, r3, fun g h => .inr (own_base r2 g h)⟩
    · by_cases hroom : n + m ≤ cap
      · obtain ⟨w', r1, r2, r3⟩ := run_append_own_spare (P := P) w base t ty e i size ht hi hsize g n cap xs hown ad m c news hl (hnews ad rfl) h1 hroom
        exact ⟨_, w', r1, r2, r3, fun g2 h => .inl h⟩
      · obtain ⟨v', w', r1, r2, r3⟩ := run_append_arg_grows (P := P) w t ty e i z size bytes ht hi hz hsize hby hzs hsz ⟨g, 0, none⟩ n cap xs hown.1 (hown.cells rfl) ad m c news hl (hnews ad rfl) (by omega) h63 hbytes
        exact ⟨v', w', r1, own_weaken r2 hbase, ⟨r3.1, r3.2, r3.3, r3.4, fun k hk _ => r3.5 k hk (by simp)⟩, fun g2 h => .inr (own_base r2 g2 h)⟩
theorem wp_append_all {o : Oper} {a : Act} {K : Act → World → Prop} {Q : Exit → Act → World → Prop} (s x : Operand) (ho : o.op = .call { callee := .builtin .append, args := #[s, x], argTypes := #[t, t] })
    (hs : a.eval s = v) (hx : a.eval x = .slice ao m c)
    (h : ∀ v' w', w'.ownsRow base e size v' (n + m) (xs ++ news) → w.grownBy w' v.ownBlock → (∀ g, v'.ownBlock = some g → v.ownBlock = some g ∨ w.heap.size ≤ g) → K (a.put o.dst v') w') : o.wp P a w K Q := by
  obtain ⟨v', w', hr, h2, h3, h4⟩ := run_append_all (P := P) w base t e i z size bytes ht hi hz hsize hby hzs hsz v n xs hown ao m c news hnone hl hnews h1 h63 hbytes hbase o.type
  unfold Oper.wp execOp
  simp only [ho, resolve, invoke, builtin, Sem.run_bind, Sem.run_pure, Result.andThen_ok, List.map_toArray, List.map_cons, List.map_nil, hs, hx, hr]
  exact h v' w' h2 h3 h4
theorem wpList_append_all {ops : Array Oper} {rest : List Oper} {o : Oper} {a : Act} {Q : Exit → Act → World → Prop} (hgd : o.guard = none) (s x : Operand) (ho : o.op = .call { callee := .builtin .append, args := #[s, x], argTypes := #[t, t] })
    (hs : a.eval s = v) (hx : a.eval x = .slice ao m c)
    (h : ∀ v' w', w'.ownsRow base e size v' (n + m) (xs ++ news) → w.grownBy w' v.ownBlock → (∀ g, v'.ownBlock = some g → v.ownBlock = some g ∨ w.heap.size ≤ g) → wpList P ops Q rest (a.put o.dst v') w') : wpList P ops Q (o :: rest) a w :=
  wpList_plain hgd fun _ hK => wp_append_all w base t e i z size bytes ht hi hz hsize hby hzs hsz v n xs hown ao m c news hnone hl hnews h1 h63 hbytes hbase s x ho hs hx fun v' w' h2 h3 h4 => hK _ _ (h v' w' h2 h3 h4)
theorem step_append_all {ops : Array Oper} {o : Oper} {a : Act} {K : Act → World → Prop} {Q : Exit → Act → World → Prop} {E : Prop} (hgd : o.guard = none) (s x : Operand) (ho : o.op = .call { callee := .builtin .append, args := #[s, x], argTypes := #[t, t] })
    (hs : a.eval s = v) (hx : a.eval x = .slice ao m c)
    (h : ∀ v' w', w'.ownsRow base e size v' (n + m) (xs ++ news) → w.grownBy w' v.ownBlock → (∀ g, v'.ownBlock = some g → v.ownBlock = some g ∨ w.heap.size ≤ g) → K (a.put o.dst v') w') :
    if Region.wanted o (yielded ops a.tmps) = true then Oper.wp P o a w K Q else E := by
  have hw : Region.wanted o (yielded ops a.tmps) = true := by simp [Region.wanted, hgd]
  rw [if_pos hw]
  exact wp_append_all w base t e i z size bytes ht hi hz hsize hby hzs hsz v n xs hown ao m c news hnone hl hnews h1 h63 hbytes hbase s x ho hs hx h
end

/-- the cells of an owned row, as a source -/
theorem own_src {w : World} {base : Nat} {e : TypeId} {size : Nat} {ao : Option Addr} {n m cap : Nat} {xs : List Value} (h : w.ownsRow base e size (.slice ao m cap) n xs) : (ao = none → n = 0) ∧ ∀ ad, ao = some ad → ∀ j u, xs[j]? = some u → w.cell? (ad.add j) = some u := by
  rcases h.2 with ⟨hv, h0⟩ | ⟨g, cap, cur, hv, hb, hg, hc, r⟩
  · injection hv with hv1 _ _
    subst hv1
    exact ⟨fun _ => h0, fun ad q => by cases q⟩
  · injection hv with hv1 _ _
    subst hv1
    exact ⟨fun q => (by cases q), fun ad q => (by cases q; exact h.cells rfl)⟩

set_option maxHeartbeats 1000000 in
theorem items_any (base p : Nat) (v : Value) (L : List Pl.Ob) (hlen : L.length ≤ 300) (W : World) (hS : StkV base p v L W) :
    Calls Try.prog 26 #[.pointer (some ⟨p, 0, none⟩)] W fun e w' => ∃ vi, e = .returned vi ∧ w'.ownsRow W.heap.size 38 6 vi L.length (Pl.flat L) ∧ Fr (fun _ => False) W w' := by
  obtain ⟨i0, hi, hz0, hz1, hz2⟩ := info_parts Try.objInfo
  obtain ⟨ao, cap, rfl⟩ := hS.slice
  obtain ⟨h0, h1, hown, hne, hp⟩ := id hS
  obtain ⟨M, hM⟩ : ∃ M, M = L.length := ⟨_, rfl⟩
  rw [← hM] at hlen h0 hown
  rw [← hM]
  have HFL : Hid ((Pl.flat L).length = M * 6) := Lib.hid (by rw [Pl.flat_len, hM])
  have HO := Lib.hid (own_src hown)
  have HF := Lib.hid (Pl.flat_one L)
  clear hM hS hown hne
  go_enter Try.func26, Try.ntmps26
  go_wp2_with (at_builtin; refine wpList_append_all _ W.heap.size 32 38 i0 _ 6 56 Try.underlying32 hi hz0 hz1 hz2 rfl (by decide) (.slice none 0 0) 0 [] (World.ownsRow_nil _ _ _ _) ao M cap (Pl.flat L) HO.out.1 HFL.out HO.out.2 HF.out (by unfold maxLen; omega) (by omega) ?hbase (hgd := rfl) (.const (.slice none 0 0)) (.tmp 8) rfl (by simp [Act.eval]) (by simp [Act.eval]) ?hnext)
  case hbase => exact Nat.le_refl _
  case hnext =>
    intro v' w' hown' hgr hbl
    have Hown := Lib.hid hown'
    have Hgr := Lib.hid hgr
    clear hown' hgr
    go_wp2_with fail
    go_ret
    exact ⟨_, rfl, Hown.out, Fr.grown _ Hgr.out (by intro k q; cases q)⟩

theorem clear_any (base p : Nat) (v : Value) (L : List Pl.Ob) (W : World) (hS : StkV base p v L W) :
    Calls Try.prog 54 #[.pointer (some ⟨p, 0, none⟩)] W fun e w' => e = .returned (.tuple #[]) ∧ StkV base p (.slice none 0 0) [] w' ∧ Fr (fun c => c = p) W w' := by
  obtain ⟨h0, h1, hown, hne, hp⟩ := id hS
  clear hS
  go_enter Try.func54, Try.ntmps54
  go_wp2_with fail
  all_goals
    go_end0
    exact ⟨rfl, ⟨World.cell?_setCell_same' _ _ _ (by rw [h0]; rfl), by simpa using h1, World.ownsRow_nil _ _ _ _, by simp [Value.ownBlock], by simpa using hp⟩, Fr.setCell _ _ _ _ rfl⟩
end Go.Proofs.Ytenmbkngkabonaa
