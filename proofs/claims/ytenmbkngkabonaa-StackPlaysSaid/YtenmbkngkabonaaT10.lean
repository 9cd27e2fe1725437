/- The walk of (*stack.Stack).Pop. -/
import Derived.Test.YtenmbkngkabonaaT9
namespace Go.Proofs.Ytenmbkngkabonaa
set_option linter.unusedVariables false
open Go.RowKit

theorem some_setCell {w : World} {p q : Addr} {x : Value} (h : (w.cell? q).isSome = true) : ((w.setCell p x).cell? q).isSome = true := by
  obtain ⟨u, hu⟩ := Option.isSome_iff_exists.1 h
  obtain ⟨u', hu'⟩ := cell?_setCell_some (p := p) (x := x) hu
  rw [hu']
  rfl
/-- an object stored over the six cells of its block -/
theorem obs_set (Z : World) (b : Nat) (h : ∀ o, o < 6 → (Z.cell? ⟨b, o, none⟩).isSome = true) (k : Int) (x : Bool) (n a l : Int) (s : ByteArray) (Y : World) (hY : Y = ((((((Z.setCell ⟨b, 0, none⟩ (.int .i64 k)).setCell ⟨b, 1, none⟩ (.bool x)).setCell ⟨b, 2, none⟩ (.int .i64 n)).setCell ⟨b, 3, none⟩ (.int .i64 a)).setCell ⟨b, 4, none⟩ (.int .i64 l)).setCell ⟨b, 5, none⟩ (.string s))) :
    Y.cell? ⟨b, 0, none⟩ = some (.int .i64 k) ∧ Y.cell? ⟨b, 1, none⟩ = some (.bool x) ∧ Y.cell? ⟨b, 2, none⟩ = some (.int .i64 n) ∧ Y.cell? ⟨b, 3, none⟩ = some (.int .i64 a) ∧ Y.cell? ⟨b, 4, none⟩ = some (.int .i64 l) ∧ Y.cell? ⟨b, 5, none⟩ = some (.string s) := by
  subst hY
  have h0 := h 0 (by omega)
  have h1 := h 1 (by omega)
  have h2 := h 2 (by omega)
  have h3 := h 3 (by omega)
  have h4 := h 4 (by omega)
  have h5 := h 5 (by omega)
  refine ⟨?_, ?_, ?_, ?_, ?_, ?_⟩ <;> simp [World.cell?_setCell_other, World.cell?_setCell_same', h0, h1, h2, h3, h4, h5]
theorem own_shrink {w : World} {base : Nat} {e : TypeId} {size g N cap : Nat} {xs : List Value} (h : w.ownsRow base e size (.slice (some ⟨g, 0, none⟩) N cap) N xs) (m : Nat) (hm : m ≤ N) (ys : List Value) (hy : ys = xs.take (m * size)) : w.ownsRow base e size (.slice (some ⟨g, 0, none⟩) m cap) m ys := by
  have hl := h.1
  have hms : m * size ≤ N * size := Nat.mul_le_mul_right _ hm
  rcases h.2 with ⟨hq, _⟩ | ⟨g2, cap2, cur, hq, hb, hg, hc, hc2, hs, ht⟩
  · cases hq
  · injection hq with q1 q2 q3
    cases q1
    subst q3
    refine ⟨by rw [hy, List.length_take]; omega, .inr ⟨g, cap, cur, rfl, hb, hg, by omega, hc2, hs, ?_⟩⟩
    rw [hy, ← ht, List.take_take, Nat.min_eq_left hms]

set_option maxHeartbeats 1000000 in
theorem pop_ok (base p : Nat) (v : Value) (L : List Pl.Ob) (k : Int) (x : Bool) (n a l : Int) (s : ByteArray) (hlen : L.length ≤ 299) (W : World) (hS : StkV base p v (L ++ [(k, x, n, a, l, s)]) W) :
    Calls Try.prog 41 #[.pointer (some ⟨p, 0, none⟩)] W fun e w' => e = .returned (.tuple #[obv k x n a l s, .int .i64 0]) ∧ (∃ v', StkV base p v' L w' ∧ v'.ownBlock = v.ownBlock) ∧ Fr (fun c => c = p) W w' := by
  have hl : (L ++ [(k, x, n, a, l, s)]).length = L.length + 1 := by simp
  have CP := Lib.hid (peek_ok base p v (L ++ [(k, x, n, a, l, s)]) 0 L.length k x n a l s (by omega) (by simp) (by omega) _ (hS.fr (Fr.alloc (fun _ => False) W (.cells #[.int .i64 0, .bool false, .int .i64 0, .int .i64 0, .int .i64 0, .string ⟨#[]⟩] 38)) (fun h => h) (fun _ _ h => h)))
  obtain ⟨g, cap, rfl, hcap, -, -, -, -, -, -⟩ := hS.at L.length (k, x, n, a, l, s) (by simp)
  obtain ⟨h0, h1, hown, hne, hp⟩ := id hS
  rw [hl] at h0 hcap hown
  go_enter Try.func41, Try.ntmps41
  go_wp2_with fail
  refine (CP.out).mono ?_
  rintro e w1 ⟨rfl, g1⟩
  clear hS
  have hp1 : w1.cell? ⟨p, 0, none⟩ = some (.slice (some ⟨g, 0, none⟩) (L.length + 1) cap) := grown_cell g1 ((World.cell?_alloc_past _ _ _ hp).trans h0)
  have hf1 : w1.frozen? ⟨p, 0, none⟩ = false := by rw [g1.2.1, frozen?_alloc_cells]; exact h1
  have hO : ObS W W.heap.size 0 false 0 0 0 ⟨#[]⟩ w1 := ObS.grow (by exact ⟨by simp [go_sem], by simp [go_sem], by simp [go_sem], by simp [go_sem], by simp [go_sem], by simp [go_sem], by (repeat (first | exact Grown.refl _ | assumption | apply Grown.drew | apply Grown.alloc))⟩) g1
  have hf2 : ∀ o, w1.frozen? ⟨W.heap.size, o, none⟩ = false := by intro o; rw [g1.2.1, frozen?_alloc_cells]; simp [World.frozen?]
  have hsz := g1.2.2
  obtain ⟨o0, o1, o2, o3, o4, o5, og⟩ := id hO
  have hpn : ¬ p = W.heap.size := by omega
  have hpn' : ¬ W.heap.size = p := by omega
  have hex : ∀ o, o < 6 → ((((((((w1.setCell ⟨W.heap.size, 0, none⟩ (.int .i64 k)).setCell ⟨W.heap.size, 1, none⟩ (.bool x)).setCell ⟨W.heap.size, 2, none⟩ (.int .i64 n)).setCell ⟨W.heap.size, 3, none⟩ (.int .i64 a)).setCell ⟨W.heap.size, 4, none⟩ (.int .i64 l)).setCell ⟨W.heap.size, 5, none⟩ (.string s)).setCell ⟨p, 0, none⟩ (.slice (some ⟨g, 0, none⟩) L.length cap)).cell? ⟨W.heap.size, o, none⟩).isSome = true := by
    intro o ho
    have : (w1.cell? ⟨W.heap.size, o, none⟩).isSome = true := by
      rcases (show o = 0 ∨ o = 1 ∨ o = 2 ∨ o = 3 ∨ o = 4 ∨ o = 5 by omega) with rfl | rfl | rfl | rfl | rfl | rfl
      · rw [o0]; rfl
      · rw [o1]; rfl
      · rw [o2]; rfl
      · rw [o3]; rfl
      · rw [o4]; rfl
      · rw [o5]; rfl
    exact some_setCell (some_setCell (some_setCell (some_setCell (some_setCell (some_setCell (some_setCell this))))))
  have HEX := Lib.hid hex
  clear hex
  have e1 : ((L.length + 1 : Nat) : Int) - 1 = L.length := by omega
  have e2 : (L.length : Int) ≤ 299 := by omega
  have e3 : (0 : Int) ≤ L.length := by omega
  have e4 : (L.length : Int) ≤ (cap : Int) := by omega
  go_wp2_with fail
  go_region
  all_goals
    go_wp2_with fail
    obtain ⟨y0, y1, y2, y3, y4, y5⟩ := obs_set (((((((w1.setCell ⟨W.heap.size, 0, none⟩ (.int .i64 k)).setCell ⟨W.heap.size, 1, none⟩ (.bool x)).setCell ⟨W.heap.size, 2, none⟩ (.int .i64 n)).setCell ⟨W.heap.size, 3, none⟩ (.int .i64 a)).setCell ⟨W.heap.size, 4, none⟩ (.int .i64 l)).setCell ⟨W.heap.size, 5, none⟩ (.string s)).setCell ⟨p, 0, none⟩ (.slice (some ⟨g, 0, none⟩) L.length cap)) W.heap.size HEX.out k x n a l s _ rfl
    refine bodyPost_ret (v := .tuple #[obv k x n a l s, .int .i64 0]) (by simp [results, Try.results41, go_sem, y0, y1, y2, y3, y4, y5]) rfl ?_
    have hgp : ¬ g = p := fun e => hne (by rw [e]; rfl)
    have hF : Fr (fun c => c = p) W w1 := (Fr.alloc _ W _).trans (Fr.of_grown _ g1)
    have hF2 : ∀ (Z : World) (o : Nat) (u : Value), Fr (fun c => c = p) W Z → Fr (fun c => c = p) W (Z.setCell ⟨W.heap.size, o, none⟩ u) := fun Z o u h => h.trans' (Fr.setCell (fun c => c = W.heap.size) Z ⟨W.heap.size, o, none⟩ u rfl) (fun i q => .inr (by omega))
    have key : ∀ Z : World, Fr (fun c => c = p) W Z → Z.cell? ⟨p, 0, none⟩ = some (.slice (some ⟨g, 0, none⟩) L.length cap) → Z.frozen? ⟨p, 0, none⟩ = false → (∃ v', StkV base p v' L Z ∧ v'.ownBlock = (Value.slice (some ⟨g, 0, none⟩) (L.length + 1) cap).ownBlock) ∧ Fr (fun c => c = p) W Z :=
      fun Z hFF hc hf => ⟨⟨.slice (some ⟨g, 0, none⟩) L.length cap, ⟨hc, hf, own_fr (own_shrink hown L.length (by omega) _ (by simp [Pl.flat_append, Pl.flat_len])) hFF (fun g2 q h => hgp ((Option.some.inj q).trans h)), hne, Nat.lt_of_lt_of_le hp hFF.2.2.1⟩, rfl⟩, hFF⟩
    refine ⟨rfl, key _ ?_ ?_ ?_⟩
    · exact Fr.drew (hF2 _ _ _ (hF2 _ _ _ (hF2 _ _ _ (hF2 _ _ _ (hF2 _ _ _ (hF2 _ _ _ ((hF2 _ _ _ (hF2 _ _ _ (hF2 _ _ _ (hF2 _ _ _ (hF2 _ _ _ (hF2 _ _ _ hF)))))).trans (Fr.setCell _ _ ⟨p, 0, none⟩ (.slice (some ⟨g, 0, none⟩) L.length cap) rfl))))))))
    · simp [go_sem, hp1]
    · simp [hf1]

set_option maxHeartbeats 1000000 in
theorem pop_none (base p : Nat) (v : Value) (W : World) (hS : StkV base p v [] W) :
    Calls Try.prog 41 #[.pointer (some ⟨p, 0, none⟩)] W fun e w' => e = .returned (.tuple #[obv 0 false 0 0 0 ⟨#[]⟩, .int .i64 7]) ∧ Grown W w' := by
  have CP := Lib.hid (peek_under base p v [] 0 (by omega) (by simp) _ (hS.fr (Fr.alloc (fun _ => False) W (.cells #[.int .i64 0, .bool false, .int .i64 0, .int .i64 0, .int .i64 0, .string ⟨#[]⟩] 38)) (fun h => h) (fun _ _ h => h)))
  clear hS
  go_enter Try.func41, Try.ntmps41
  go_wp2_with fail
  refine (CP.out).mono ?_
  rintro e w1 ⟨rfl, g1⟩
  have hO : ObS W W.heap.size 0 false 0 0 0 ⟨#[]⟩ w1 := ObS.grow (by exact ⟨by simp [go_sem], by simp [go_sem], by simp [go_sem], by simp [go_sem], by simp [go_sem], by simp [go_sem], by (repeat (first | exact Grown.refl _ | assumption | apply Grown.drew | apply Grown.alloc))⟩) g1
  have hf2 : ∀ o, w1.frozen? ⟨W.heap.size, o, none⟩ = false := by intro o; rw [g1.2.1, frozen?_alloc_cells]; simp [World.frozen?]
  have hsz := g1.2.2
  obtain ⟨o0, o1, o2, o3, o4, o5, og⟩ := id hO
  have hex : ∀ o, o < 6 → (((((((w1.setCell ⟨W.heap.size, 0, none⟩ (.int .i64 0)).setCell ⟨W.heap.size, 1, none⟩ (.bool false)).setCell ⟨W.heap.size, 2, none⟩ (.int .i64 0)).setCell ⟨W.heap.size, 3, none⟩ (.int .i64 0)).setCell ⟨W.heap.size, 4, none⟩ (.int .i64 0)).setCell ⟨W.heap.size, 5, none⟩ (.string ⟨#[]⟩)).cell? ⟨W.heap.size, o, none⟩).isSome = true := by
    intro o ho
    have : (w1.cell? ⟨W.heap.size, o, none⟩).isSome = true := by
      rcases (show o = 0 ∨ o = 1 ∨ o = 2 ∨ o = 3 ∨ o = 4 ∨ o = 5 by omega) with rfl | rfl | rfl | rfl | rfl | rfl
      · rw [o0]; rfl
      · rw [o1]; rfl
      · rw [o2]; rfl
      · rw [o3]; rfl
      · rw [o4]; rfl
      · rw [o5]; rfl
    exact some_setCell (some_setCell (some_setCell (some_setCell (some_setCell (some_setCell this)))))
  have HEX := Lib.hid hex
  clear hex
  go_wp2_with fail
  obtain ⟨y0, y1, y2, y3, y4, y5⟩ := obs_set ((((((w1.setCell ⟨W.heap.size, 0, none⟩ (.int .i64 0)).setCell ⟨W.heap.size, 1, none⟩ (.bool false)).setCell ⟨W.heap.size, 2, none⟩ (.int .i64 0)).setCell ⟨W.heap.size, 3, none⟩ (.int .i64 0)).setCell ⟨W.heap.size, 4, none⟩ (.int .i64 0)).setCell ⟨W.heap.size, 5, none⟩ (.string ⟨#[]⟩)) W.heap.size HEX.out 0 false 0 0 0 ⟨#[]⟩ _ rfl
  have hG2 : ∀ (Z : World) (o : Nat) (u : Value), Grown W Z → Grown W (Z.setCell ⟨W.heap.size, o, none⟩ u) := fun Z o u h => Grown.setCell h (by simp) _
  refine bodyPost_ret (v := .tuple #[obv 0 false 0 0 0 ⟨#[]⟩, .int .i64 7]) (by simp [results, Try.results41, go_sem, y0, y1, y2, y3, y4, y5]) rfl ⟨rfl, hG2 _ _ _ (hG2 _ _ _ (hG2 _ _ _ (hG2 _ _ _ (hG2 _ _ _ (hG2 _ _ _ (hG2 _ _ _ (hG2 _ _ _ (hG2 _ _ _ (hG2 _ _ _ (hG2 _ _ _ (hG2 _ _ _ (og))))))))))))⟩
end Go.Proofs.Ytenmbkngkabonaa
