/- The walks of the reference's stack: Peek, ToMark, Pop. -/
import Derived.Test.YtenmbkngkabonaaT23
import Derived.Test.YtenmbkngkabonaaR2
namespace Go.Proofs.Ytenmbkngkabonaa
set_option linter.unusedVariables false
open Go.RowKit

theorem rpeek_low (base p : Nat) (v : Value) (L : List Pl.Ob) (i : Int) (hi : i < 0) (W : World) (hS : StkV base p v L W) :
    Calls Try.prog 56 #[.pointer (some ⟨p, 0, none⟩), .int .i64 i] W fun e w' => e = .returned (.tuple #[obv 0 false 0 0 0 ⟨#[]⟩, .int .i64 2]) ∧ Grown W w' := by
  clear hS
  go_enter Try.func56, Try.ntmps56
  go_wp2_with fail
  refine bodyPost_ret (v := .tuple #[obv 0 false 0 0 0 ⟨#[]⟩, .int .i64 2]) (by simp [results, Try.results56, go_sem]) rfl ⟨rfl, by (repeat (first | exact Grown.refl _ | assumption | apply Grown.drew | apply Grown.alloc | (refine Grown.setCell ?_ (by simp) _)))⟩
theorem rpeek_under (base p : Nat) (v : Value) (L : List Pl.Ob) (i : Int) (hi0 : 0 ≤ i) (hi : (L.length : Int) ≤ i) (W : World) (hS : StkV base p v L W) :
    Calls Try.prog 56 #[.pointer (some ⟨p, 0, none⟩), .int .i64 i] W fun e w' => e = .returned (.tuple #[obv 0 false 0 0 0 ⟨#[]⟩, .int .i64 7]) ∧ Grown W w' := by
  obtain ⟨ao, cap, rfl⟩ := hS.slice
  obtain ⟨h0, h1, hown, hne, hp⟩ := id hS
  clear hS
  have hp0 : ∀ o t, (W.alloc (.cells o t)).cell? ⟨p, 0, none⟩ = some (.slice ao L.length cap) := fun o t => by rw [World.cell?_alloc_past _ _ _ hp]; exact h0
  go_enter Try.func56, Try.ntmps56
  go_wp2_with fail
  refine bodyPost_ret (v := .tuple #[obv 0 false 0 0 0 ⟨#[]⟩, .int .i64 7]) (by simp [results, Try.results56, go_sem]) rfl ⟨rfl, by (repeat (first | exact Grown.refl _ | assumption | apply Grown.drew | apply Grown.alloc | (refine Grown.setCell ?_ (by simp) _)))⟩

set_option maxHeartbeats 1000000 in
theorem rpeek_ok (base p : Nat) (v : Value) (L : List Pl.Ob) (i j : Nat) (k : Int) (x : Bool) (n a l : Int) (s : ByteArray) (hij : i + j + 1 = L.length) (hj : L[j]? = some (k, x, n, a, l, s)) (hlen : L.length ≤ 300) (W : World) (hS : StkV base p v L W) :
    Calls Try.prog 56 #[.pointer (some ⟨p, 0, none⟩), .int .i64 (i : Int)] W fun e w' => e = .returned (.tuple #[obv k x n a l s, .int .i64 0]) ∧ Grown W w' := by
  obtain ⟨g, cap, rfl, hcap, c0, c1, c2, c3, c4, c5⟩ := hS.at j _ hj
  obtain ⟨h0, h1, hown, hne, hp⟩ := id hS
  have hg := own_lt hown g rfl
  clear hS
  have hO : ObS W W.heap.size 0 false 0 0 0 ⟨#[]⟩ (W.alloc (.cells #[.int .i64 0, .bool false, .int .i64 0, .int .i64 0, .int .i64 0, .string ⟨#[]⟩] 38)) := ⟨by simp [go_sem], by simp [go_sem], by simp [go_sem], by simp [go_sem], by simp [go_sem], by simp [go_sem], (Grown.refl W).alloc _ _⟩
  have hp0 : ∀ o t, (W.alloc (.cells o t)).cell? ⟨p, 0, none⟩ = some (.slice (some ⟨g, 0, none⟩) L.length cap) := fun o t => by rw [World.cell?_alloc_past _ _ _ hp]; exact h0
  have d0 : ∀ o t, (W.alloc (.cells o t)).cell? ⟨g, j * 6, none⟩ = _ := fun o t => (World.cell?_alloc_past _ _ _ hg).trans c0
  have d1 : ∀ o t, (W.alloc (.cells o t)).cell? ⟨g, j * 6 + 1, none⟩ = _ := fun o t => (World.cell?_alloc_past _ _ _ hg).trans c1
  have d2 : ∀ o t, (W.alloc (.cells o t)).cell? ⟨g, j * 6 + 2, none⟩ = _ := fun o t => (World.cell?_alloc_past _ _ _ hg).trans c2
  have d3 : ∀ o t, (W.alloc (.cells o t)).cell? ⟨g, j * 6 + 3, none⟩ = _ := fun o t => (World.cell?_alloc_past _ _ _ hg).trans c3
  have d4 : ∀ o t, (W.alloc (.cells o t)).cell? ⟨g, j * 6 + 4, none⟩ = _ := fun o t => (World.cell?_alloc_past _ _ _ hg).trans c4
  have d5 : ∀ o t, (W.alloc (.cells o t)).cell? ⟨g, j * 6 + 5, none⟩ = _ := fun o t => (World.cell?_alloc_past _ _ _ hg).trans c5
  have e1 : (L.length : Int) - 1 - i = j := by omega
  have e2 : (j : Int) < L.length := by omega
  have e3 : (i : Int) < L.length := by omega
  have e4 : (L.length : Int) ≤ 300 := by omega
  have e5 : 1 ≤ (L.length : Int) := by omega
  go_enter Try.func56, Try.ntmps56
  go_wp2_with fail
  go_region
  all_goals
    go_wp2_with fail
    refine bodyPost_ret (v := .tuple #[obv k x n a l s, .int .i64 0]) (by simp [results, Try.results56, go_sem]) rfl ⟨rfl, by (repeat (first | exact Grown.refl _ | assumption | apply Grown.drew | apply Grown.alloc | (refine Grown.setCell ?_ (by simp) _)))⟩

set_option maxHeartbeats 2000000 in
set_option maxRecDepth 100000 in
theorem rtomark_any (base p : Nat) (v : Value) (L : List Pl.Ob) (hlen : L.length ≤ 300) (W : World) (hS : StkV base p v L W) :
    Calls Try.prog 57 #[.pointer (some ⟨p, 0, none⟩)] W fun e w' => e = .returned (.tuple #[.int .i64 (Pl.toMark L).1, .int .i64 (Pl.toMark L).2]) ∧ Grown W w' := by
  have HS := Lib.hid hS
  obtain ⟨ao, cap, rfl⟩ := hS.slice
  have h0 := hS.1
  obtain ⟨M, hM⟩ : ∃ M, M = L.length := ⟨_, rfl⟩
  rw [← hM] at h0
  have HM := Lib.hid hM
  have e1 : (M : Int) ≤ 300 := by omega
  clear hS hM hlen
  go_enter Try.func57, Try.ntmps57
  go_wp2_with fail
  go_loopw [4] (fun i wr => ∃ k : Nat, i = .int .i64 (k : Int) ∧ k ≤ M ∧ Grown W wr ∧ Hid (∀ (i : Nat) (q : Pl.Ob), i < k → L.reverse[i]? = some q → q.1 ≠ 6)) (fun i _ => ((M : Int) - intOf i).toNat)
  case atStart => exact ⟨0, rfl, by omega, Grown.refl W, Lib.hid (fun i q h => absurd h (by omega))⟩
  case round =>
    obtain ⟨k, rfl, hk, g1, hall⟩ := hrel
    have c0 := grown_cell g1 h0
    rcases Nat.lt_or_eq_of_le hk with hkm | rfl
    · obtain ⟨⟨kk, x, n, a, l, s⟩, hq1, hq2⟩ := Pl.rev_at L k (by have := HM.out; omega)
      obtain ⟨g, cap', hv, hcap, d0, d1, d2, d3, d4, d5⟩ := (HS.out.fr (P := fun _ => False) (Fr.of_grown _ g1) (fun f => f) (fun _ _ f => f)).at _ _ hq2
      injection hv with q1 q2 q3
      subst q1
      clear q2 q3
      obtain ⟨J, hJ⟩ : ∃ J, J = L.length - 1 - k := ⟨_, rfl⟩
      rw [← hJ] at d0
      have e2 : (M : Int) - 1 - (k : Int) = (J : Int) := by have := HM.out; omega
      have e3 : (J : Int) < (M : Int) := by omega
      have e4 : (k : Int) < (M : Int) := by omega
      have HQ := Lib.hid hq1
      clear hq1 hq2 d1 d2 d3 d4 d5 hJ hcap
      go_wp2_with fail
      go_region
      go_wp2_with fail
      · rename_i hkk
        go_ret2
        refine ⟨?_, g1.drew⟩
        rw [Pl.toMark, Pl.fd_some L.reverse k _ HQ.out (by simpa using hkk) hall.out]
        rfl
      · rename_i hkk
        refine ⟨⟨k + 1, by simp, by omega, g1.drew, Lib.hid ?_⟩, by simp [intOf] <;> omega⟩
        intro i q hi hq
        rcases Nat.lt_succ_iff_lt_or_eq.1 hi with h | rfl
        · exact hall.out i q h hq
        · rw [HQ.out] at hq
          injection hq with hq
          rw [← hq]
          simpa using hkk
    · go_wp2_with fail
      go_ret2
      refine ⟨?_, g1⟩
      rw [Pl.toMark, Pl.fd_none L.reverse (fun i q hi hq => hall.out i q (by rw [List.length_reverse] at hi; have := HM.out; omega) hq)]
      rfl

set_option maxHeartbeats 1000000 in
set_option maxRecDepth 100000 in
theorem rpop_ok (base p : Nat) (v : Value) (L : List Pl.Ob) (k : Int) (x : Bool) (n a l : Int) (s : ByteArray) (hlen : L.length ≤ 299) (W : World) (hS : StkV base p v (L ++ [(k, x, n, a, l, s)]) W) :
    Calls Try.prog 51 #[.pointer (some ⟨p, 0, none⟩)] W fun e w' => e = .returned (.tuple #[obv k x n a l s, .int .i64 0]) ∧ (∃ v', StkV base p v' L w' ∧ v'.ownBlock = v.ownBlock) ∧ Fr (fun c => c = p) W w' := by
  have hl : (L ++ [(k, x, n, a, l, s)]).length = L.length + 1 := by simp
  obtain ⟨g, cap, rfl, hcap, d0, d1, d2, d3, d4, d5⟩ := hS.at L.length (k, x, n, a, l, s) (by simp)
  obtain ⟨h0, h1, hown, hne, hp⟩ := id hS
  have hg := own_lt hown g rfl
  rw [hl] at h0 hcap hown
  obtain ⟨M, hM⟩ : ∃ M, M = L.length := ⟨_, rfl⟩
  rw [← hM] at h0 hcap hown d0 d1 d2 d3 d4 d5 hlen
  have HM := Lib.hid hM
  have c0 : ∀ o t, (W.alloc (.cells o t)).cell? ⟨p, 0, none⟩ = some (.slice (some ⟨g, 0, none⟩) (M + 1) cap) := fun o t => by rw [World.cell?_alloc_past _ _ _ hp]; exact h0
  have b0 : ∀ o t, (W.alloc (.cells o t)).cell? ⟨g, M * 6, none⟩ = some (.int .i64 k) := fun o t => (World.cell?_alloc_past _ _ _ hg).trans d0
  have b1 : ∀ o t, (W.alloc (.cells o t)).cell? ⟨g, M * 6 + 1, none⟩ = some (.bool x) := fun o t => (World.cell?_alloc_past _ _ _ hg).trans d1
  have b2 : ∀ o t, (W.alloc (.cells o t)).cell? ⟨g, M * 6 + 2, none⟩ = some (.int .i64 n) := fun o t => (World.cell?_alloc_past _ _ _ hg).trans d2
  have b3 : ∀ o t, (W.alloc (.cells o t)).cell? ⟨g, M * 6 + 3, none⟩ = some (.int .i64 a) := fun o t => (World.cell?_alloc_past _ _ _ hg).trans d3
  have b4 : ∀ o t, (W.alloc (.cells o t)).cell? ⟨g, M * 6 + 4, none⟩ = some (.int .i64 l) := fun o t => (World.cell?_alloc_past _ _ _ hg).trans d4
  have b5 : ∀ o t, (W.alloc (.cells o t)).cell? ⟨g, M * 6 + 5, none⟩ = some (.string s) := fun o t => (World.cell?_alloc_past _ _ _ hg).trans d5
  have c1 : ∀ o t o2 t2, ((W.alloc (.cells o t)).alloc (.cells o2 t2)).cell? ⟨p, 0, none⟩ = some (.slice (some ⟨g, 0, none⟩) (M + 1) cap) := fun o t o2 t2 => by rw [World.cell?_alloc_past _ _ _ (by simp; omega)]; exact c0 o t
  have hpn : ¬ p = W.heap.size := by omega
  have hpn' : ¬ W.heap.size = p := by omega
  have hpm : ¬ p = W.heap.size + 1 := by omega
  have hpm' : ¬ W.heap.size + 1 = p := by omega
  have e0 : (((M + 1 : Nat) : Int) == 0) = false := beq_eq_false_iff_ne.2 (by omega)
  have e1 : ((M + 1 : Nat) : Int) - 1 = M := by omega
  have e2 : (M : Int) ≤ 299 := by omega
  have e3 : (0 : Int) ≤ M := by omega
  have e4 : (M : Int) ≤ (cap : Int) := by omega
  clear hM
  go_enter Try.func51, Try.ntmps51
  go_wp2_with fail
  refine bodyPost_ret (v := .tuple #[obv k x n a l s, .int .i64 0]) (by simp [results, Try.results51, go_sem]) rfl ?_
  have hgp : ¬ g = p := fun e => hne (by rw [e]; rfl)
  have key : ∀ Z : World, Fr (fun c => c = p) W Z → Z.cell? ⟨p, 0, none⟩ = some (.slice (some ⟨g, 0, none⟩) L.length cap) → Z.frozen? ⟨p, 0, none⟩ = false → (∃ v', StkV base p v' L Z ∧ v'.ownBlock = (Value.slice (some ⟨g, 0, none⟩) (L.length + 1) cap).ownBlock) ∧ Fr (fun c => c = p) W Z :=
    fun Z hFF hc hf => ⟨⟨.slice (some ⟨g, 0, none⟩) L.length cap, ⟨hc, hf, own_fr (own_shrink hown L.length (by have := HM.out; omega) _ (by simp [Pl.flat_append, Pl.flat_len])) hFF (fun g2 q h => hgp ((Option.some.inj q).trans h)), hne, Nat.lt_of_lt_of_le hp hFF.2.2.1⟩, rfl⟩, hFF⟩
  refine ⟨rfl, key _ ?_ ?_ ?_⟩
  · exact ((Fr.setCell (fun c => c = p) W ⟨p, 0, none⟩ _ rfl).trans (Fr.alloc _ _ _)).trans (Fr.alloc _ _ _)
  · rw [← HM.out, World.cell?_alloc_past _ _ _ (by simp; omega), World.cell?_alloc_past _ _ _ (by simp; omega)]
    exact World.cell?_setCell_same' _ _ _ (by rw [h0]; rfl)
  · rw [frozen?_alloc_cells, frozen?_alloc_cells]
    simpa using h1

set_option maxHeartbeats 1000000 in
theorem rpop_none (base p : Nat) (v : Value) (W : World) (hS : StkV base p v [] W) :
    Calls Try.prog 51 #[.pointer (some ⟨p, 0, none⟩)] W fun e w' => e = .returned (.tuple #[obv 0 false 0 0 0 ⟨#[]⟩, .int .i64 7]) ∧ Grown W w' := by
  obtain ⟨ao, cap, rfl⟩ := hS.slice
  obtain ⟨h0, h1, hown, hne, hp⟩ := id hS
  have h0 : W.cell? ⟨p, 0, none⟩ = some (.slice ao 0 cap) := h0
  have c0 : ∀ o t, (W.alloc (.cells o t)).cell? ⟨p, 0, none⟩ = some (.slice ao 0 cap) := fun o t => by rw [World.cell?_alloc_past _ _ _ hp]; exact h0
  clear hS hown hne
  go_enter Try.func51, Try.ntmps51
  go_wp2_with fail
  refine bodyPost_ret (v := .tuple #[obv 0 false 0 0 0 ⟨#[]⟩, .int .i64 7]) (by simp [results, Try.results51, go_sem]) rfl ⟨rfl, by (repeat (first | exact Grown.refl _ | assumption | apply Grown.drew | apply Grown.alloc | (refine Grown.setCell ?_ (by simp) _)))⟩
end Go.Proofs.Ytenmbkngkabonaa
