/- The walk of (*stack.Stack).Become. -/
import Derived.Test.YtenmbkngkabonaaT13
namespace Go.Proofs.Ytenmbkngkabonaa
set_option linter.unusedVariables false
open Go.RowKit

def Pl.mayO (o : Pl.Ob) : Prop := Pl.may o.1 o.2.2.1 o.2.2.2.1 o.2.2.2.2.1 o.2.2.2.2.2

theorem RowV.src {W : World} {ao : Option Addr} {m cap : Nat} {L : List Pl.Ob} (h : RowV W (.slice ao m cap) L) : (ao = none → L.length = 0) ∧ ∀ ad, ao = some ad → ∀ j u, (Pl.flat L)[j]? = some u → W.cell? (ad.add j) = some u := by
  obtain ⟨ao2, cap2, hv, h⟩ := h
  injection hv with q1 q2 q3
  subst q1
  rcases h with rfl | ⟨g, o, rfl, hg, h⟩
  · exact ⟨fun _ => rfl, fun ad _ j u hu => by simp [Pl.flat] at hu⟩
  · refine ⟨fun q => (by cases q), fun ad q j u hu => ?_⟩
    cases q
    rw [show (⟨g, o, none⟩ : Addr).add j = ⟨g, o + j, none⟩ from by simp [Addr.add]]
    exact h j u hu

set_option maxHeartbeats 2000000 in
set_option maxRecDepth 100000 in
theorem become_bad (p : Nat) (v : Value) (L : List Pl.Ob) (hlen : L.length ≤ 300) (j : Nat) (o : Pl.Ob) (hj : L[j]? = some o) (ho : ¬ Pl.mayO o) (W : World) (hR : RowV W v L) :
    Calls Try.prog 43 #[.pointer (some ⟨p, 0, none⟩), v] W fun e w' => e = .returned (.int .i64 1) ∧ Grown W w' := by
  obtain ⟨ao, cap, rfl, -⟩ := id hR
  have HR := Lib.hid hR
  have hjl := (List.getElem?_eq_some_iff.1 hj).1
  obtain ⟨M, hM⟩ : ∃ M, M = L.length := ⟨_, rfl⟩
  have HM := Lib.hid hM
  have HJ := Lib.hid hj
  have HO := Lib.hid ho
  rw [← hM] at hlen hjl
  rw [← hM]
  clear hR hM hj ho
  go_enter Try.func43, Try.ntmps43
  go_wp2_with fail
  go_loopw [11] (fun i wr => ∃ k : Nat, i = .int .i64 (k : Int) ∧ k ≤ j ∧ Grown W wr) (fun i _ => ((M : Int) - intOf i).toNat)
  case atStart => exact ⟨0, rfl, by omega, Grown.refl W⟩
  case round =>
    obtain ⟨k, rfl, hk, g1⟩ := hrel
    obtain ⟨⟨kk, x, n, a, l, s⟩, hq⟩ : ∃ q, L[k]? = some q := ⟨_, List.getElem?_eq_getElem (by have := HM.out; omega)⟩
    obtain ⟨ga, oa, ca, hva, hga, a0, a1, a2, a3, a4, a5⟩ := (HR.out.grown g1).at k _ hq
    injection hva with q1 q2 q3
    subst q1
    clear q2 q3
    have HQ := Lib.hid hq
    clear hq
    have hkM : (k : Int) < (M : Int) := by omega
    by_cases hm : Pl.may kk n a l s
    · have CM := Lib.hid (fun W => may_yes kk x n a l s hm W)
      have hkj : k < j := by
        rcases Nat.lt_or_ge k j with h | h
        · exact h
        · obtain rfl : k = j := by omega
          have := HQ.out
          rw [HJ.out] at this
          injection this with this
          exact absurd (by rw [this]; exact hm) HO.out
      clear hm
      go_wp2_with fail
      refine (CM.out _).mono ?_
      rintro e w1 ⟨rfl, g2⟩
      go_wp2_with fail
      exact ⟨⟨k + 1, by simp, by omega, grown_trans (g1.alloc _ _) g2⟩, by simp [intOf] <;> omega⟩
    · have CM := Lib.hid (fun W => may_no kk x n a l s hm W)
      clear hm
      go_wp2_with fail
      refine (CM.out _).mono ?_
      rintro e w1 ⟨rfl, g2⟩
      go_wp2_with fail
      go_ret
      exact ⟨rfl, grown_trans (g1.alloc _ _) g2⟩

set_option maxHeartbeats 2000000 in
set_option maxRecDepth 100000 in
theorem become_over (base p : Nat) (v v0 : Value) (L : List Pl.Ob) (hlen : 200 < L.length ∧ L.length ≤ 400) (hall : ∀ (j : Nat) (o : Pl.Ob), L[j]? = some o → Pl.mayO o) (W : World) (hR : RowV W v L) (h0 : W.cell? ⟨p, 0, none⟩ = some v0) (h1 : W.frozen? ⟨p, 0, none⟩ = false) (hp : p < W.heap.size) (hb : base ≤ W.heap.size) :
    Calls Try.prog 43 #[.pointer (some ⟨p, 0, none⟩), v] W fun e w' => e = .returned (.int .i64 8) ∧ Grown W w' := by
  obtain ⟨i0, hi, hz0, hz1, hz2⟩ := info_parts Try.objInfo
  obtain ⟨ao, cap, rfl, -⟩ := id hR
  have HR := Lib.hid hR
  obtain ⟨M, hM⟩ : ∃ M, M = L.length := ⟨_, rfl⟩
  have HM := Lib.hid hM
  have HA := Lib.hid hall
  have HFL : Hid ((Pl.flat L).length = M * 6) := Lib.hid (by rw [Pl.flat_len, hM])
  have HF := Lib.hid (Pl.flat_one L)
  rw [← hM] at hlen
  rw [← hM]
  clear hR hM hall
  go_enter Try.func43, Try.ntmps43
  go_wp2_with fail
  go_loopw [11] (fun i wr => ∃ k : Nat, i = .int .i64 (k : Int) ∧ k ≤ M ∧ Grown W wr) (fun i _ => ((M : Int) - intOf i).toNat)
  case atStart => exact ⟨0, rfl, by omega, Grown.refl W⟩
  case round =>
    obtain ⟨k, rfl, hk, g1⟩ := hrel
    rcases Nat.lt_or_eq_of_le hk with hkm | hkm
    · obtain ⟨⟨kk, x, n, a, l, s⟩, hq⟩ : ∃ q, L[k]? = some q := ⟨_, List.getElem?_eq_getElem (by have := HM.out; omega)⟩
      obtain ⟨ga, oa, ca, hva, hga, a0, a1, a2, a3, a4, a5⟩ := (HR.out.grown g1).at k _ hq
      injection hva with q1 q2 q3
      subst q1
      clear q2 q3
      have CM := Lib.hid (fun W => may_yes kk x n a l s (HA.out _ _ hq) W)
      clear hq
      have hkM : (k : Int) < (M : Int) := by omega
      go_wp2_with fail
      refine (CM.out _).mono ?_
      rintro e w1 ⟨rfl, g2⟩
      go_wp2_with fail
      exact ⟨⟨k + 1, by simp, by omega, grown_trans (g1.alloc _ _) g2⟩, by simp [intOf] <;> omega⟩
    · subst hkm
      have hsz := g1.2.2
      have f1 : wr.frozen? ⟨p, 0, none⟩ = false := by rw [g1.2.1]; exact h1
      have c1 := grown_cell g1 h0
      have HS1 := Lib.hid (HR.out.grown g1).src
      have hsz1 : W.heap.size ≤ wr.heap.size := hsz
      go_wp2_with fail
      go_ret
      exact ⟨rfl, g1⟩

set_option maxHeartbeats 2000000 in
set_option maxRecDepth 100000 in
theorem become_ok (base p : Nat) (v v0 : Value) (L : List Pl.Ob) (hlen : L.length ≤ 200) (hall : ∀ (j : Nat) (o : Pl.Ob), L[j]? = some o → Pl.mayO o) (W : World) (hR : RowV W v L) (h0 : W.cell? ⟨p, 0, none⟩ = some v0) (h1 : W.frozen? ⟨p, 0, none⟩ = false) (hp : p < W.heap.size) (hb : base ≤ W.heap.size) :
    Calls Try.prog 43 #[.pointer (some ⟨p, 0, none⟩), v] W fun e w' => e = .returned (.int .i64 0) ∧
      (∃ v', StkV base p v' L w' ∧ ∀ g, v'.ownBlock = some g → W.heap.size ≤ g) ∧ Fr (fun c => c = p) W w' := by
  obtain ⟨i0, hi, hz0, hz1, hz2⟩ := info_parts Try.objInfo
  obtain ⟨ao, cap, rfl, -⟩ := id hR
  have HR := Lib.hid hR
  obtain ⟨M, hM⟩ : ∃ M, M = L.length := ⟨_, rfl⟩
  have HM := Lib.hid hM
  have HA := Lib.hid hall
  have HFL : Hid ((Pl.flat L).length = M * 6) := Lib.hid (by rw [Pl.flat_len, hM])
  have HF := Lib.hid (Pl.flat_one L)
  rw [← hM] at hlen
  rw [← hM]
  clear hR hM hall
  go_enter Try.func43, Try.ntmps43
  go_wp2_with fail
  go_loopw [11] (fun i wr => ∃ k : Nat, i = .int .i64 (k : Int) ∧ k ≤ M ∧ Grown W wr) (fun i _ => ((M : Int) - intOf i).toNat)
  case atStart => exact ⟨0, rfl, by omega, Grown.refl W⟩
  case round =>
    obtain ⟨k, rfl, hk, g1⟩ := hrel
    rcases Nat.lt_or_eq_of_le hk with hkm | hkm
    · obtain ⟨⟨kk, x, n, a, l, s⟩, hq⟩ : ∃ q, L[k]? = some q := ⟨_, List.getElem?_eq_getElem (by have := HM.out; omega)⟩
      obtain ⟨ga, oa, ca, hva, hga, a0, a1, a2, a3, a4, a5⟩ := (HR.out.grown g1).at k _ hq
      injection hva with q1 q2 q3
      subst q1
      clear q2 q3
      have CM := Lib.hid (fun W => may_yes kk x n a l s (HA.out _ _ hq) W)
      clear hq
      have hkM : (k : Int) < (M : Int) := by omega
      go_wp2_with fail
      refine (CM.out _).mono ?_
      rintro e w1 ⟨rfl, g2⟩
      go_wp2_with fail
      exact ⟨⟨k + 1, by simp, by omega, grown_trans (g1.alloc _ _) g2⟩, by simp [intOf] <;> omega⟩
    · subst hkm
      have hsz := g1.2.2
      have f1 : wr.frozen? ⟨p, 0, none⟩ = false := by rw [g1.2.1]; exact h1
      have c1 := grown_cell g1 h0
      have HS1 := Lib.hid (HR.out.grown g1).src
      have hsz1 : W.heap.size ≤ wr.heap.size := hsz
      go_wp2_with (at_builtin; refine wpList_append_all _ base 32 38 i0 _ 6 56 Try.underlying32 hi hz0 hz1 hz2 rfl (by decide) (.slice none 0 0) 0 [] (World.ownsRow_nil _ _ _ _) ao k cap (Pl.flat L) (by rw [HM.out]; exact HS1.out.1) HFL.out HS1.out.2 HF.out (by unfold maxLen; omega) (by omega) (by omega) (hgd := rfl) (.const (.slice none 0 0)) (.tmp 23) rfl (by simp [Act.eval]) (by simp [Act.eval]) ?hnext)
      case hnext =>
        intro v' w' hown' hgr hbl
        obtain ⟨ao', cap', rfl⟩ := own_slice hown'
        have hne' : ∀ g, (Value.slice ao' k cap').ownBlock = some g → W.heap.size ≤ g := fun g q => (hbl g q).elim (fun h => by simp [Value.ownBlock] at h) (fun h => by omega)
        have Hown := Lib.hid hown'
        have Hgr := Lib.hid hgr
        have Hne := Lib.hid hne'
        have cp := Hgr.out.cell c1 (by simp [Value.ownBlock])
        have fp : w'.frozen? ⟨p, 0, none⟩ = false := (World.frozen?_of_block (a := ⟨p, 0, none⟩) (Hgr.out.block p (by omega) (by simp [Value.ownBlock]))).trans f1
        clear hown' hgr hbl hne'
        go_wp2_with fail
        go_ret
        have hF : Fr (fun c => c = p) W (w'.setCell ⟨p, 0, none⟩ (.slice ao' k cap')) :=
          ((Fr.of_grown _ g1).trans (Fr.grown _ Hgr.out (fun k q => (by simp [Value.ownBlock] at q)))).trans (Fr.setCell _ _ _ _ rfl)
        refine ⟨rfl, ⟨.slice ao' k cap', ⟨World.cell?_setCell_same' _ _ _ (by rw [cp]; rfl), by simpa using fp, ?_, fun q => by have := Hne.out p q; omega, Nat.lt_of_lt_of_le hp hF.2.2.1⟩, fun g q => Hne.out g q⟩, hF⟩
        have h := Hown.out
        rw [← HM.out]
        exact own_fr (P := fun c => c = p) h (Fr.setCell _ _ _ _ rfl) (fun g q h => by have := Hne.out g q; omega)
end Go.Proofs.Ytenmbkngkabonaa
