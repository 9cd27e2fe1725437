/- The walk of the reference's Dup. -/
import Derived.Test.YtenmbkngkabonaaT25
namespace Go.Proofs.Ytenmbkngkabonaa
set_option linter.unusedVariables false
open Go.RowKit

set_option maxRecDepth 100000 in
theorem rdup_low (base p : Nat) (v : Value) (L : List Pl.Ob) (n : Int) (hn : n < 0) (W : World) (hS : StkV base p v L W) :
    Calls Try.prog 52 #[.pointer (some ⟨p, 0, none⟩), .int .i64 n] W fun e w' => e = .returned (.int .i64 2) ∧ Grown W w' := by
  clear hS
  go_enter Try.func52, Try.ntmps52
  go_wp2_with fail
  go_ret
  exact ⟨rfl, Grown.refl W⟩
set_option maxRecDepth 100000 in
theorem rdup_under (base p : Nat) (v : Value) (L : List Pl.Ob) (n : Int) (hn : (L.length : Int) < n) (W : World) (hS : StkV base p v L W) :
    Calls Try.prog 52 #[.pointer (some ⟨p, 0, none⟩), .int .i64 n] W fun e w' => e = .returned (.int .i64 7) ∧ Grown W w' := by
  obtain ⟨ao, cap, rfl⟩ := hS.slice
  have h0 := hS.1
  clear hS
  have h1 : ¬ n < 0 := by omega
  go_enter Try.func52, Try.ntmps52
  go_wp2_with fail
  go_ret
  exact ⟨rfl, Grown.refl W⟩
set_option maxRecDepth 100000 in
theorem rdup_over (base p : Nat) (v : Value) (L : List Pl.Ob) (n : Nat) (hn : n ≤ L.length) (hlen : L.length ≤ 300) (ho : 200 < L.length + n) (W : World) (hS : StkV base p v L W) :
    Calls Try.prog 52 #[.pointer (some ⟨p, 0, none⟩), .int .i64 (n : Int)] W fun e w' => e = .returned (.int .i64 8) ∧ Grown W w' := by
  obtain ⟨ao, cap, rfl⟩ := hS.slice
  have h0 := hS.1
  clear hS
  have e0 : (n : Int) ≤ L.length := by omega
  have e1 : (L.length : Int) ≤ 300 := by omega
  have e2 : (0 : Int) ≤ n := by omega
  have e3 : (200 : Int) < (L.length : Int) + n := by omega
  go_enter Try.func52, Try.ntmps52
  go_wp2_with fail
  go_ret
  exact ⟨rfl, Grown.refl W⟩

set_option maxHeartbeats 4000000 in
set_option maxRecDepth 100000 in
/-- with the source of the second append at hand -/
theorem rdup_core (base p : Nat) (ao ao2 : Option Addr) (cap cap2 M n E : Nat) (L D : List Pl.Ob) (hM : L.length = M) (hD : D.length = n) (hE : M = E + n) (ho : M + n ≤ 200)
    (hsl : (ao = none ∧ ao2 = none ∧ M = cap ∧ n = cap2 ∧ M = 0) ∨ (∃ g, ao = some ⟨g, 0, none⟩ ∧ ¬ cap = E ∧ ao2 = some ⟨g, E * 6, none⟩ ∧ cap2 = cap - E) ∨ (∃ g, ao = some ⟨g, 0, none⟩ ∧ cap = E ∧ ao2 = some ⟨g, 0, none⟩ ∧ cap2 = 0))
    (W : World) (hS : StkV base p (.slice ao M cap) L W) (hb : base ≤ W.heap.size) (hcap : M ≤ cap)
    (ha1 : ao2 = none → n = 0) (ha2 : ∀ w', Fr (fun _ => False) W w' → ∀ ad, ao2 = some ad → ∀ j u, (Pl.flat D)[j]? = some u → w'.cell? (ad.add j) = some u) :
    Calls Try.prog 52 #[.pointer (some ⟨p, 0, none⟩), .int .i64 (n : Int)] W fun e w' => e = .returned (.int .i64 0) ∧
      (∃ v', StkV base p v' (L ++ D) w' ∧ ∀ g, v'.ownBlock = some g → W.heap.size ≤ g) ∧ Fr (fun c => c = p) W w' := by
  obtain ⟨i0, hi, hz0, hz1, hz2⟩ := info_parts Try.objInfo
  obtain ⟨h0, h1, hown, hne, hp⟩ := id hS
  rw [hM] at hown
  have HM := Lib.hid hM
  have HD := Lib.hid hD
  have HFL : Hid ((Pl.flat L).length = M * 6) := Lib.hid (by rw [Pl.flat_len, hM])
  have HFD : Hid ((Pl.flat D).length = n * 6) := Lib.hid (by rw [Pl.flat_len, hD])
  have HF := Lib.hid (Pl.flat_one L)
  have HF2 := Lib.hid (Pl.flat_one D)
  have HO := Lib.hid (own_src hown)
  have HA1 := Lib.hid ha1
  have HA2 := Lib.hid ha2
  have e1 : (M : Int) ≤ 200 := by omega
  have e2 : (0 : Int) ≤ M := by omega
  have e3 : (M : Int) + (n : Int) ≤ 200 := by omega
  have e4 : (n : Int) ≤ M := by omega
  have e5 : (0 : Int) ≤ n := by omega
  have e6 : (M : Int) ≤ (cap : Int) := by omega
  have e7 : (M : Int) - (n : Int) = (E : Int) := by omega
  have e8 : (E : Int) ≤ (M : Int) := by omega
  have e9 : M - E = n := by omega
  have e10 : (0 : Int) ≤ (E : Int) := by omega
  have wE : IntKind.i64.wrap (E : Int) = E := IntWalk.i64_in _ (by omega)
  have h63 : M + n ≤ maxLen := by unfold maxLen; omega
  have H63 := Lib.hid h63
  have HH : Hid (∀ (w1 : World) (v1 : Value), W.drew.grownBy w1 (Value.slice none 0 0).ownBlock → (∀ g, v1.ownBlock = some g → (Value.slice none 0 0).ownBlock = some g ∨ W.drew.heap.size ≤ g) → w1.cell? ⟨p, 0, none⟩ = some (.slice ao M cap) ∧ W.heap.size ≤ w1.heap.size ∧ base ≤ w1.heap.size ∧ w1.frozen? ⟨p, 0, none⟩ = false ∧ Fr (fun _ => False) W w1 ∧ ∀ g, v1.ownBlock = some g → W.heap.size ≤ g) := Lib.hid (fun w1 v1 hgr hbl => by
    have hF : Fr (fun _ => False) W w1 := (Fr.drew (Fr.refl _ W)).trans (Fr.grown _ hgr (fun k q => by simp [Value.ownBlock] at q))
    refine ⟨(hF.cell (a := ⟨p, 0, none⟩) hp (fun f => f)).trans h0, hF.2.2.1, Nat.le_trans hb hF.2.2.1, (hF.frozen (a := ⟨p, 0, none⟩) hp (fun f => f)).trans h1, hF, fun g q => ?_⟩
    rcases hbl g q with h | h
    · simp [Value.ownBlock] at h
    · exact h)
  have HH2 : Hid (∀ (w1 w2 : World) (v1 v2 : Value), Fr (fun _ => False) W w1 → (∀ g, v1.ownBlock = some g → W.heap.size ≤ g) → w1.grownBy w2 v1.ownBlock → (∀ g, v2.ownBlock = some g → v1.ownBlock = some g ∨ w1.heap.size ≤ g) → w2.cell? ⟨p, 0, none⟩ = some (.slice ao M cap) ∧ w2.frozen? ⟨p, 0, none⟩ = false ∧ Fr (fun _ => False) W w2 ∧ ∀ g, v2.ownBlock = some g → W.heap.size ≤ g) := Lib.hid (fun w1 w2 v1 v2 hF hn1 hgr hbl => by
    have hF2 : Fr (fun _ => False) W w2 := hF.trans' (Fr.grown (fun c => v1.ownBlock = some c) hgr (fun k q => q)) (fun i q => .inr (hn1 i q))
    refine ⟨(hF2.cell (a := ⟨p, 0, none⟩) hp (fun f => f)).trans h0, (hF2.frozen (a := ⟨p, 0, none⟩) hp (fun f => f)).trans h1, hF2, fun g q => ?_⟩
    rcases hbl g q with h | h
    · exact hn1 g h
    · have := hF.2.2.1
      omega)
  have HPP := Lib.hid hp
  have END : Hid (∀ (w2 : World) (a2 : Option Addr) (c2 : Nat), w2.ownsRow base 38 6 (.slice a2 (M + n) c2) (M + n) (Pl.flat L ++ Pl.flat D) → w2.cell? ⟨p, 0, none⟩ = some (.slice ao M cap) → w2.frozen? ⟨p, 0, none⟩ = false → Fr (fun _ => False) W w2 → (∀ g, (Value.slice a2 (M + n) c2).ownBlock = some g → W.heap.size ≤ g) →
      (∃ v', StkV base p v' (L ++ D) (w2.setCell ⟨p, 0, none⟩ (.slice a2 (M + n) c2)) ∧ ∀ g, v'.ownBlock = some g → W.heap.size ≤ g) ∧ Fr (fun c => c = p) W (w2.setCell ⟨p, 0, none⟩ (.slice a2 (M + n) c2))) := Lib.hid (fun w2 a2 c2 hown2 hc hf hF hn => by
    have hFF : Fr (fun c => c = p) W (w2.setCell ⟨p, 0, none⟩ (.slice a2 (M + n) c2)) := (hF.weaken (fun c f => f.elim)).trans (Fr.setCell _ _ _ _ rfl)
    refine ⟨⟨_, ⟨World.cell?_setCell_same' _ _ _ (by rw [hc]; rfl), by simpa using hf, ?_, fun q => by have := hn p q; omega, Nat.lt_of_lt_of_le hp hFF.2.2.1⟩, hn⟩, hFF⟩
    rw [Pl.flat_append, List.length_append, HM.out, HD.out]
    exact own_fr (P := fun c => c = p) hown2 (Fr.setCell _ _ _ _ rfl) (fun g q h => by have := hn g q; omega))
  clear hM hD ha1 ha2 hown hne hE h63
  rcases hsl with ⟨rfl, rfl, rfl, rfl, hM0⟩ | ⟨g, rfl, hcE, rfl, rfl⟩ | ⟨g, rfl, hcE, rfl, rfl⟩
  · have HM0 := Lib.hid hM0
    clear hM0
    go_enter Try.func52, Try.ntmps52
    go_wp2_with fail
    go_region_law first | (refine step_append_all W.drew base 32 38 i0 _ 6 56 Try.underlying32 hi hz0 hz1 hz2 rfl (by decide) (.slice none 0 0) 0 [] (World.ownsRow_nil _ _ _ _) none M M (Pl.flat L) (fun _ => HM0.out) HFL.out HO.out.2 HF.out (by unfold maxLen; omega) (by omega) hb rfl (.const (.slice none 0 0)) (.tmp 29) rfl (by simp [Act.eval]) (by simp [Act.eval, Act.put]) ?_; intro v1 w1 hown1 hgr1 hbl1; rw [Nat.zero_add, List.nil_append] at hown1; obtain ⟨a1, c1, rfl⟩ := own_slice hown1; obtain ⟨cp1, hs1, hb1, fz1, hF1, hn1⟩ := HH.out w1 _ hgr1 hbl1; have Hown1 := Lib.hid hown1; have HF1 := Lib.hid hF1; have Hn1 := Lib.hid hn1; clear hown1 hgr1 hbl1 hF1 hn1) | (refine step_append_all w1 base 32 38 i0 _ 6 56 Try.underlying32 hi hz0 hz1 hz2 rfl (by decide) _ M (Pl.flat L) Hown1.out none n n (Pl.flat D) (fun _ => HA1.out trivial) HFD.out (HA2.out w1 HF1.out) HF2.out H63.out (by omega) hb1 rfl (.tmp 30) (.tmp 42) rfl (by simp [Act.eval, Act.put]) (by simp [Act.eval, Act.put]) ?_; intro v2 w2 hown2 hgr2 hbl2; obtain ⟨a2, c2, rfl⟩ := own_slice hown2; obtain ⟨cp2, fz2, hF2, hn2⟩ := HH2.out w1 w2 _ _ HF1.out Hn1.out hgr2 hbl2; have HEND := Lib.hid (END.out w2 a2 c2 hown2 cp2 fz2 hF2 hn2); clear hown2 hgr2 hbl2 hF2 hn2)
    all_goals
      go_wp2_with fail
      go_ret
      exact ⟨rfl, HEND.out⟩
  · go_enter Try.func52, Try.ntmps52
    go_wp2_with fail
    go_region_law first | (refine step_append_all W.drew base 32 38 i0 _ 6 56 Try.underlying32 hi hz0 hz1 hz2 rfl (by decide) (.slice none 0 0) 0 [] (World.ownsRow_nil _ _ _ _) (some ⟨g, 0, none⟩) M cap (Pl.flat L) (by intro q; cases q) HFL.out HO.out.2 HF.out (by unfold maxLen; omega) (by omega) hb rfl (.const (.slice none 0 0)) (.tmp 29) rfl (by simp [Act.eval]) (by simp [Act.eval, Act.put]) ?_; intro v1 w1 hown1 hgr1 hbl1; rw [Nat.zero_add, List.nil_append] at hown1; obtain ⟨a1, c1, rfl⟩ := own_slice hown1; obtain ⟨cp1, hs1, hb1, fz1, hF1, hn1⟩ := HH.out w1 _ hgr1 hbl1; have Hown1 := Lib.hid hown1; have HF1 := Lib.hid hF1; have Hn1 := Lib.hid hn1; clear hown1 hgr1 hbl1 hF1 hn1) | (refine step_append_all w1 base 32 38 i0 _ 6 56 Try.underlying32 hi hz0 hz1 hz2 rfl (by decide) _ M (Pl.flat L) Hown1.out (some ⟨g, E * 6, none⟩) n (cap - E) (Pl.flat D) HA1.out HFD.out (HA2.out w1 HF1.out) HF2.out H63.out (by omega) hb1 rfl (.tmp 30) (.tmp 42) rfl (by simp [Act.eval, Act.put]) (by simp [Act.eval, Act.put]) ?_; intro v2 w2 hown2 hgr2 hbl2; obtain ⟨a2, c2, rfl⟩ := own_slice hown2; obtain ⟨cp2, fz2, hF2, hn2⟩ := HH2.out w1 w2 _ _ HF1.out Hn1.out hgr2 hbl2; have HEND := Lib.hid (END.out w2 a2 c2 hown2 cp2 fz2 hF2 hn2); clear hown2 hgr2 hbl2 hF2 hn2)
    all_goals
      go_wp2_with fail
      go_ret
      exact ⟨rfl, HEND.out⟩
  · have hcE' : E = cap := hcE.symm
    clear hcE
    subst hcE'
    go_enter Try.func52, Try.ntmps52
    go_wp2_with fail
    go_region_law first | (refine step_append_all W.drew base 32 38 i0 _ 6 56 Try.underlying32 hi hz0 hz1 hz2 rfl (by decide) (.slice none 0 0) 0 [] (World.ownsRow_nil _ _ _ _) (some ⟨g, 0, none⟩) M E (Pl.flat L) (by intro q; cases q) HFL.out HO.out.2 HF.out (by unfold maxLen; omega) (by omega) hb rfl (.const (.slice none 0 0)) (.tmp 29) rfl (by simp [Act.eval]) (by simp [Act.eval, Act.put]) ?_; intro v1 w1 hown1 hgr1 hbl1; rw [Nat.zero_add, List.nil_append] at hown1; obtain ⟨a1, c1, rfl⟩ := own_slice hown1; obtain ⟨cp1, hs1, hb1, fz1, hF1, hn1⟩ := HH.out w1 _ hgr1 hbl1; have Hown1 := Lib.hid hown1; have HF1 := Lib.hid hF1; have Hn1 := Lib.hid hn1; clear hown1 hgr1 hbl1 hF1 hn1) | (refine step_append_all w1 base 32 38 i0 _ 6 56 Try.underlying32 hi hz0 hz1 hz2 rfl (by decide) _ M (Pl.flat L) Hown1.out (some ⟨g, 0, none⟩) n 0 (Pl.flat D) HA1.out HFD.out (HA2.out w1 HF1.out) HF2.out H63.out (by omega) hb1 rfl (.tmp 30) (.tmp 42) rfl (by simp [Act.eval, Act.put]) (by simp [Act.eval, Act.put]) ?_; intro v2 w2 hown2 hgr2 hbl2; obtain ⟨a2, c2, rfl⟩ := own_slice hown2; obtain ⟨cp2, fz2, hF2, hn2⟩ := HH2.out w1 w2 _ _ HF1.out Hn1.out hgr2 hbl2; have HEND := Lib.hid (END.out w2 a2 c2 hown2 cp2 fz2 hF2 hn2); clear hown2 hgr2 hbl2 hF2 hn2)
    all_goals
      go_wp2_with fail
      go_ret
      exact ⟨rfl, HEND.out⟩
end Go.Proofs.Ytenmbkngkabonaa
