/- The walk of the reference's Push. -/
import Derived.Test.YtenmbkngkabonaaT25
namespace Go.Proofs.Ytenmbkngkabonaa
set_option linter.unusedVariables false
open Go.RowKit

set_option maxHeartbeats 1000000 in
set_option maxRecDepth 100000 in
theorem rpush_bad (base p : Nat) (v : Value) (L : List Pl.Ob) (k : Int) (x : Bool) (n a l : Int) (s : ByteArray) (hm : ¬ Pl.may k n a l s) (W : World) (hS : StkV base p v L W) :
    Calls Try.prog 50 #[.pointer (some ⟨p, 0, none⟩), obv k x n a l s] W fun e w' => e = .returned (.int .i64 1) ∧ Grown W w' := by
  have CM := Lib.hid (fun W => rmay_any k x n a l s false (by simp [hm]) W)
  clear hm hS
  go_enter Try.func50, Try.ntmps50
  go_wp2_with fail
  refine (CM.out _).mono ?_
  rintro e w1 ⟨rfl, g1⟩
  go_wp2_with fail
  go_ret
  exact ⟨rfl, grown_trans ((Grown.refl W).alloc _ _) g1⟩
set_option maxHeartbeats 1000000 in
set_option maxRecDepth 100000 in
theorem rpush_full (base p : Nat) (v : Value) (L : List Pl.Ob) (k : Int) (x : Bool) (n a l : Int) (s : ByteArray) (hm : Pl.may k n a l s) (hn : 200 ≤ L.length) (W : World) (hS : StkV base p v L W) :
    Calls Try.prog 50 #[.pointer (some ⟨p, 0, none⟩), obv k x n a l s] W fun e w' => e = .returned (.int .i64 8) ∧ Grown W w' := by
  have CM := Lib.hid (fun W => rmay_any k x n a l s true (by simp [hm]) W)
  obtain ⟨ao, cap, rfl⟩ := hS.slice
  have h0 := hS.1
  have hp := hS.2.2.2.2
  have h200 : (200 : Int) ≤ (L.length : Int) := by omega
  clear hm hS
  go_enter Try.func50, Try.ntmps50
  go_wp2_with fail
  refine (CM.out _).mono ?_
  rintro e w1 ⟨rfl, g1⟩
  have c1 : w1.cell? ⟨p, 0, none⟩ = some (.slice ao L.length cap) := grown_cell (grown_trans ((Grown.refl W).alloc _ _) g1) h0
  go_wp2_with fail
  go_ret
  exact ⟨rfl, grown_trans ((Grown.refl W).alloc _ _) g1⟩

set_option maxHeartbeats 4000000 in
set_option maxRecDepth 100000 in
theorem rpush_ok (base p : Nat) (v : Value) (L : List Pl.Ob) (k : Int) (x : Bool) (n a l : Int) (s : ByteArray) (hm : Pl.may k n a l s) (hn : L.length < 200) (W : World) (hS : StkV base p v L W) (hb : base ≤ W.heap.size) :
    Calls Try.prog 50 #[.pointer (some ⟨p, 0, none⟩), obv k x n a l s] W fun e w' => e = .returned (.int .i64 0) ∧
      (∃ v', StkV base p v' (L ++ [(k, x, n, a, l, s)]) w' ∧ ∀ g, v'.ownBlock = some g → W.heap.size ≤ g) ∧ Fr (fun c => c = p) W w' := by
  obtain ⟨i0, hi, hz0, hz1, hz2⟩ := info_parts Try.objInfo
  have CM := Lib.hid (fun W => rmay_any k x n a l s true (by simp [hm]) W)
  have OB := Lib.hid (ObC.new W k x n a l s)
  obtain ⟨ao, cap, rfl⟩ := hS.slice
  have hS0 := hS
  obtain ⟨M, hM⟩ : ∃ M, M = L.length := ⟨_, rfl⟩
  have h0 := hS.1
  have hp := hS.2.2.2.2
  rw [← hM] at h0 hn
  have HS := Lib.hid hS0
  have HM := Lib.hid hM
  have HFL : Hid ((Pl.flat L).length = M * 6) := Lib.hid (by rw [Pl.flat_len, hM])
  have HF := Lib.hid (Pl.flat_one L)
  have hlen : (M : Int) < 200 := by omega
  clear hm hS hS0 hM
  go_enter Try.func50, Try.ntmps50
  go_wp2_with fail
  refine (CM.out _).mono ?_
  rintro e w1 ⟨rfl, g1⟩
  have gW := grown_trans ((Grown.refl W).alloc _ _) g1
  have c1 : w1.cell? ⟨p, 0, none⟩ = some (.slice ao M cap) := grown_cell gW h0
  obtain ⟨o0, o1, o2, o3, o4, o5⟩ := OB.out.grown g1
  have f1 : w1.frozen? ⟨p, 0, none⟩ = false := by rw [gW.2.1]; exact HS.out.2.1
  have GW := Lib.hid gW
  go_wp2_with fail
  have c2 : ∀ A t, (w1.alloc (.cells A t)).cell? ⟨p, 0, none⟩ = some (.slice ao M cap) := fun A t => by rw [World.cell?_alloc_past _ _ _ (Nat.lt_of_lt_of_le hp gW.2.2)]; exact c1
  have HSRC : Hid (∀ Z : World, Fr (fun _ => False) w1 Z → (∀ ad, ao = some ad → ∀ j u, (Pl.flat L)[j]? = some u → Z.cell? (ad.add j) = some u) ∧ base ≤ Z.heap.size) := Lib.hid (fun Z hZ => by
    have hF := (Fr.of_grown (fun _ => False) GW.out).trans hZ
    have ho := own_fr (P := fun _ => False) HS.out.2.2.1 hF (fun _ _ f => f)
    exact ⟨(own_src ho).2, Nat.le_trans hb hF.2.2.1⟩)
  have HN0 : Hid (ao = none → M = 0) := Lib.hid (by have := (own_src HS.out.2.2.1).1; intro q; have := this q; have := HM.out; omega)
  have HH : Hid (∀ (Z w2 : World) (v1 : Value), Fr (fun _ => False) w1 Z → Z.grownBy w2 (Value.slice none 0 0).ownBlock → (∀ g, v1.ownBlock = some g → (Value.slice none 0 0).ownBlock = some g ∨ Z.heap.size ≤ g) → w2.cell? ⟨p, 0, none⟩ = some (.slice ao M cap) ∧ w2.frozen? ⟨p, 0, none⟩ = false ∧ ObC W.heap.size k x n a l s w2 ∧ Fr (fun _ => False) w1 w2 ∧ ∀ g, v1.ownBlock = some g → w1.heap.size ≤ g) := Lib.hid (fun Z w2 v1 hZ hgr hbl => by
    have hF : Fr (fun _ => False) w1 w2 := hZ.trans (Fr.grown _ hgr (fun k q => by simp [Value.ownBlock] at q))
    have hp1 : p < w1.heap.size := Nat.lt_of_lt_of_le hp GW.out.2.2
    have hbx : W.heap.size < w1.heap.size := block_lt_of_cell o0
    have e : ∀ o, w2.cell? ⟨W.heap.size, o, none⟩ = w1.cell? ⟨W.heap.size, o, none⟩ := fun o => hF.cell (a := ⟨W.heap.size, o, none⟩) hbx (fun f => f)
    refine ⟨(hF.cell (a := ⟨p, 0, none⟩) hp1 (fun f => f)).trans c1, (hF.frozen (a := ⟨p, 0, none⟩) hp1 (fun f => f)).trans f1, ⟨(e 0).trans o0, (e 1).trans o1, (e 2).trans o2, (e 3).trans o3, (e 4).trans o4, (e 5).trans o5⟩, hF, fun g q => ?_⟩
    rcases hbl g q with h | h
    · simp [Value.ownBlock] at h
    · have := hZ.2.2.1
      omega)
  have KE : Hid (∀ (A : Array Value) (t : TypeId) (w2 : World), A.toList = Pl.oc (k, x, n, a, l, s) → (w1.drew.alloc (.cells A t)).grownBy w2 (Value.slice none 0 0).ownBlock → ∀ j u, (Pl.oc (k, x, n, a, l, s))[j]? = some u → w2.cell? ((⟨w1.heap.size, 0, none⟩ : Addr).add j) = some u) := Lib.hid (fun A t w2 hA hgr j u hu => by
    have h1 := alloc_cell w1.drew A t j u (by rw [hA]; exact hu)
    exact hgr.cell h1 (by simp [Value.ownBlock]))
  have END : Hid (∀ (cur w3 : World) (v1 : Value) (a2 : Option Addr) (c2 : Nat), Fr (fun _ => False) w1 cur → (∀ g, v1.ownBlock = some g → w1.heap.size ≤ g) → cur.grownBy w3 v1.ownBlock → (∀ g, (Value.slice a2 (M + 1) c2).ownBlock = some g → v1.ownBlock = some g ∨ cur.heap.size ≤ g) → w3.ownsRow base 38 6 (.slice a2 (M + 1) c2) (M + 1) (Pl.flat L ++ Pl.oc (k, x, n, a, l, s)) →
      w3.cell? ⟨p, 0, none⟩ = some (.slice ao M cap) ∧ w3.frozen? ⟨p, 0, none⟩ = false ∧ (∃ v', StkV base p v' (L ++ [(k, x, n, a, l, s)]) (w3.setCell ⟨p, 0, none⟩ (.slice a2 (M + 1) c2)) ∧ ∀ g, v'.ownBlock = some g → W.heap.size ≤ g) ∧ Fr (fun c => c = p) W (w3.setCell ⟨p, 0, none⟩ (.slice a2 (M + 1) c2))) := Lib.hid (fun cur w3 v1 a2 c2 hcur hn1 hgr hbl hown => by
    have hF1 : Fr (fun _ => False) w1 w3 := hcur.trans' (Fr.grown (fun c => v1.ownBlock = some c) hgr (fun k q => q)) (fun i q => .inr (hn1 i q))
    have hF := (Fr.of_grown (fun _ => False) GW.out).trans hF1
    have hc := (hF.cell (a := ⟨p, 0, none⟩) hp (fun f => f)).trans h0
    have hf := (hF.frozen (a := ⟨p, 0, none⟩) hp (fun f => f)).trans HS.out.2.1
    have hs1 := hcur.2.2.1
    have hs0 := GW.out.2.2
    have hn : ∀ g, (Value.slice a2 (M + 1) c2).ownBlock = some g → W.heap.size ≤ g := fun g q => by
      rcases hbl g q with h | h
      · exact Nat.le_trans hs0 (hn1 g h)
      · omega
    have hFF : Fr (fun c => c = p) W (w3.setCell ⟨p, 0, none⟩ (.slice a2 (M + 1) c2)) := (hF.weaken (fun c f => f.elim)).trans (Fr.setCell _ _ _ _ rfl)
    refine ⟨hc, hf, ⟨_, ⟨World.cell?_setCell_same' _ _ _ (by rw [hc]; rfl), by simpa using hf, ?_, fun q => by have := hn p q; omega, Nat.lt_of_lt_of_le hp hFF.2.2.1⟩, hn⟩, hFF⟩
    rw [Pl.flat_append, List.length_append, ← HM.out, List.length_singleton, Pl.flat, Pl.flat, List.append_nil]
    exact own_fr (P := fun c => c = p) hown (Fr.setCell _ _ _ _ rfl) (fun g q h => by have := hn g q; omega))
  have H1 : Hid (∀ u ∈ Pl.oc (k, x, n, a, l, s), u.oneCell' = true) := Lib.hid (by intro u hu; simp [Pl.oc] at hu; rcases hu with rfl | rfl | rfl | rfl | rfl | rfl <;> rfl)
  have HN := Lib.hid (fun (Z : World) (A : Array Value) (t : TypeId) (hA : A.toList = Pl.oc (k, x, n, a, l, s)) (j : Nat) (u : Value) (hu : (Pl.oc (k, x, n, a, l, s))[j]? = some u) => alloc_cell Z A t j u (by rw [hA]; exact hu))
  have F0 := Lib.hid (Fr.drew (Fr.refl (fun _ => False) w1))
  have hM63 : Hid (M + 1 ≤ maxLen) := Lib.hid (by unfold maxLen; omega)
  clear HS OB gW
  go_region_law first | (refine step_append_all _ base 32 38 i0 _ 6 56 Try.underlying32 hi hz0 hz1 hz2 rfl (by decide) (.slice none 0 0) 0 [] (World.ownsRow_nil _ _ _ _) ao M cap (Pl.flat L) HN0.out HFL.out (HSRC.out _ (by first | exact F0.out | exact F0.out.trans (Fr.alloc _ _ _))).1 HF.out (by unfold maxLen; omega) (by omega) (HSRC.out _ (by first | exact F0.out | exact F0.out.trans (Fr.alloc _ _ _))).2 rfl (.const (.slice none 0 0)) (.tmp 20) rfl (by simp [Act.eval]) (by simp [Act.eval]) ?_; intro v1 w2 hown1 hgr1 hbl1; rw [Nat.zero_add, List.nil_append] at hown1; obtain ⟨a1, d1, rfl⟩ := own_slice hown1; obtain ⟨cp1, fz1, ⟨q0, q1, q2, q3, q4, q5⟩, hF1, hn1⟩ := HH.out _ w2 _ (by first | exact F0.out | exact F0.out.trans (Fr.alloc _ _ _)) hgr1 hbl1; have Hown1 := Lib.hid hown1; have HF1 := Lib.hid hF1; have Hn1 := Lib.hid hn1; have Hgr1 := Lib.hid hgr1; clear hown1 hgr1 hbl1 hF1 hn1) | (refine step_append_all _ base 32 38 i0 _ 6 56 Try.underlying32 hi hz0 hz1 hz2 rfl (by decide) _ M (Pl.flat L) (own_fr (P := fun _ => False) Hown1.out (Fr.alloc _ _ _) (fun _ _ f => f)) (some ⟨w2.heap.size, 0, none⟩) 1 1 (Pl.oc (k, x, n, a, l, s)) (by intro q; cases q) rfl (by intro ad q; cases q; exact HN.out w2 _ _ rfl) H1.out hM63.out (by omega) (HSRC.out _ (HF1.out.trans (Fr.alloc _ _ _))).2 rfl (.tmp 21) (.tmp 23) rfl (by simp [Act.eval]) (by simp [Act.eval]) ?_; intro v2 w3 hown2 hgr2 hbl2; obtain ⟨a2, d2, rfl⟩ := own_slice hown2; obtain ⟨cp2, fz2, hend⟩ := END.out _ w3 _ a2 d2 (HF1.out.trans (Fr.alloc _ _ _)) Hn1.out hgr2 hbl2 hown2; have HEND := Lib.hid hend; clear hown2 hgr2 hbl2 hend) | (refine step_append_all w2 base 32 38 i0 _ 6 56 Try.underlying32 hi hz0 hz1 hz2 rfl (by decide) _ M (Pl.flat L) Hown1.out (some ⟨w1.heap.size, 0, none⟩) 1 1 (Pl.oc (k, x, n, a, l, s)) (by intro q; cases q) rfl (by intro ad q; cases q; exact KE.out _ _ w2 rfl Hgr1.out) H1.out hM63.out (by omega) (HSRC.out _ HF1.out).2 rfl (.tmp 21) (.tmp 23) rfl (by simp [Act.eval]) (by simp [Act.eval]) ?_; intro v2 w3 hown2 hgr2 hbl2; obtain ⟨a2, d2, rfl⟩ := own_slice hown2; obtain ⟨cp2, fz2, hend⟩ := END.out _ w3 _ a2 d2 HF1.out Hn1.out hgr2 hbl2 hown2; have HEND := Lib.hid hend; clear hown2 hgr2 hbl2 hend)
  all_goals
    go_wp2_with fail
    go_ret
    exact ⟨rfl, HEND.out⟩
end Go.Proofs.Ytenmbkngkabonaa
