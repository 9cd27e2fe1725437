/- The walk of (*stack.Stack).Dup. -/
import Derived.Test.YtenmbkngkabonaaT10
namespace Go.Proofs.Ytenmbkngkabonaa
set_option linter.unusedVariables false
open Go.RowKit

theorem own_slice {w : World} {base : Nat} {e : TypeId} {size : Nat} {v : Value} {n : Nat} {xs : List Value} (h : w.ownsRow base e size v n xs) : ∃ ao cap, v = .slice ao n cap := by
  rcases h.2 with ⟨rfl, h0⟩ | ⟨g, cap, cur, rfl, _⟩
  · exact ⟨none, 0, by rw [h0]⟩
  · exact ⟨_, _, rfl⟩
/-- top of 0 and more -/
theorem top_all (base p : Nat) (v : Value) (L : List Pl.Ob) (n : Nat) (hnl : n ≤ L.length) (hlen : L.length ≤ 300) (W : World) (hS : StkV base p v L W) :
    Calls Try.prog 65 #[.pointer (some ⟨p, 0, none⟩), .int .i64 (n : Int)] W fun e w' => (∃ ao, e = .returned (.tuple #[.slice ao n n, .int .i64 0]) ∧ (ao = none → n = 0) ∧ ∀ ad, ao = some ad → ∀ j u, (Pl.flat (L.drop (L.length - n)))[j]? = some u → w'.cell? (ad.add j) = some u) ∧ Grown W w' := by
  rcases Nat.eq_zero_or_pos n with rfl | hn
  · refine (top_zero base p v L hlen W hS).mono ?_
    rintro e w' ⟨⟨ao, rfl⟩, g⟩
    refine ⟨⟨ao, rfl, fun _ => rfl, fun ad _ j u hu => ?_⟩, g⟩
    rw [Nat.sub_zero, List.drop_length] at hu
    simp [Pl.flat] at hu
  · obtain ⟨g, cap, rfl, C⟩ := top_ok base p v L n hn hnl hlen W hS
    refine C.mono ?_
    rintro e w' ⟨rfl, g1⟩
    refine ⟨⟨_, rfl, fun q => (by cases q), ?_⟩, g1⟩
    intro ad q j u hu
    cases q
    have hx := own_fr (P := fun _ => False) hS.2.2.1 (Fr.of_grown _ g1) (fun _ _ f => f)
    have hj := (List.getElem?_eq_some_iff.1 hu).1
    rw [Pl.flat_len, List.length_drop] at hj
    rw [show (⟨g, (L.length - n) * 6, none⟩ : Addr).add j = ⟨g, (L.length - n) * 6 + j, none⟩ from by simp [Addr.add]]
    have hsp : Pl.flat L = Pl.flat (L.take (L.length - n)) ++ Pl.flat (L.drop (L.length - n)) := by rw [← Pl.flat_append, List.take_append_drop]
    rw [hx.cellAt _ (by omega), hsp, List.getElem?_append_right (by rw [Pl.flat_len, List.length_take]; omega), ← hu]
    congr 1
    rw [Pl.flat_len, List.length_take]
    omega

set_option maxRecDepth 100000 in
theorem dup_low (base p : Nat) (v : Value) (L : List Pl.Ob) (n : Int) (hn : n < 0) (W : World) (hS : StkV base p v L W) :
    Calls Try.prog 42 #[.pointer (some ⟨p, 0, none⟩), .int .i64 n] W fun e w' => e = .returned (.int .i64 2) ∧ Grown W w' := by
  have CT := Lib.hid (top_low base p v L n hn W hS)
  clear hS
  go_enter Try.func42, Try.ntmps42
  go_wp2_with fail
  refine CT.out.mono ?_
  rintro e w1 ⟨rfl, g1⟩
  go_wp2_with fail
  go_ret
  exact ⟨rfl, g1⟩
set_option maxRecDepth 100000 in
theorem dup_under (base p : Nat) (v : Value) (L : List Pl.Ob) (n : Int) (hn : (L.length : Int) < n) (W : World) (hS : StkV base p v L W) :
    Calls Try.prog 42 #[.pointer (some ⟨p, 0, none⟩), .int .i64 n] W fun e w' => e = .returned (.int .i64 7) ∧ Grown W w' := by
  have CT := Lib.hid (top_under base p v L n hn W hS)
  clear hS
  go_enter Try.func42, Try.ntmps42
  go_wp2_with fail
  refine CT.out.mono ?_
  rintro e w1 ⟨rfl, g1⟩
  go_wp2_with fail
  go_ret
  exact ⟨rfl, g1⟩
set_option maxRecDepth 100000 in
theorem dup_over (base p : Nat) (v : Value) (L : List Pl.Ob) (n : Nat) (hn : n ≤ L.length) (hlen : L.length ≤ 300) (ho : 200 < L.length + n) (W : World) (hS : StkV base p v L W) :
    Calls Try.prog 42 #[.pointer (some ⟨p, 0, none⟩), .int .i64 (n : Int)] W fun e w' => e = .returned (.int .i64 8) ∧ Grown W w' := by
  have CT := Lib.hid (top_all base p v L n hn hlen W hS)
  obtain ⟨ao, cap, rfl⟩ := hS.slice
  have h0 := hS.1
  have e1 : (L.length : Int) ≤ 300 := by omega
  have e2 : (0 : Int) ≤ L.length := by omega
  have e3 : (200 : Int) - L.length < n := by omega
  have e4 : (n : Int) ≤ 300 := by omega
  clear hS
  go_enter Try.func42, Try.ntmps42
  go_wp2_with fail
  refine CT.out.mono ?_
  rintro e w1 ⟨⟨ao1, rfl, -, -⟩, g1⟩
  have c1 := grown_cell g1 h0
  go_wp2_with fail
  go_ret
  exact ⟨rfl, g1⟩

set_option maxHeartbeats 1000000 in
set_option maxRecDepth 100000 in
theorem dup_ok (base p : Nat) (v : Value) (L : List Pl.Ob) (n : Nat) (hn : n ≤ L.length) (ho : L.length + n ≤ 200) (W : World) (hS : StkV base p v L W) (hb : base ≤ W.heap.size) :
    Calls Try.prog 42 #[.pointer (some ⟨p, 0, none⟩), .int .i64 (n : Int)] W fun e w' => e = .returned (.int .i64 0) ∧
      (∃ v', StkV base p v' (L ++ L.drop (L.length - n)) w' ∧ ∀ g, v'.ownBlock = some g → v.ownBlock = some g ∨ W.heap.size ≤ g) ∧ Fr (fun c => c = p ∨ v.ownBlock = some c) W w' := by
  obtain ⟨i0, hi, hz0, hz1, hz2⟩ := info_parts Try.objInfo
  have CT := Lib.hid (top_all base p v L n hn (by omega) W hS)
  obtain ⟨ao, cap, rfl⟩ := hS.slice
  obtain ⟨h0, h1, hown, hne, hp⟩ := id hS
  have hD : (L.drop (L.length - n)).length = n := by rw [List.length_drop]; omega
  obtain ⟨D, hDe⟩ : ∃ D, D = L.drop (L.length - n) := ⟨_, rfl⟩
  rw [← hDe] at CT hD ⊢
  obtain ⟨M, hM⟩ : ∃ M, M = L.length := ⟨_, rfl⟩
  rw [← hM] at h0 hown hne hn ho
  have HM := Lib.hid hM
  have HD := Lib.hid hD
  have HFL : Hid ((Pl.flat D).length = n * 6) := Lib.hid (by rw [Pl.flat_len, hD])
  have HF := Lib.hid (Pl.flat_one D)
  clear hDe hM hD hS
  have e1 : (M : Int) ≤ 200 := by omega
  have e2 : (0 : Int) ≤ M := by omega
  have e3 : ¬ ((200 : Int) - M < n) := by omega
  have e4 : (n : Int) ≤ 200 := by omega
  go_enter Try.func42, Try.ntmps42
  go_wp2_with fail
  refine CT.out.mono ?_
  rintro e w1 ⟨⟨ao1, rfl, ha1, ha2⟩, g1⟩
  have c1 := grown_cell g1 h0
  have f1 : w1.frozen? ⟨p, 0, none⟩ = false := by rw [g1.2.1]; exact h1
  have HA1 := Lib.hid ha1
  have HA2 := Lib.hid ha2
  clear ha1 ha2
  have HO := Lib.hid (own_fr (P := fun _ => False) hown (Fr.of_grown _ g1) (fun _ _ f => f))
  have hsz := g1.2.2
  have hbb : base ≤ w1.heap.size := by omega
  go_wp2_with (at_builtin; refine wpList_append_all _ base 32 38 i0 _ 6 56 Try.underlying32 hi hz0 hz1 hz2 rfl (by decide) (.slice ao M cap) M (Pl.flat L) HO.out ao1 n n (Pl.flat D) HA1.out HFL.out HA2.out HF.out (by unfold maxLen; omega) (by omega) hbb (hgd := rfl) (.tmp 30) (.tmp 31) rfl (by simp [Act.eval]) (by simp [Act.eval]) ?hnext)
  case hnext =>
    intro v' w' hown' hgr hbl
    obtain ⟨ao', cap', rfl⟩ := own_slice hown'
    have Hown := Lib.hid hown'
    have Hgr := Lib.hid hgr
    have Hbl := Lib.hid hbl
    clear hown' hgr hbl
    have hpb : some p ≠ (Value.slice ao M cap).ownBlock := fun q => hne q.symm
    have cp := Hgr.out.cell c1 (by simpa using hpb)
    have fp : w'.frozen? ⟨p, 0, none⟩ = false := (World.frozen?_of_block (a := ⟨p, 0, none⟩) (Hgr.out.block p (by omega) (by simpa using hpb))).trans f1
    have hpp : ∀ g, (Value.slice ao' (M + n) cap').ownBlock = some g → g ≠ p := fun g h q => by
      rcases Hbl.out g h with h2 | h2
      · exact hpb (by rw [h2, q])
      · omega
    have HPP := Lib.hid hpp
    have HPB := Lib.hid hpb
    clear hpb hpp
    go_wp2_with fail
    go_ret
    have hF : Fr (fun c => c = p ∨ (Value.slice ao M cap).ownBlock = some c) W (w'.setCell ⟨p, 0, none⟩ (.slice ao' (M + n) cap')) :=
      ((Fr.of_grown _ g1).trans (Fr.grown _ Hgr.out (fun k q => .inr q))).trans (Fr.setCell _ _ _ _ (.inl rfl))
    rw [← HM.out]
    refine ⟨rfl, ⟨.slice ao' (M + n) cap', ⟨World.cell?_setCell_same' _ _ _ (by rw [cp]; rfl), by simpa using fp, ?_, fun q => HPP.out p q rfl, Nat.lt_of_lt_of_le hp hF.2.2.1⟩, fun g q => (Hbl.out g q).imp id (fun h => by omega)⟩, hF⟩
    rw [Pl.flat_append, List.length_append, HD.out, ← HM.out]
    exact own_fr (P := fun c => c = p) Hown.out (Fr.setCell _ _ _ _ rfl) (fun g q h => HPP.out g q h)
end Go.Proofs.Ytenmbkngkabonaa
