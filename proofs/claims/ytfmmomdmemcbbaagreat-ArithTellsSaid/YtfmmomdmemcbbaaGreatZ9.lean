/- The reference's move: pop, exch, dup, index, roll. -/
import Derived.Test.YtfmmomdmemcbbaaGreatZ3
import Derived.Test.YtfmmomdmemcbbaaGreatM5
import Derived.Deep.RegionHeld3
set_option maxHeartbeats 4000000
set_option maxRecDepth 100000
namespace Go.Proofs.YtfmmomdmemcbbaaGreat
set_option linter.unusedVariables false
open Go.RowKit
theorem last_one {L : List Pl.Ob} {J : Nat} {o : Pl.Ob} (hn : L.length = J + 1) (h0 : L[J + 0]? = some o) : L = L.take J ++ [o] := by
  have h1 : J < L.length := by omega
  rw [Nat.add_zero, List.getElem?_eq_getElem h1] at h0
  injection h0 with h0
  rw [← h0, List.take_append_getElem h1, List.take_of_length_le (by omega)]
theorem rs_pop_none {base p : Nat} {W : World} (h : RS base p [] W) :
    Calls Tryz.prog 84 #[.pointer (some ⟨p, 0, none⟩)] W fun e w' => e = .returned (.tuple #[obv 0 false 0 0 0 ⟨#[]⟩, .int .i64 7]) ∧ Grown W w' := by
  obtain ⟨v, hS⟩ := h
  exact rpop_none base p v W hS
theorem rs_pop {base p : Nat} {A : List Pl.Ob} {o : Pl.Ob} {W : World} (h : RS base p (A ++ [o]) W) (hA : A.length ≤ 299) :
    Calls Tryz.prog 84 #[.pointer (some ⟨p, 0, none⟩)] W fun e w' => e = .returned (.tuple #[Pl.ov o, .int .i64 0]) ∧ RS base p A w' ∧ Fr (fun c => c = p) W w' := by
  obtain ⟨v, hS⟩ := h
  obtain ⟨k, x, n, a, l, s⟩ := o
  exact (rpop_ok base p v A k x n a l s hA W hS).mono fun e w' hh => ⟨hh.1, ⟨_, hh.2.1.choose_spec.1⟩, hh.2.2⟩
def Pl.rollS (L : List Pl.Ob) (n j : Int) : Int × List Pl.Ob := if n < 0 then (2, L) else if (L.length : Int) < n then (7, L) else (0, Pl.rot L n.toNat j)
theorem rs_roll {base p : Nat} {A : List Pl.Ob} {W : World} (h : RS base p A W) (hA : A.length ≤ 300) (hb : base ≤ W.heap.size) (n j : Int) :
    Calls Tryz.prog 88 #[.pointer (some ⟨p, 0, none⟩), .int .i64 n, .int .i64 j] W fun e w' => e = .returned (.int .i64 (Pl.rollS A n j).1) ∧ RS base p (Pl.rollS A n j).2 w' ∧ Fr (fun c => c = p) W w' := by
  obtain ⟨v, hS⟩ := h
  have hS9 : ∀ w', Grown W w' → RS base p A w' := fun w' g => RS.grown ⟨v, hS⟩ g
  unfold Pl.rollS
  by_cases h1 : n < 0
  · rw [if_pos h1]
    exact (rroll_low base p v A n h1 j W hS).mono fun e w' hh => ⟨hh.1, hS9 w' hh.2, Fr.of_grown _ hh.2⟩
  · rw [if_neg h1]
    by_cases h2 : (A.length : Int) < n
    · rw [if_pos h2]
      exact (rroll_under base p v A n h2 j W hS).mono fun e w' hh => ⟨hh.1, hS9 w' hh.2, Fr.of_grown _ hh.2⟩
    · rw [if_neg h2]
      obtain ⟨m, rfl⟩ : ∃ m : Nat, n = (m : Int) := ⟨n.toNat, by omega⟩
      rw [Int.toNat_natCast]
      exact (rroll_ok base p v A m j (by omega) hA W hb hS).mono fun e w' hh => ⟨hh.1, ⟨_, hh.2.1.choose_spec.1⟩, hh.2.2⟩
theorem RowV.nil (W : World) : RowV W (.slice none 0 0) [] := ⟨none, 0, rfl, .inl rfl⟩
section
variable (base p : Nat) (L : List Pl.Ob) (W : World) (hlen : L.length ≤ 200) (h : RS base p L W) (hb : base ≤ W.heap.size)
include hlen h hb
omit hlen hb in
theorem rmove_pop_none (hL : L = []) :
    Calls Tryz.prog 61 #[.pointer (some ⟨p, 0, none⟩), .string ⟨#[112, 111, 112]⟩] W fun e w' => RPost base p W (((7, L) : Int × List Pl.Ob)) e w' := by
  subst hL
  have CP := Lib.hid (rs_pop_none h)
  clear h
  go_enter Tryz.func61, Tryz.ntmps61
  go_wp2_with fail
  refine CP.out.mono ?_
  rintro e w2 ⟨rfl, g2⟩
  have F2 := Lib.hid (Fr.of_grown (fun c => c = p) g2)
  clear g2 CP
  go_wp2_with fail
  go_ret
  exact ⟨rfl, fun q => absurd q (by simp), F2.out.trans (by first | exact Fr.refl _ _ | exact Fr.alloc _ _ _ | exact (Fr.alloc _ _ _).trans (Fr.alloc _ _ _))⟩
omit hb in
theorem rmove_pop (J : Nat) (o : Pl.Ob) (hn : L.length = J + 1) (h0 : L[J + 0]? = some o) :
    Calls Tryz.prog 61 #[.pointer (some ⟨p, 0, none⟩), .string ⟨#[112, 111, 112]⟩] W fun e w' => RPost base p W (((0, L.take J) : Int × List Pl.Ob)) e w' := by
  have e0 := last_one hn h0
  rw [e0] at h
  have CP := Lib.hid (rs_pop h (by rw [List.length_take]; omega))
  generalize L.take J = A at CP ⊢
  obtain ⟨q0, x0, n0, a0, l0, s0⟩ := o
  clear h e0 h0 hn hlen
  go_enter Tryz.func61, Tryz.ntmps61
  go_wp2_with fail
  refine CP.out.mono ?_
  rintro e w2 ⟨rfl, hs2, f2⟩
  have H2 := Lib.hid (And.intro hs2 f2)
  clear hs2 f2 CP
  go_wp2_with fail
  go_ret
  have F3 : Fr (fun _ => False) w2 _ := Fr.alloc (fun _ => False) w2 (.cells #[.int .i64 q0, .bool x0, .int .i64 n0, .int .i64 a0, .int .i64 l0, .string s0] 25)
  exact ⟨rfl, fun _ => H2.out.1.fresh F3, H2.out.2.trans (F3.weaken (fun _ f => f.elim))⟩
omit hb hlen in
theorem rmove_exch_under (hL : L.length < 2) :
    Calls Tryz.prog 61 #[.pointer (some ⟨p, 0, none⟩), .string ⟨#[101, 120, 99, 104]⟩] W fun e w' => RPost base p W (((7, L) : Int × List Pl.Ob)) e w' := by
  have TK := Lib.hid (rtake_under base p L (W.alloc (.cells #[.int .i64 100, .int .i64 100] 3)) (h.fresh (Fr.alloc _ _ _)) 2 (by omega) hL W.heap.size 2)
  clear h hL
  go_enter Tryz.func61, Tryz.ntmps61
  go_wp2_with fail
  refine TK.out.mono ?_
  rintro e w2 ⟨rfl, f2⟩
  have F2 := Lib.hid ((Fr.alloc (fun _ => False) W (.cells #[.int .i64 100, .int .i64 100] 3)).trans f2)
  clear TK f2
  go_wp2_with fail
  go_ret
  exact ⟨rfl, fun q => absurd q (by simp), F2.out.weaken (fun _ f => f.elim)⟩
omit hb hlen in
theorem rmove_dup_under (hL : L.length < 1) :
    Calls Tryz.prog 61 #[.pointer (some ⟨p, 0, none⟩), .string ⟨#[100, 117, 112]⟩] W fun e w' => RPost base p W (((7, L) : Int × List Pl.Ob)) e w' := by
  have TK := Lib.hid (rtake_under base p L (W.alloc (.cells #[.int .i64 100] 3)) (h.fresh (Fr.alloc _ _ _)) 1 (by omega) hL W.heap.size 1)
  clear h hL
  go_enter Tryz.func61, Tryz.ntmps61
  go_wp2_with fail
  refine TK.out.mono ?_
  rintro e w2 ⟨rfl, f2⟩
  have F2 := Lib.hid ((Fr.alloc (fun _ => False) W (.cells #[.int .i64 100] 3)).trans f2)
  clear TK f2
  go_wp2_with fail
  go_ret
  exact ⟨rfl, fun q => absurd q (by simp), F2.out.weaken (fun _ f => f.elim)⟩
omit hb hlen in
theorem rmove_index_under (hL : L.length < 1) :
    Calls Tryz.prog 61 #[.pointer (some ⟨p, 0, none⟩), .string ⟨#[105, 110, 100, 101, 120]⟩] W fun e w' => RPost base p W (((7, L) : Int × List Pl.Ob)) e w' := by
  have TK := Lib.hid (rtake_under base p L (W.alloc (.cells #[.int .i64 3] 3)) (h.fresh (Fr.alloc _ _ _)) 1 (by omega) hL W.heap.size 1)
  clear h hL
  go_enter Tryz.func61, Tryz.ntmps61
  go_wp2_with fail
  refine TK.out.mono ?_
  rintro e w2 ⟨rfl, f2⟩
  have F2 := Lib.hid ((Fr.alloc (fun _ => False) W (.cells #[.int .i64 3] 3)).trans f2)
  clear TK f2
  go_wp2_with fail
  go_ret
  exact ⟨rfl, fun q => absurd q (by simp), F2.out.weaken (fun _ f => f.elim)⟩
omit hb hlen in
theorem rmove_roll_under (hL : L.length < 2) :
    Calls Tryz.prog 61 #[.pointer (some ⟨p, 0, none⟩), .string ⟨#[114, 111, 108, 108]⟩] W fun e w' => RPost base p W (((7, L) : Int × List Pl.Ob)) e w' := by
  have TK := Lib.hid (rtake_under base p L (W.alloc (.cells #[.int .i64 3, .int .i64 3] 3)) (h.fresh (Fr.alloc _ _ _)) 2 (by omega) hL W.heap.size 2)
  clear h hL
  go_enter Tryz.func61, Tryz.ntmps61
  go_wp2_with fail
  refine TK.out.mono ?_
  rintro e w2 ⟨rfl, f2⟩
  have F2 := Lib.hid ((Fr.alloc (fun _ => False) W (.cells #[.int .i64 3, .int .i64 3] 3)).trans f2)
  clear TK f2
  go_wp2_with fail
  go_ret
  exact ⟨rfl, fun q => absurd q (by simp), F2.out.weaken (fun _ f => f.elim)⟩
omit hb in
theorem rmove_index_bad (o0 : Pl.Ob) (J : Nat) (hn : L.length = J + 1) (h0 : L[J + 0]? = some o0) (f0 : Pl.rfits 3 o0.1 = false) :
    Calls Tryz.prog 61 #[.pointer (some ⟨p, 0, none⟩), .string ⟨#[105, 110, 100, 101, 120]⟩] W fun e w' => RPost base p W (((6, L) : Int × List Pl.Ob)) e w' := by
  have TK := Lib.hid (rtake1_bad base p L (W.alloc (.cells #[.int .i64 3] 3)) (by omega) (h.fresh (Fr.alloc _ _ _)) o0 J hn h0 W.heap.size 1 (Nat.le_refl _) 3 (.inr (.inr (.inr rfl))) (by simp [go_sem]) f0)
  clear hlen h hn h0 f0
  go_enter Tryz.func61, Tryz.ntmps61
  go_wp2_with fail
  refine TK.out.mono ?_
  rintro e w2 ⟨rfl, f2⟩
  have F2 := Lib.hid ((Fr.alloc (fun _ => False) W (.cells #[.int .i64 3] 3)).trans f2)
  clear TK f2
  go_wp2_with fail
  go_ret
  exact ⟨rfl, fun q => absurd q (by simp), F2.out.weaken (fun _ f => f.elim)⟩
omit hb in
theorem rmove_roll_bad (o0 o1 : Pl.Ob) (J : Nat) (hn : L.length = J + 2) (h0 : L[J + 0]? = some o0) (h1 : L[J + 1]? = some o1) (f1 : Pl.rfits 3 o1.1 = false) :
    Calls Tryz.prog 61 #[.pointer (some ⟨p, 0, none⟩), .string ⟨#[114, 111, 108, 108]⟩] W fun e w' => RPost base p W (((6, L) : Int × List Pl.Ob)) e w' := by
  have TK := Lib.hid (rtake2_bad base p L (W.alloc (.cells #[.int .i64 3, .int .i64 3] 3)) (by omega) (h.fresh (Fr.alloc _ _ _)) o0 o1 J hn h0 h1 W.heap.size 2 (Nat.le_refl _) 3 3 (.inr (.inr (.inr rfl))) (.inr (.inr (.inr rfl))) (by simp [go_sem]) (by simp [go_sem]) f1)
  clear hlen h hn h0 h1 f1
  go_enter Tryz.func61, Tryz.ntmps61
  go_wp2_with fail
  refine TK.out.mono ?_
  rintro e w2 ⟨rfl, f2⟩
  have F2 := Lib.hid ((Fr.alloc (fun _ => False) W (.cells #[.int .i64 3, .int .i64 3] 3)).trans f2)
  clear TK f2
  go_wp2_with fail
  go_ret
  exact ⟨rfl, fun q => absurd q (by simp), F2.out.weaken (fun _ f => f.elim)⟩
omit hb in
theorem rmove_roll_bad0 (o0 o1 : Pl.Ob) (J : Nat) (hn : L.length = J + 2) (h0 : L[J + 0]? = some o0) (h1 : L[J + 1]? = some o1) (f1 : Pl.rfits 3 o1.1 = true) (f0 : Pl.rfits 3 o0.1 = false) :
    Calls Tryz.prog 61 #[.pointer (some ⟨p, 0, none⟩), .string ⟨#[114, 111, 108, 108]⟩] W fun e w' => RPost base p W (((6, L) : Int × List Pl.Ob)) e w' := by
  have TK := Lib.hid (rtake2_bad0 base p L (W.alloc (.cells #[.int .i64 3, .int .i64 3] 3)) (by omega) (h.fresh (Fr.alloc _ _ _)) o0 o1 J hn h0 h1 W.heap.size 2 (Nat.le_refl _) 3 3 (.inr (.inr (.inr rfl))) (.inr (.inr (.inr rfl))) (by simp [go_sem]) (by simp [go_sem]) f1 f0)
  clear hlen h hn h0 h1 f1 f0
  go_enter Tryz.func61, Tryz.ntmps61
  go_wp2_with fail
  refine TK.out.mono ?_
  rintro e w2 ⟨rfl, f2⟩
  have F2 := Lib.hid ((Fr.alloc (fun _ => False) W (.cells #[.int .i64 3, .int .i64 3] 3)).trans f2)
  clear TK f2
  go_wp2_with fail
  go_ret
  exact ⟨rfl, fun q => absurd q (by simp), F2.out.weaken (fun _ f => f.elim)⟩
theorem rmove_dup (q0 : Int) (x0 : Bool) (n0 a0 l0 : Int) (s0 : ByteArray) (J : Nat) (hn : L.length = J + 1) (h0 : L[J + 0]? = some (q0, x0, n0, a0, l0, s0)) :
    Calls Tryz.prog 61 #[.pointer (some ⟨p, 0, none⟩), .string ⟨#[100, 117, 112]⟩] W fun e w' => RPost base p W (Pl.giveR L 0 [(q0, x0, n0, a0, l0, s0)]) e w' := by
  have CG := Lib.hid (fun Z (hZ : RS base p L Z) (hbZ : base ≤ Z.heap.size) u (hR : RowV Z u [(q0, x0, n0, a0, l0, s0)]) => rgive_any base p L Z (by omega) hZ hbZ 0 (by omega) [(q0, x0, n0, a0, l0, s0)] (by simp) u hR)
  have RN := Lib.hid (fun Z => And.intro (row_new Z [(q0, x0, n0, a0, l0, s0)] #[.int .i64 q0, .bool x0, .int .i64 n0, .int .i64 a0, .int .i64 l0, .string s0] rfl 1 rfl) (Fr.alloc (fun _ => False) Z (.cells #[.int .i64 q0, .bool x0, .int .i64 n0, .int .i64 a0, .int .i64 l0, .string s0] 25)))
  have HS := Lib.hid h
  have HB := Lib.hid hb
  have TK := Lib.hid (rtake1_ok base p L (W.alloc (.cells #[.int .i64 100] 3)) (by omega) (h.fresh (Fr.alloc _ _ _)) (q0, x0, n0, a0, l0, s0) J hn h0 W.heap.size 1 (Nat.le_refl _) 100 (.inl rfl) (by simp [go_sem]) (by rfl))
  clear hlen h hn h0 hb
  go_enter Tryz.func61, Tryz.ntmps61
  go_wp2_with fail
  refine TK.out.mono ?_
  rintro e w2 ⟨f2, g, cap, hgp, hl, hcap, rfl⟩
  have F2 := Lib.hid ((Fr.alloc (fun _ => False) W (.cells #[.int .i64 100] 3)).trans f2)
  have HL := Lib.hid (And.intro hgp hl)
  have ecap : (1 : Int) ≤ (cap : Int) := by omega
  have c0 : w2.cell? ⟨g, J * 6, none⟩ = some (.int .i64 q0) := hl.2 0 _ rfl
  have c1 : w2.cell? ⟨g, J * 6 + 1, none⟩ = some (.bool x0) := hl.2 1 _ rfl
  have c2 : w2.cell? ⟨g, J * 6 + 2, none⟩ = some (.int .i64 n0) := hl.2 2 _ rfl
  have c3 : w2.cell? ⟨g, J * 6 + 3, none⟩ = some (.int .i64 a0) := hl.2 3 _ rfl
  have c4 : w2.cell? ⟨g, J * 6 + 4, none⟩ = some (.int .i64 l0) := hl.2 4 _ rfl
  have c5 : w2.cell? ⟨g, J * 6 + 5, none⟩ = some (.string s0) := hl.2 5 _ rfl
  clear TK f2 hl hgp hcap
  go_wp2_with fail
  have R5 := Lib.hid (RN.out w2).1
  have F5 := Lib.hid (F2.out.trans (RN.out w2).2)
  clear RN F2 HL
  refine (CG.out _ (HS.out.fresh (F5.out)) (Nat.le_trans HB.out (F5.out).2.2.1) _ R5.out).mono ?_
  rintro e w8 ⟨rfl, hs, hf⟩
  have H8 := Lib.hid (And.intro hs ((Fr.weaken (F5.out) (fun _ f => f.elim)).trans hf))
  clear hs hf CG
  go_wp2_with fail
  go_ret
  exact ⟨rfl, fun _ => H8.out.1, H8.out.2⟩
theorem rmove_exch (q0 : Int) (x0 : Bool) (n0 a0 l0 : Int) (s0 : ByteArray) (q1 : Int) (x1 : Bool) (n1 a1 l1 : Int) (s1 : ByteArray) (J : Nat) (hn : L.length = J + 2) (h0 : L[J + 0]? = some (q0, x0, n0, a0, l0, s0)) (h1 : L[J + 1]? = some (q1, x1, n1, a1, l1, s1)) :
    Calls Tryz.prog 61 #[.pointer (some ⟨p, 0, none⟩), .string ⟨#[101, 120, 99, 104]⟩] W fun e w' => RPost base p W (Pl.giveR L 2 [(q1, x1, n1, a1, l1, s1), (q0, x0, n0, a0, l0, s0)]) e w' := by
  have CG := Lib.hid (fun Z (hZ : RS base p L Z) (hbZ : base ≤ Z.heap.size) u (hR : RowV Z u [(q1, x1, n1, a1, l1, s1), (q0, x0, n0, a0, l0, s0)]) => rgive_any base p L Z (by omega) hZ hbZ 2 (by omega) [(q1, x1, n1, a1, l1, s1), (q0, x0, n0, a0, l0, s0)] (by simp) u hR)
  have HS := Lib.hid h
  have HB := Lib.hid hb
  have TK := Lib.hid (rtake2_ok base p L (W.alloc (.cells #[.int .i64 100, .int .i64 100] 3)) (by omega) (h.fresh (Fr.alloc _ _ _)) (q0, x0, n0, a0, l0, s0) (q1, x1, n1, a1, l1, s1) J hn h0 h1 W.heap.size 2 (Nat.le_refl _) 100 100 (.inl rfl) (.inl rfl) (by simp [go_sem]) (by simp [go_sem]) (by rfl) (by rfl))
  clear hlen h hn h0 h1 hb
  go_enter Tryz.func61, Tryz.ntmps61
  go_wp2_with fail
  refine TK.out.mono ?_
  rintro e w2 ⟨f2, g, cap, hgp, hl, hcap, rfl⟩
  have F2 := Lib.hid ((Fr.alloc (fun _ => False) W (.cells #[.int .i64 100, .int .i64 100] 3)).trans f2)
  have HL := Lib.hid (And.intro hgp hl)
  have ecap : (2 : Int) ≤ (cap : Int) := by omega
  have c0 : w2.cell? ⟨g, J * 6, none⟩ = some (.int .i64 q0) := hl.2 0 _ rfl
  have c1 : w2.cell? ⟨g, J * 6 + 1, none⟩ = some (.bool x0) := hl.2 1 _ rfl
  have c2 : w2.cell? ⟨g, J * 6 + 2, none⟩ = some (.int .i64 n0) := hl.2 2 _ rfl
  have c3 : w2.cell? ⟨g, J * 6 + 3, none⟩ = some (.int .i64 a0) := hl.2 3 _ rfl
  have c4 : w2.cell? ⟨g, J * 6 + 4, none⟩ = some (.int .i64 l0) := hl.2 4 _ rfl
  have c5 : w2.cell? ⟨g, J * 6 + 5, none⟩ = some (.string s0) := hl.2 5 _ rfl
  have c6 : w2.cell? ⟨g, J * 6 + 6, none⟩ = some (.int .i64 q1) := hl.2 6 _ rfl
  have c7 : w2.cell? ⟨g, J * 6 + 7, none⟩ = some (.bool x1) := hl.2 7 _ rfl
  have c8 : w2.cell? ⟨g, J * 6 + 8, none⟩ = some (.int .i64 n1) := hl.2 8 _ rfl
  have c9 : w2.cell? ⟨g, J * 6 + 9, none⟩ = some (.int .i64 a1) := hl.2 9 _ rfl
  have c10 : w2.cell? ⟨g, J * 6 + 10, none⟩ = some (.int .i64 l1) := hl.2 10 _ rfl
  have c11 : w2.cell? ⟨g, J * 6 + 11, none⟩ = some (.string s1) := hl.2 11 _ rfl
  clear TK f2 hl hgp hcap
  have hne := World.new_ne w2 _ c0
  have FA := Lib.hid (Fr.alloc (fun _ => False) w2.drew (.cells #[.int .i64 q1, .bool x1, .int .i64 n1, .int .i64 a1, .int .i64 l1, .string s1, .int .i64 q0, .bool x0, .int .i64 n0, .int .i64 a0, .int .i64 l0, .string s0] 25))
  have FW := Lib.hid ((Fr.drew F2.out).trans FA.out)
  have LG := Lib.hid (fun b (hb : b = w2.drew.heap.size) => ((CG.out (w2.drew.alloc (.cells #[.int .i64 q1, .bool x1, .int .i64 n1, .int .i64 a1, .int .i64 l1, .string s1, .int .i64 q0, .bool x0, .int .i64 n0, .int .i64 a0, .int .i64 l0, .string s0] 25)) (HS.out.fresh FW.out) (Nat.le_trans HB.out FW.out.2.2.1) (.slice (some ⟨b, 0, none⟩) 2 2) (by rw [hb]; exact row_new w2.drew [(q1, x1, n1, a1, l1, s1), (q0, x0, n0, a0, l0, s0)] #[.int .i64 q1, .bool x1, .int .i64 n1, .int .i64 a1, .int .i64 l1, .string s1, .int .i64 q0, .bool x0, .int .i64 n0, .int .i64 a0, .int .i64 l0, .string s0] rfl 2 rfl)).mono fun e w' hh => (⟨hh.1, (by
    have k := (HL.out.2.fr ((Fr.drew (Fr.refl (fun _ => False) w2)).trans FA.out) (fun f => f)).fr hh.2.2 HL.out.1
    exact ⟨k.2 0 _ rfl, k.2 1 _ rfl, k.2 2 _ rfl, k.2 3 _ rfl, k.2 4 _ rfl, k.2 5 _ rfl, k.2 6 _ rfl, k.2 7 _ rfl, k.2 8 _ rfl, k.2 9 _ rfl, k.2 10 _ rfl, k.2 11 _ rfl⟩), hh.2.1, (FW.out.weaken (fun _ f => f.elim)).trans hh.2.2⟩ : e = _ ∧ (w'.cell? ⟨g, J * 6, none⟩ = some (.int .i64 q0) ∧ w'.cell? ⟨g, J * 6 + 1, none⟩ = some (.bool x0) ∧ w'.cell? ⟨g, J * 6 + 2, none⟩ = some (.int .i64 n0) ∧ w'.cell? ⟨g, J * 6 + 3, none⟩ = some (.int .i64 a0) ∧ w'.cell? ⟨g, J * 6 + 4, none⟩ = some (.int .i64 l0) ∧ w'.cell? ⟨g, J * 6 + 5, none⟩ = some (.string s0) ∧ w'.cell? ⟨g, J * 6 + 6, none⟩ = some (.int .i64 q1) ∧ w'.cell? ⟨g, J * 6 + 7, none⟩ = some (.bool x1) ∧ w'.cell? ⟨g, J * 6 + 8, none⟩ = some (.int .i64 n1) ∧ w'.cell? ⟨g, J * 6 + 9, none⟩ = some (.int .i64 a1) ∧ w'.cell? ⟨g, J * 6 + 10, none⟩ = some (.int .i64 l1) ∧ w'.cell? ⟨g, J * 6 + 11, none⟩ = some (.string s1)) ∧ _ ∧ Fr (fun c => c = p) W w')))
  clear CG FW FA HL F2 HS HB
  go_wp2_with fail
  go_region_held3 (fun Z => Z.cell? ⟨g, J * 6, none⟩ = some (.int .i64 q0) ∧ Z.cell? ⟨g, J * 6 + 1, none⟩ = some (.bool x0) ∧ Z.cell? ⟨g, J * 6 + 2, none⟩ = some (.int .i64 n0) ∧ Z.cell? ⟨g, J * 6 + 3, none⟩ = some (.int .i64 a0) ∧ Z.cell? ⟨g, J * 6 + 4, none⟩ = some (.int .i64 l0) ∧ Z.cell? ⟨g, J * 6 + 5, none⟩ = some (.string s0) ∧ Z.cell? ⟨g, J * 6 + 6, none⟩ = some (.int .i64 q1) ∧ Z.cell? ⟨g, J * 6 + 7, none⟩ = some (.bool x1) ∧ Z.cell? ⟨g, J * 6 + 8, none⟩ = some (.int .i64 n1) ∧ Z.cell? ⟨g, J * 6 + 9, none⟩ = some (.int .i64 a1) ∧ Z.cell? ⟨g, J * 6 + 10, none⟩ = some (.int .i64 l1) ∧ Z.cell? ⟨g, J * 6 + 11, none⟩ = some (.string s1)) (first | assumption | go_keep)
    (first
      | (go_at_call 86; first | (with_reducible refine Calls.mono (LG.out _ (by simp)) ?_; rintro e w9 ⟨rfl, hc9, hs9, hf9⟩)))
  all_goals
    have H9 := Lib.hid (And.intro hs9 hf9)
    clear hs9 hf9 hc9
    go_wp2_with fail
    go_ret
    exact ⟨rfl, fun _ => H9.out.1, H9.out.2⟩
theorem rmove_index_low (a : Int) (x : Bool) (J : Nat) (hn : L.length = J + 1) (h0 : L[J + 0]? = some (3, x, a, 0, 0, ⟨#[]⟩)) (hA : a < 0) :
    Calls Tryz.prog 61 #[.pointer (some ⟨p, 0, none⟩), .string ⟨#[105, 110, 100, 101, 120]⟩] W fun e w' => RPost base p W (((2, L) : Int × List Pl.Ob)) e w' := by
  have e0 := last_one hn h0
  have HS : Hid (RS base p (L.take J ++ [(3, x, a, 0, 0, ⟨#[]⟩)]) W) := Lib.hid (by rw [← e0]; exact h)
  have HB := Lib.hid hb
  have hJ : (L.take J).length ≤ 200 := by rw [List.length_take]; omega
  have TK := Lib.hid (rtake1_ok base p L (W.alloc (.cells #[.int .i64 3] 3)) (by omega) (h.fresh (Fr.alloc _ _ _)) (3, x, a, 0, 0, ⟨#[]⟩) J hn h0 W.heap.size 1 (Nat.le_refl _) 3 (.inr (.inr (.inr rfl))) (by simp [go_sem]) (by rfl))
  clear h0 e0
  generalize L.take J = A at HS hJ hA ⊢
  have CK := Lib.hid (fun Z (hZ : RS base p A Z) => (show Calls Tryz.prog 87 #[.pointer (some ⟨p, 0, none⟩), .int .i64 a] Z fun e w' => e = .returned (.tuple #[obv 0 false 0 0 0 ⟨#[]⟩, .int .i64 2]) ∧ Grown Z w' from by
    obtain ⟨v, hS⟩ := hZ
    exact rpeek_low base p v A a hA Z hS))
  clear hA
  clear hlen h hn hb
  go_enter Tryz.func61, Tryz.ntmps61
  go_wp2_with fail
  refine TK.out.mono ?_
  rintro e w2 ⟨f2, g, cap, hgp, hl, hcap, rfl⟩
  have F2 := Lib.hid ((Fr.alloc (fun _ => False) W (.cells #[.int .i64 3] 3)).trans f2)
  have HL := Lib.hid (And.intro hgp hl)
  have ecap : (1 : Int) ≤ (cap : Int) := by omega
  have c2 : w2.cell? ⟨g, J * 6 + 2, none⟩ = some (.int .i64 a) := hl.2 2 _ rfl
  clear TK f2 hl hgp hcap
  have CP := Lib.hid (rs_pop (HS.out.fresh F2.out) (by omega))
  clear HS
  go_wp2_with fail
  refine CP.out.mono ?_
  rintro e w3 ⟨rfl, hs3, f3⟩
  have HS3 := Lib.hid hs3
  have F3 := Lib.hid (f3)
  have d2 : w3.cell? ⟨g, J * 6 + 2, none⟩ = some (.int .i64 a) := (HL.out.2.fr f3 HL.out.1).2 2 _ rfl
  clear hs3 f3 CP c2 HL
  go_wp2_with fail
  refine (CK.out _ HS3.out).mono ?_
  rintro e w4 ⟨rfl, g4⟩
  have F4 := Lib.hid (((F2.out.weaken (fun _ f => f.elim)).trans F3.out).trans (Fr.of_grown (fun c => c = p) g4))
  clear g4 CK d2 HS3 F2 F3
  go_wp2_with fail
  go_ret
  exact ⟨rfl, fun q => absurd q (by simp), F4.out.trans (by first | exact Fr.refl _ _ | exact Fr.alloc _ _ _ | exact (Fr.alloc _ _ _).trans (Fr.alloc _ _ _))⟩
theorem rmove_index_far (a : Int) (x : Bool) (J : Nat) (hn : L.length = J + 1) (h0 : L[J + 0]? = some (3, x, a, 0, 0, ⟨#[]⟩)) (hA : 0 ≤ a ∧ ((L.take J).length : Int) ≤ a) :
    Calls Tryz.prog 61 #[.pointer (some ⟨p, 0, none⟩), .string ⟨#[105, 110, 100, 101, 120]⟩] W fun e w' => RPost base p W (((7, L) : Int × List Pl.Ob)) e w' := by
  have e0 := last_one hn h0
  have HS : Hid (RS base p (L.take J ++ [(3, x, a, 0, 0, ⟨#[]⟩)]) W) := Lib.hid (by rw [← e0]; exact h)
  have HB := Lib.hid hb
  have hJ : (L.take J).length ≤ 200 := by rw [List.length_take]; omega
  have TK := Lib.hid (rtake1_ok base p L (W.alloc (.cells #[.int .i64 3] 3)) (by omega) (h.fresh (Fr.alloc _ _ _)) (3, x, a, 0, 0, ⟨#[]⟩) J hn h0 W.heap.size 1 (Nat.le_refl _) 3 (.inr (.inr (.inr rfl))) (by simp [go_sem]) (by rfl))
  clear h0 e0
  generalize L.take J = A at HS hJ hA ⊢
  have CK := Lib.hid (fun Z (hZ : RS base p A Z) => (show Calls Tryz.prog 87 #[.pointer (some ⟨p, 0, none⟩), .int .i64 a] Z fun e w' => e = .returned (.tuple #[obv 0 false 0 0 0 ⟨#[]⟩, .int .i64 7]) ∧ Grown Z w' from by
    obtain ⟨v, hS⟩ := hZ
    exact rpeek_under base p v A a hA.1 hA.2 Z hS))
  clear hA
  clear hlen h hn hb
  go_enter Tryz.func61, Tryz.ntmps61
  go_wp2_with fail
  refine TK.out.mono ?_
  rintro e w2 ⟨f2, g, cap, hgp, hl, hcap, rfl⟩
  have F2 := Lib.hid ((Fr.alloc (fun _ => False) W (.cells #[.int .i64 3] 3)).trans f2)
  have HL := Lib.hid (And.intro hgp hl)
  have ecap : (1 : Int) ≤ (cap : Int) := by omega
  have c2 : w2.cell? ⟨g, J * 6 + 2, none⟩ = some (.int .i64 a) := hl.2 2 _ rfl
  clear TK f2 hl hgp hcap
  have CP := Lib.hid (rs_pop (HS.out.fresh F2.out) (by omega))
  clear HS
  go_wp2_with fail
  refine CP.out.mono ?_
  rintro e w3 ⟨rfl, hs3, f3⟩
  have HS3 := Lib.hid hs3
  have F3 := Lib.hid (f3)
  have d2 : w3.cell? ⟨g, J * 6 + 2, none⟩ = some (.int .i64 a) := (HL.out.2.fr f3 HL.out.1).2 2 _ rfl
  clear hs3 f3 CP c2 HL
  go_wp2_with fail
  refine (CK.out _ HS3.out).mono ?_
  rintro e w4 ⟨rfl, g4⟩
  have F4 := Lib.hid (((F2.out.weaken (fun _ f => f.elim)).trans F3.out).trans (Fr.of_grown (fun c => c = p) g4))
  clear g4 CK d2 HS3 F2 F3
  go_wp2_with fail
  go_ret
  exact ⟨rfl, fun q => absurd q (by simp), F4.out.trans (by first | exact Fr.refl _ _ | exact Fr.alloc _ _ _ | exact (Fr.alloc _ _ _).trans (Fr.alloc _ _ _))⟩
theorem rmove_roll (a b : Int) (x y : Bool) (J : Nat) (hn : L.length = J + 2) (h0 : L[J + 0]? = some (3, x, a, 0, 0, ⟨#[]⟩)) (h1 : L[J + 1]? = some (3, y, b, 0, 0, ⟨#[]⟩)) :
    Calls Tryz.prog 61 #[.pointer (some ⟨p, 0, none⟩), .string ⟨#[114, 111, 108, 108]⟩] W fun e w' => RPost base p W (Pl.rollS (L.take J) a b) e w' := by
  have eG : Pl.giveR L 2 [] = (0, L.take J) := by
    unfold Pl.giveR
    rw [hn, if_pos (by simp; omega), Nat.add_sub_cancel, List.append_nil]
  have hJ : (L.take J).length ≤ 200 := by rw [List.length_take]; omega
  have CG := Lib.hid (fun Z (hZ : RS base p L Z) (hbZ : base ≤ Z.heap.size) => rgive_any base p L Z (by omega) hZ hbZ 2 (by omega) [] (by simp) _ (RowV.nil Z))
  rw [eG] at CG
  have HS := Lib.hid h
  have HB := Lib.hid hb
  have TK := Lib.hid (rtake2_ok base p L (W.alloc (.cells #[.int .i64 3, .int .i64 3] 3)) (by omega) (h.fresh (Fr.alloc _ _ _)) (3, x, a, 0, 0, ⟨#[]⟩) (3, y, b, 0, 0, ⟨#[]⟩) J hn h0 h1 W.heap.size 2 (Nat.le_refl _) 3 3 (.inr (.inr (.inr rfl))) (.inr (.inr (.inr rfl))) (by simp [go_sem]) (by simp [go_sem]) (by rfl) (by rfl))
  generalize L.take J = A at CG hJ ⊢
  have CR := Lib.hid (fun Z (hZ : RS base p A Z) (hbZ : base ≤ Z.heap.size) => rs_roll hZ (by omega) hbZ a b)
  clear hlen h hn h0 h1 hb eG hJ
  go_enter Tryz.func61, Tryz.ntmps61
  go_wp2_with fail
  refine TK.out.mono ?_
  rintro e w2 ⟨f2, g, cap, hgp, hl, hcap, rfl⟩
  have F2 := Lib.hid ((Fr.alloc (fun _ => False) W (.cells #[.int .i64 3, .int .i64 3] 3)).trans f2)
  have HL := Lib.hid (And.intro hgp hl)
  have ecap : (2 : Int) ≤ (cap : Int) := by omega
  have c2 : w2.cell? ⟨g, J * 6 + 2, none⟩ = some (.int .i64 a) := hl.2 2 _ rfl
  have c8 : w2.cell? ⟨g, J * 6 + 8, none⟩ = some (.int .i64 b) := hl.2 8 _ rfl
  clear TK f2 hl hgp hcap
  go_wp2_with fail
  refine (CG.out _ (HS.out.fresh F2.out) (Nat.le_trans HB.out F2.out.2.2.1)).mono ?_
  rintro e w3 ⟨rfl, hs3, f3⟩
  have k3 := HL.out.2.fr f3 HL.out.1
  have d2 : w3.cell? ⟨g, J * 6 + 2, none⟩ = some (.int .i64 a) := k3.2 2 _ rfl
  have d8 : w3.cell? ⟨g, J * 6 + 8, none⟩ = some (.int .i64 b) := k3.2 8 _ rfl
  have F3 := Lib.hid ((F2.out.weaken (fun _ f => f.elim)).trans f3)
  have HS3 := Lib.hid hs3
  have HK3 := Lib.hid (And.intro HL.out.1 k3)
  have LR := Lib.hid ((CR.out w3.drew (HS3.out.fresh (Fr.drew (Fr.refl _ _))) (Nat.le_trans HB.out F3.out.2.2.1)).mono fun e w' hh => (⟨hh.1, (by
    have k := HK3.out.2.fr ((Fr.drew (Fr.refl (fun c => c = p) w3)).trans hh.2.2) HK3.out.1
    exact ⟨k.2 2 _ rfl, k.2 8 _ rfl⟩), hh.2.1, F3.out.trans ((Fr.drew (Fr.refl (fun c => c = p) w3)).trans hh.2.2)⟩ : e = _ ∧ (w'.cell? ⟨g, J * 6 + 2, none⟩ = some (.int .i64 a) ∧ w'.cell? ⟨g, J * 6 + 8, none⟩ = some (.int .i64 b)) ∧ _ ∧ Fr (fun c => c = p) W w'))
  clear hs3 f3 k3 CG CR HL F2 HS HB c2 c8 HK3 HS3 F3
  go_wp2_with fail
  go_region_held3 (fun Z => Z.cell? ⟨g, J * 6 + 2, none⟩ = some (.int .i64 a) ∧ Z.cell? ⟨g, J * 6 + 8, none⟩ = some (.int .i64 b)) (first | assumption | go_keep)
    (first
      | (go_at_call 88; first | (with_reducible refine Calls.mono LR.out ?_; rintro e w9 ⟨rfl, hc9, hs9, hf9⟩)))
  all_goals
    have H9 := Lib.hid (And.intro hs9 hf9)
    clear hs9 hf9 hc9
    go_wp2_with fail
    go_ret
    exact ⟨rfl, fun _ => H9.out.1, H9.out.2⟩
end
end Go.Proofs.YtfmmomdmemcbbaaGreat
