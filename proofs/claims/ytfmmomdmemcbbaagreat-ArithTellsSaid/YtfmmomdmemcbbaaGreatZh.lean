/- ArithTells: the walk. -/
import Derived.Test.YtfmmomdmemcbbaaGreatZg
import Derived.Test.YtfmmomdmemcbbaaGreatM9
import Derived.Test.YtfmmomdmemcbbaaGreatHl5
import Derived.Deep.QuietTactic
import Derived.Deep.Cut
set_option maxHeartbeats 8000000
set_option maxRecDepth 100000
namespace Go.Proofs.YtfmmomdmemcbbaaGreat
set_option linter.unusedVariables false
set_option linter.unusedSimpArgs false
open Go.RowKit
theorem Kept.of_fr9 {W w' : World} (h : Fr (fun _ => False) W w') : Kept W w' := (Kept.refl W).fr h (fun _ f => f.elim)
theorem anyH_mono {P : Program} {md : Region.Mode} {ops : Array Oper} {Q : Exit → Act → World → Prop} {S S' : World → Prop} (hSS : ∀ w, S' w → S w) : ∀ (fuel : Nat) (listed : Array Bool) (a : Act) (w : World), wpAnyH P md ops Q S' fuel listed a w → wpAnyH P md ops Q S fuel listed a w
  | 0, _, _, _, h => h
  | fuel + 1, _, _, _, h => ⟨h.1, fun i hi => wpOp_mono (fun a' w' h' => ⟨hSS _ h'.1, anyH_mono hSS fuel _ a' w' h'.2⟩) (h.2 i hi)⟩
theorem hx_change {P : Program} {ops : Array Oper} {Q : Exit → Act → World → Prop} {S : World → Prop} (S' : World → Prop) {fuel : Nat} {listed : Array Bool} {a : Act} {w : World} (hSS : ∀ w, S' w → S w) (h : wpHx P ops Q S' fuel listed a w) : wpHx P ops Q S fuel listed a w := by
  unfold wpHx at h ⊢
  exact anyH_mono hSS _ _ _ _ h
def TR (w : World) (p : Nat) (X : List Pl.Ob) (q : Nat) (Y : List Pl.Ob) (W : World) : Prop := ∃ Q : Nat → Prop, Stk w Q p X W ∧ Q q ∧ ∃ u, StkV (q + 1) q u Y W ∧ (∀ g, u.ownBlock = some g → Q g) ∧ w.heap.size ≤ q
theorem place_any (n : Int) (hn : -9223372036854775808 ≤ n ∧ n ≤ 9223372036854775807) (W : World) : Calls Tryz.prog 5 #[.int .i64 n, .int .i64 40] W fun e w' => e = .returned (.int .i64 (n % 40)) ∧ w' = W := by
  have h1 : -40 < n.tmod 40 ∧ n.tmod 40 < 40 := by
    have h1 := Int.natAbs_tmod n 40
    have h2 : n.natAbs % (40 : Int).natAbs < (40 : Int).natAbs := Nat.mod_lt _ (by decide)
    omega
  have h2 : (n.tmod 40 < 0 ∧ n.tmod 40 + 40 = n % 40) ∨ (0 ≤ n.tmod 40 ∧ n.tmod 40 = n % 40) := by
    have h3 := Int.tmod_eq_emod (a := n) (b := 40)
    have h4 := Int.emod_nonneg n (show (40 : Int) ≠ 0 by decide)
    have h5 := Int.emod_lt_of_pos n (show (0 : Int) < 40 by decide)
    split at h3
    · omega
    · simp at h3
      omega
  obtain ⟨t, ht⟩ : ∃ t, n.tmod 40 = t := ⟨_, rfl⟩
  obtain ⟨m, hm⟩ : ∃ m, n % 40 = m := ⟨_, rfl⟩
  rw [ht] at h1 h2
  rw [hm] at h2 ⊢
  clear hm
  rcases h2 with ⟨h2, h3⟩ | ⟨h2, h3⟩
  · go_enter Tryz.func5, Tryz.ntmps5
    go_wp2_with fail
    go_ret
    exact ⟨rfl, rfl⟩
  · subst h3
    go_enter Tryz.func5, Tryz.ntmps5
    go_wp2_with fail
    go_ret
    exact ⟨rfl, rfl⟩
theorem may_rows (A : List Pl.Ob) : (∀ o ∈ A, Pl.mayO o) ∨ ∃ (j : Nat) (o : Pl.Ob), A[j]? = some o ∧ ¬ Pl.mayO o := by
  by_cases h : ∀ o ∈ A, Pl.mayO o
  · exact .inl h
  · simp only [Classical.not_forall] at h
    obtain ⟨o, ho, hm⟩ := h
    obtain ⟨j, hj, e⟩ := List.getElem_of_mem ho
    exact .inr ⟨j, o, by rw [List.getElem?_eq_getElem hj, e], hm⟩
theorem both_become (w : World) (v : Value) (A : List Pl.Ob) (hlen : A.length ≤ 250) : ∃ (er : Int) (X : List Pl.Ob), X.length ≤ 200 ∧ (∀ o ∈ X, Pl.mayO o) ∧
    (∀ Q p W, Stk w Q p [] W → RowV W v A → Calls Tryz.prog 7 #[.pointer (some ⟨p, 0, none⟩), v] W fun e w' => e = .returned (.int .i64 er) ∧ Stk w Q p X w' ∧ FrS w Q W w') ∧
    (∀ q u W, StkV (q + 1) q u [] W → RowV W v A → Calls Tryz.prog 8 #[.pointer (some ⟨q, 0, none⟩), v] W fun e w' => e = .returned (.int .i64 er) ∧ (∃ u', StkV (q + 1) q u' X w' ∧ ∀ g, u'.ownBlock = some g → u.ownBlock = some g ∨ W.heap.size ≤ g) ∧ Fr (fun c => c = q) W w') := by
  rcases may_rows A with hall | ⟨j, o, hj, ho⟩
  · have hall' : ∀ (j : Nat) (o : Pl.Ob), A[j]? = some o → Pl.mayO o := fun j o hj => hall o (List.mem_of_getElem? hj)
    by_cases hl : A.length ≤ 200
    · refine ⟨0, A, hl, hall, fun Q p W hS hR => ?_, fun q u W hS hR => ?_⟩
      · exact stk_become w Q p [] W hS v A hR hall' hl
      · exact (rbecome_ok (q + 1) q v u A hl hall' W hR hS.1 hS.2.1 hS.2.2.2.2 hS.2.2.2.2).mono fun e w' hh => ⟨hh.1, ⟨_, hh.2.1.choose_spec.1, fun g r => .inr (hh.2.1.choose_spec.2 g r)⟩, hh.2.2⟩
    · refine ⟨8, [], by simp, fun o ho => (by simp at ho), fun Q p W hS hR => ?_, fun q u W hS hR => ?_⟩
      · exact (stk_become_over w Q p [] W hS v A hR hall' ⟨by omega, by omega⟩).mono fun e w' hh => ⟨hh.1, hh.2.1, Fr.of_grown _ hh.2.2⟩
      · exact (rbecome_over (q + 1) q v u A ⟨by omega, by omega⟩ hall' W hR hS.1 hS.2.1 hS.2.2.2.2 hS.2.2.2.2).mono fun e w' hh => ⟨hh.1, ⟨u, hS.fr (Fr.of_grown (fun _ => False) hh.2) (fun f => f) (fun _ _ f => f), fun g r => .inl r⟩, Fr.of_grown _ hh.2⟩
  · refine ⟨1, [], by simp, fun o ho => (by simp at ho), fun Q p W hS hR => ?_, fun q u W hS hR => ?_⟩
    · exact (stk_become_bad w Q p [] W hS v A hR (by omega) j o hj ho).mono fun e w' hh => ⟨hh.1, hh.2.1, Fr.of_grown _ hh.2.2⟩
    · exact (rbecome_bad q v A (by omega) j o hj ho W hR).mono fun e w' hh => ⟨hh.1, ⟨u, hS.fr (Fr.of_grown (fun _ => False) hh.2) (fun f => f) (fun _ _ f => f), fun g r => .inl r⟩, Fr.of_grown _ hh.2⟩
theorem Stk.frPz {W0 : World} {Pr P : Nat → Prop} {p : Nat} {L : List Pl.Ob} {W W' : World} (h : Stk W0 Pr p L W) (k : Fr P W W') (hP : ∀ c, P c → Pr c) (hb : ∀ c, P c → W0.heap.size ≤ c) : Stk W0 Pr p L W' := by
  obtain ⟨v, hS, h1, h2, h3, h4, h5⟩ := h
  exact ⟨v, hS.fr k (fun q => h3 (hP _ q)) (fun g q r => h4 g q (hP _ r)), h1, h2.fr k hb, h3, h4, fun c q => Nat.lt_of_lt_of_le (h5 c q) k.2.2.1⟩
theorem slice_len {v : Value} {n : Nat} (h : ∃ ao cap, v = .slice ao n cap) : ∃ M ao cap, M = n ∧ v = .slice ao M cap := by
  obtain ⟨ao, cap, h⟩ := h
  exact ⟨_, ao, cap, rfl, h⟩
theorem Stk.both {W0 W W' : World} {p q : Nat} {L : List Pl.Ob} {u : Value} (h : Stk W0 (fun c => False ∨ c = q) p L W) (k : Fr (fun c => c = q) W W') (hq : W0.heap.size ≤ q) (hu : ∀ g, u.ownBlock = some g → W.heap.size ≤ g) (hl : ∀ g, u.ownBlock = some g → g < W'.heap.size) : Stk W0 (fun c => c = q ∨ u.ownBlock = some c) p L W' := by
  obtain ⟨v, hS, h1, h2, h3, h4, h5⟩ := h
  have hp := hS.2.2.2.2
  have hk := k.2.2.1
  refine ⟨v, hS.fr k (fun e => h3 (.inr e)) (fun g r e => h4 g r (.inr e)), h1, h2.fr k (fun c e => by subst e; exact hq), fun e => ?_, fun g r e => ?_, fun c e => ?_⟩
  · rcases e with e | e
    · exact h3 (.inr e)
    · have := hu _ e
      omega
  · rcases e with e | e
    · exact h4 g r (.inr e)
    · have := hu _ e
      have := own_lt hS.2.2.1 g r
      omega
  · rcases e with e | e
    · have := h5 c (.inr e)
      omega
    · exact hl c e
theorem same_yes (v1 v2 : Value) (L : List Pl.Ob) (hlen : L.length ≤ 600) (W : World) (h1 : RowV W v1 L) (h2 : RowV W v2 L) :
    Calls Tryz.prog 11 #[v1, v2] W fun e w' => e = .returned (.bool true) ∧ Grown W w' := by
  obtain ⟨M, hM⟩ : ∃ M, M = L.length := ⟨_, rfl⟩
  obtain ⟨ao1, cap1, hv1, -⟩ := id h1
  obtain ⟨ao2, cap2, hv2, -⟩ := id h2
  rw [← hM] at hv1 hv2
  subst hv1
  subst hv2
  have H1 := Lib.hid h1
  have H2 := Lib.hid h2
  have HM := Lib.hid hM
  rw [← hM] at hlen
  clear h1 h2 hM
  go_enter Tryz.func11, Tryz.ntmps11
  go_wp2_with fail
  go_loopw [5] (fun i wr => ∃ k : Nat, i = .int .i64 (k : Int) ∧ k ≤ M ∧ Grown W wr) (fun i _ => ((M : Int) - intOf i).toNat)
  case atStart => exact ⟨0, rfl, by omega, Grown.refl W⟩
  case round =>
    obtain ⟨k, rfl, hk, g1⟩ := hrel
    go_wp2_with fail
    · obtain ⟨⟨kk, x, n, a, l, s⟩, hq⟩ : ∃ q, L[k]? = some q := ⟨_, List.getElem?_eq_getElem (by have := HM.out; omega)⟩
      obtain ⟨ga, oa, ca, hva, hga, a0, a1, a2, a3, a4, a5⟩ := (H1.out.grown g1).at k _ hq
      obtain ⟨gb, ob, cb, hvb, hgb, b0, b1, b2, b3, b4, b5⟩ := (H2.out.grown g1).at k _ hq
      injection hva with q1 q2 q3
      injection hvb with q4 q5 q6
      subst q1
      subst q4
      clear q2 q3 q5 q6 hq
      go_region
      all_goals
        go_wp2_with fail
        go_roundw
        case rel => exact ⟨k + 1, by simp, by omega, g1.drew⟩
        case measure => simp [intOf] <;> omega
    · go_ret
      exact ⟨rfl, g1⟩
theorem tells_long (v0 : Value) (A : List Pl.Ob) (n : Int) (w : World) (hA : RowV w v0 A) (hn : -9223372036854775808 ≤ n ∧ n ≤ 9223372036854775807) (hN : 250 < A.length ∧ A.length ≤ maxLen) :
    Calls Tryz.prog 3 #[v0, .int .i64 n] w fun en w' => en = .returned (.bool true) ∧ Kept w w' := by
  have K := Lib.hid known18
  obtain ⟨ao, cap, rfl, _⟩ := hA
  obtain ⟨N, hNN⟩ : ∃ N, N = A.length := ⟨_, rfl⟩
  rw [← hNN] at hN ⊢
  have e1 : (250 : Int) < (N : Int) := by omega
  clear hNN
  go_enter Tryz.func3, Tryz.ntmps3
  go_wp2_with fail
  refine (K.out _).mono ?_
  rintro en w0 ⟨rfl, f0⟩
  have F0 := Lib.hid f0
  clear f0 K
  go_wp2_with fail
  go_ret
  exact ⟨rfl, Kept.of_fr9 F0.out⟩
theorem tells_main (v0 : Value) (A : List Pl.Ob) (n : Int) (w : World) (hA : RowV w v0 A) (hn : -9223372036854775808 ≤ n ∧ n ≤ 9223372036854775807) (hN : A.length ≤ 250) :
    Calls Tryz.prog 3 #[v0, .int .i64 n] w fun en w' => en = .returned (.bool true) ∧ Kept w w' := by
  have K := Lib.hid known18
  obtain ⟨er, X, hX, hXm, CB1, CB2⟩ := both_become w v0 A hN
  obtain ⟨ao, cap, rfl, _⟩ := id hA
  have HA := Lib.hid hA
  have HB1 := Lib.hid CB1
  have HB2 := Lib.hid CB2
  have HX := Lib.hid (And.intro hX hXm)
  obtain ⟨N, hNN⟩ : ∃ N, N = A.length := ⟨_, rfl⟩
  rw [← hNN] at HA HB1 HB2 hN ⊢
  have HN := Lib.hid (And.intro hNN hN)
  have e1 : (N : Int) ≤ 250 := by omega
  have PL := Lib.hid (fun Z => place_any n hn Z)
  have hm : 0 ≤ n % 40 ∧ n % 40 ≤ 39 := by omega
  obtain ⟨m, hme⟩ : ∃ m, n % 40 = m := ⟨_, rfl⟩
  rw [hme] at PL hm
  have CN := Lib.hid (fun Z (h : Kept w Z) => (stk_new w (fun _ => False) Z h (fun _ f => f.elim)).mono fun e w' hh => (⟨_, hh.1, hh.2.1, hh.2.2⟩ : ∃ p, e = .returned (.pointer (some ⟨p, 0, none⟩)) ∧ Stk w (fun _ => False) p [] w' ∧ FrS w (fun _ => False) Z w'))
  have SM : Hid (∀ Z v1 v2 L, L.length ≤ 600 → RowV Z v1 L → RowV Z v2 L → Calls Tryz.prog 11 #[v1, v2] Z fun e w' => e = .returned (.bool true) ∧ Grown Z w') := Lib.hid (fun Z v1 v2 L hl h1 h2 => same_yes v1 v2 L hl Z h1 h2)
  obtain ⟨⟨d1, L1⟩, hR1⟩ : ∃ R, R = Pl.doR X n := ⟨_, rfl⟩
  obtain ⟨⟨d2, L2⟩, hR2⟩ : ∃ R, R = Pl.doR X (1 + m) := ⟨_, rfl⟩
  have HL1 := Lib.hid (show L1.length ≤ 200 by have := Pl.doR_len X n hX; rw [← hR1] at this; exact this)
  have HL2 := Lib.hid (show L2.length ≤ 200 by have := Pl.doR_len X (1 + m) hX; rw [← hR2] at this; exact this)
  have DA1 : Hid (∀ Q p Z, Stk w Q p X Z → Calls Tryz.prog 9 #[.pointer (some ⟨p, 0, none⟩), .int .i64 n] Z fun e w' => e = .returned (.int .i64 d1) ∧ Stk w Q p L1 w' ∧ FrS w Q Z w') := Lib.hid (fun Q p Z h => by have := do_any w Q p X Z hX h hXm n; rw [← hR1] at this; exact this)
  have DA2 : Hid (∀ Q p Z, Stk w Q p X Z → Calls Tryz.prog 9 #[.pointer (some ⟨p, 0, none⟩), .int .i64 (1 + m)] Z fun e w' => e = .returned (.int .i64 d2) ∧ Stk w Q p L2 w' ∧ FrS w Q Z w') := Lib.hid (fun Q p Z h => by have := do_any w Q p X Z hX h hXm (1 + m); rw [← hR2] at this; exact this)
  have DB1 : Hid (∀ q Z, RS (q + 1) q X Z → Calls Tryz.prog 10 #[.pointer (some ⟨q, 0, none⟩), .int .i64 n] Z fun e w' => e = .returned (.int .i64 d1) ∧ RS (q + 1) q L1 w' ∧ Fr (fun c => c = q) Z w') := Lib.hid (fun q Z h => by have := rDo_any q X Z hX h hXm n hn; rw [← hR1] at this; exact this)
  have DB2 : Hid (∀ q Z, RS (q + 1) q X Z → Calls Tryz.prog 10 #[.pointer (some ⟨q, 0, none⟩), .int .i64 (1 + m)] Z fun e w' => e = .returned (.int .i64 d2) ∧ RS (q + 1) q L2 w' ∧ Fr (fun c => c = q) Z w') := Lib.hid (fun q Z h => by have := rDo_any q X Z hX h hXm (1 + m) (by omega); rw [← hR2] at this; exact this)
  clear hA CB1 CB2 hX hXm hNN hN hme hR1 hR2
  go_enter Tryz.func3, Tryz.ntmps3
  go_wp2_with fail
  refine (K.out _).mono ?_
  rintro en w0 ⟨rfl, f0⟩
  have F0 := Lib.hid f0
  clear f0 K
  go_wp2_with fail
  go_loop [5] (fun s => ∃ i : Nat, s = .int .i64 (i : Int) ∧ i ≤ N) (fun s => ((N : Int) - intOf s).toNat)
  case atStart => exact ⟨0, rfl, by omega⟩
  case round =>
    obtain ⟨i, rfl, hi⟩ := hrel
    go_wp2_with fail
    · obtain ⟨⟨kk, x, nn, a, l, s⟩, hq⟩ : ∃ q, A[i]? = some q := ⟨_, List.getElem?_eq_getElem (by have := HN.out.1; omega)⟩
      obtain ⟨ga, oa, ca, hva, hga, a0, a1, a2, a3, a4, a5⟩ := (HA.out.kept0 (Kept.of_fr9 F0.out)).at i _ hq
      injection hva with q1 q2 q3
      subst q1
      clear q2 q3 hq
      by_cases hs : s.size ≤ 200
      · go_wp2_with fail
        exact ⟨⟨i + 1, by simp, by omega⟩, by simp [intOf] <;> omega⟩
      · go_wp2_with fail
        go_ret
        exact ⟨rfl, Kept.of_fr9 F0.out⟩
    · clear HN
      refine (PL.out _).mono ?_
      rintro en z0 ⟨rfl, rfl⟩
      clear PL
      have wm : IntKind.i64.wrap (1 + m) = 1 + m := by unfold IntKind.wrap IntKind.bits IntKind.signed; simp; omega
      have i0 : ∀ W, (Instr.index 27 (.agg #[.int .i64 n, .int .i64 (1 + m)]) (.int .i64 0)).run Tryz.prog W = .ok (.int .i64 n) W := fun W => rfl
      have i1 : ∀ W, (Instr.index 27 (.agg #[.int .i64 n, .int .i64 (1 + m)]) (.int .i64 1)).run Tryz.prog W = .ok (.int .i64 (1 + m)) W := fun W => rfl
      go_wp2_with fail
      go_loopw [33] (fun s wz => (s = .int .i64 0 ∨ s = .int .i64 1 ∨ s = .int .i64 2) ∧ Hid (Fr (fun _ => False) w wz)) (fun s _ => (2 - intOf s).toNat)
      case atStart => exact ⟨.inl rfl, F0⟩
      case round =>
        obtain ⟨hj, HZ⟩ := hrel
        clear F0 hi
        rcases hj with rfl | rfl | rfl
        rotate_left 2
        · go_wp2_with fail
          go_ret
          exact ⟨rfl, Kept.of_fr9 HZ.out⟩
        have DA := DA1
        have DB := DB1
        have HL := HL1
        rotate_left
        have DA := DA2
        have DB := DB2
        have HL := HL2
        rotate_left
        all_goals
          clear DA1 DA2 DB1 DB2 HL1 HL2
          go_wp2_with fail
          refine (CN.out _ (Kept.of_fr9 HZ.out)).mono ?_
          rintro en z1 ⟨p, rfl, hS, hf⟩
          have FA := Lib.hid (HZ.out.trans' hf (fun i q => .inr q.2))
          have HQ0 := hS.box (.cells #[.slice none 0 0] 32)
          have HV0 : StkV (z1.heap.size + 1) z1.heap.size (.slice none 0 0) [] (z1.alloc (.cells #[.slice none 0 0] 32)) := ⟨by simp [go_sem], by rw [frozen?_alloc_cells]; simp [World.frozen?], World.ownsRow_nil _ _ _ _, by simp [Value.ownBlock], by simp⟩
          have FB0 := FA.out.trans (Fr.alloc (fun _ => False) z1 (.cells #[.slice none 0 0] 32))
          have hq0 : w.heap.size ≤ z1.heap.size := FA.out.2.2.1
          go_wp2_with fail
          obtain ⟨q, hq⟩ : ∃ q, q = z1.heap.size := ⟨_, rfl⟩
          rw [← hq] at HQ0 HV0 hq0 ⊢
          generalize hZ2 : z1.alloc (.cells #[.slice none 0 0] 32) = Z2 at *
          have H0 := Lib.hid (And.intro HQ0 (And.intro HV0 (And.intro FB0 hq0)))
          clear HQ0 HV0 FB0 hq0 hZ2 hq hS hf FA HZ CN
          refine hx_start (S := fun _ => True) 26 rfl (by kernel_rfl) ?_
          refine hx_take 0 _ ?_ rfl (by kernel_rfl) (by kernel_rfl) (by kernel_rfl) (fun _ _ _ h => h) (by rfl) (fun Z hZ => ?_) trivial ?_
          rotate_left
          · unfold yAt
            go_simp
            (all_goals with_reducible rfl)
            done
          try simp only [Act.put, List.setIfInBounds_toArray, List.set_cons_zero, List.set_cons_succ]
          refine hx_take 1 _ ?_ rfl (by kernel_rfl) (by kernel_rfl) (by kernel_rfl) (fun _ _ _ h => h) (by rfl) (fun Z hZ => ?_) trivial ?_
          rotate_left
          · unfold yAt
            go_simp
            (all_goals with_reducible rfl)
            done
          try simp only [Act.put, List.setIfInBounds_toArray, List.set_cons_zero, List.set_cons_succ]
          refine hx_take 3 _ ?_ rfl (by kernel_rfl) (by kernel_rfl) (by kernel_rfl) (fun _ _ _ h => h) (by rfl) (fun Z hZ => ?_) trivial ?_
          rotate_left
          · unfold yAt
            go_simp
            (all_goals with_reducible rfl)
            done
          try simp only [Act.put, List.setIfInBounds_toArray, List.set_cons_zero, List.set_cons_succ]
          refine hx_take 4 _ ?_ rfl (by kernel_rfl) (by kernel_rfl) (by kernel_rfl) (fun _ _ _ h => h) (by rfl) (fun Z hZ => ?_) trivial ?_
          rotate_left
          · unfold yAt
            go_simp
            (all_goals with_reducible rfl)
            done
          try simp only [Act.put, List.setIfInBounds_toArray, List.set_cons_zero, List.set_cons_succ]
          refine hx_one 2 _ rfl (by kernel_rfl) (by rfl) (fun K hK => ?_)
          go_simp
          refine (HB1.out _ _ _ (H0.out.1.frPz (P := fun _ => False) ((Fr.refl _ _).drew) (fun _ f => f.elim) (fun _ f => f.elim)) (HA.out.kept0 (Kept.of_fr9 H0.out.2.2.1.drew))).mono ?_
          rintro en z3 ⟨rfl, hs, hf⟩
          have H1 := Lib.hid (And.intro hs (And.intro ((H0.out.2.1.fr (P := fun _ => False) ((Fr.refl _ _).drew) (fun f => f) (fun _ _ f => f)).fr hf (fun a => a.1 (.inr rfl)) (fun g r => by simp [Value.ownBlock] at r)) (And.intro (H0.out.2.2.1.drew.trans' hf (fun i h => .inr h.2)) H0.out.2.2.2)))
          clear hs hf H0 HB1
          refine hK.out _ _ trivial ?_
          clear hK K
          try simp only [Act.put, List.setIfInBounds_toArray, List.set_cons_zero, List.set_cons_succ]
          refine hx_one 5 _ rfl (by kernel_rfl) (by rfl) (fun K hK => ?_)
          go_simp
          refine (HB2.out _ _ _ H1.out.2.1 (HA.out.kept0 (Kept.of_fr9 H1.out.2.2.1))).mono ?_
          rintro en z4 ⟨rfl, ⟨u, hv, hu⟩, hf⟩
          have H2 := Lib.hid (And.intro (H1.out.1.both (u := u) hf H1.out.2.2.2 (fun g r => (hu g r).elim (fun e => by simp [Value.ownBlock] at e) id) (own_lt hv.2.2.1)) (And.intro hv (And.intro (H1.out.2.2.1.trans' hf (fun i h => .inr (by rw [h]; exact H1.out.2.2.2))) H1.out.2.2.2)))
          clear hv hu hf H1 HB2 HA
          refine hK.out _ _ trivial ?_
          clear hK K
          try simp only [Act.put, List.setIfInBounds_toArray, List.set_cons_zero, List.set_cons_succ]
          refine hx_take 6 _ ?_ rfl (by kernel_rfl) (by kernel_rfl) (by kernel_rfl) (fun _ _ _ h => h) (by rfl) (fun Z hZ => ?_) trivial ?_
          rotate_left
          · unfold yAt
            go_simp
            (all_goals with_reducible rfl)
            done
          try simp only [Act.put, List.setIfInBounds_toArray, List.set_cons_zero, List.set_cons_succ]
          refine hx_take 7 _ ?_ rfl (by kernel_rfl) (by kernel_rfl) (by kernel_rfl) (fun _ _ _ h => h) (by rfl) (fun Z hZ => ?_) trivial ?_
          rotate_left
          · unfold yAt
            go_simp
            (all_goals with_reducible rfl)
            done
          try simp only [Act.put, List.setIfInBounds_toArray, List.set_cons_zero, List.set_cons_succ]
          refine hx_take 8 _ ?_ rfl (by kernel_rfl) (by kernel_rfl) (by kernel_rfl) (fun _ _ _ h => h) (by rfl) (fun Z hZ => ?_) trivial ?_
          rotate_left
          · unfold yAt
            go_simp
            (all_goals with_reducible rfl)
            done
          try simp only [Act.put, List.setIfInBounds_toArray, List.set_cons_zero, List.set_cons_succ]
          refine hx_take 9 _ ?_ rfl (by kernel_rfl) (by kernel_rfl) (by kernel_rfl) (fun _ _ _ h => h) (by rfl) (fun Z hZ => ?_) trivial ?_
          rotate_left
          · unfold yAt
            go_simp
            (all_goals with_reducible rfl)
            done
          try simp only [Act.put, List.setIfInBounds_toArray, List.set_cons_zero, List.set_cons_succ]
          refine hx_take 11 _ ?_ rfl (by kernel_rfl) (by kernel_rfl) (by kernel_rfl) (fun _ _ _ h => h) (by rfl) (fun Z hZ => ?_) trivial ?_
          rotate_left
          · unfold yAt
            go_simp
            (all_goals with_reducible rfl)
            done
          try simp only [Act.put, List.setIfInBounds_toArray, List.set_cons_zero, List.set_cons_succ]
          refine hx_take 12 _ ?_ rfl (by kernel_rfl) (by kernel_rfl) (by kernel_rfl) (fun _ _ _ h => h) (by rfl) (fun Z hZ => ?_) trivial ?_
          rotate_left
          · unfold yAt
            go_simp
            (all_goals with_reducible rfl)
            done
          try simp only [Act.put, List.setIfInBounds_toArray, List.set_cons_zero, List.set_cons_succ]
          refine hx_one 10 _ rfl (by kernel_rfl) (by rfl) (fun K hK => ?_)
          go_simp
          refine (DA.out _ _ _ H2.out.1).mono ?_
          rintro en z5 ⟨rfl, hs, hf⟩
          have H3 := Lib.hid (And.intro hs (And.intro (H2.out.2.1.fr hf (fun a => a.1 (.inl rfl)) (fun g r a => a.1 (.inr r))) (And.intro (H2.out.2.2.1.trans' hf (fun i h => .inr h.2)) H2.out.2.2.2)))
          clear hs hf H2 DA
          refine hK.out _ _ trivial ?_
          clear hK K
          try simp only [Act.put, List.setIfInBounds_toArray, List.set_cons_zero, List.set_cons_succ]
          refine hx_one 13 _ rfl (by kernel_rfl) (by rfl) (fun K hK => ?_)
          go_simp
          refine (DB.out _ _ ⟨_, H3.out.2.1⟩).mono ?_
          rintro en z6 ⟨rfl, ⟨v6, hv⟩, hf⟩
          have hs6 := H3.out.1.frPz hf (fun c e => .inl e) (fun c e => by rw [e]; exact H3.out.2.2.2)
          have hf6 := H3.out.2.2.1.trans' hf (fun i h => .inr (by rw [h]; exact H3.out.2.2.2))
          obtain ⟨M6, a6, c6, hM6, e6⟩ := slice_len hv.slice
          subst e6
          obtain ⟨v7, hs7, _⟩ := hs6
          have H4 := Lib.hid (And.intro hs7 (And.intro hv hf6))
          have hc6 := hv.1
          have HM6 := Lib.hid hM6
          have HC6 := Lib.hid hc6
          clear hs7 hv hf hf6 hM6 hc6 H3 DB
          refine hK.out _ _ trivial ?_
          clear hK K
          try simp only [Act.put, List.setIfInBounds_toArray, List.set_cons_zero, List.set_cons_succ]
          refine hx_change (S' := fun Z => Z.cell? ⟨q, 0, none⟩ = some (.slice a6 M6 c6)) (fun _ _ => trivial) ?_
          refine hx_take 14 _ ?_ rfl (by kernel_rfl) (by kernel_rfl) (by kernel_rfl) (fun _ _ _ h => h) (by rfl) (fun Z hZ => ?_) HC6.out ?_
          rotate_left
          · unfold yAt
            go_simp
            (all_goals with_reducible rfl)
            done
          try simp only [List.getElem_toArray, List.getElem_cons_succ, List.getElem_cons_zero]
          try simp only [Act.put, List.setIfInBounds_toArray, List.set_cons_zero, List.set_cons_succ]
          refine hx_take 15 _ ?_ rfl (by kernel_rfl) (by kernel_rfl) (by kernel_rfl) (fun _ _ _ h => h) (by rfl) (fun Z hZ => ?_) HC6.out ?_
          rotate_left
          · unfold yAt
            go_simp
            (all_goals with_reducible rfl)
            done
          try simp only [List.getElem_toArray, List.getElem_cons_succ, List.getElem_cons_zero]
          try simp only [Act.put, List.setIfInBounds_toArray, List.set_cons_zero, List.set_cons_succ]
          refine hx_take 16 _ ?_ rfl (by kernel_rfl) (by kernel_rfl) (by kernel_rfl) (fun _ _ _ h => h) (by rfl) (fun Z hZ => ?_) HC6.out ?_
          rotate_left
          · unfold yAt
            go_simp
            (all_goals with_reducible rfl)
            done
          try simp only [List.getElem_toArray, List.getElem_cons_succ, List.getElem_cons_zero]
          try simp only [Act.put, List.setIfInBounds_toArray, List.set_cons_zero, List.set_cons_succ]
          refine hx_take 17 _ ?_ rfl (by kernel_rfl) (by kernel_rfl) (by kernel_rfl) (fun _ _ _ h => h) (by rfl) (fun Z hZ => ?_) HC6.out ?_
          rotate_left
          · unfold yAt
            go_simp
            (all_goals with_reducible rfl)
            done
          try simp only [List.getElem_toArray, List.getElem_cons_succ, List.getElem_cons_zero]
          try simp only [Act.put, List.setIfInBounds_toArray, List.set_cons_zero, List.set_cons_succ]
          refine hx_take 19 _ ?_ rfl (by kernel_rfl) (by kernel_rfl) (by kernel_rfl) (fun _ _ _ h => h) (by rfl) (fun Z hZ => ?_) HC6.out ?_
          rotate_left
          · unfold yAt
            go_simp
            (all_goals with_reducible rfl)
            done
          try simp only [List.getElem_toArray, List.getElem_cons_succ, List.getElem_cons_zero]
          try simp only [Act.put, List.setIfInBounds_toArray, List.set_cons_zero, List.set_cons_succ]
          refine hx_take 20 _ ?_ rfl (by kernel_rfl) (by kernel_rfl) (by kernel_rfl) (fun _ _ _ h => h) (by rfl) (fun Z hZ => ?_) HC6.out ?_
          rotate_left
          · unfold yAt
            go_simp
            (all_goals with_reducible rfl)
            done
          try simp only [List.getElem_toArray, List.getElem_cons_succ, List.getElem_cons_zero]
          try simp only [Act.put, List.setIfInBounds_toArray, List.set_cons_zero, List.set_cons_succ]
          refine hx_take 21 _ ?_ rfl (by kernel_rfl) (by kernel_rfl) (by kernel_rfl) (fun _ _ _ h => h) (by rfl) (fun Z hZ => ?_) HC6.out ?_
          rotate_left
          · unfold yAt
            go_simp
            (all_goals with_reducible rfl)
            done
          try simp only [List.getElem_toArray, List.getElem_cons_succ, List.getElem_cons_zero]
          try simp only [Act.put, List.setIfInBounds_toArray, List.set_cons_zero, List.set_cons_succ]
          refine hx_take 22 _ ?_ rfl (by kernel_rfl) (by kernel_rfl) (by kernel_rfl) (fun _ _ _ h => h) (by rfl) (fun Z hZ => ?_) HC6.out ?_
          rotate_left
          · unfold yAt
            go_simp
            (all_goals with_reducible rfl)
            done
          try simp only [List.getElem_toArray, List.getElem_cons_succ, List.getElem_cons_zero]
          try simp only [Act.put, List.setIfInBounds_toArray, List.set_cons_zero, List.set_cons_succ]
          refine hx_one 18 _ rfl (by kernel_rfl) (by rfl) (fun K hK => ?_)
          go_simp
          refine (items_any _ _ _ _ (Nat.le_trans HL.out (by omega)) _ H4.out.1).mono ?_
          rintro en z7 ⟨vi, rfl, ho, hf⟩
          have H5 := Lib.hid (And.intro (own_row ho) (And.intro ((own_row H4.out.2.1.2.2.1).fr0 hf) (H4.out.2.2.trans hf)))
          have HC7 := Lib.hid ((hf.cell (a := ⟨q, 0, none⟩) H4.out.2.1.2.2.2.2 (fun f => f)).trans HC6.out)
          have hq7 := Lib.hid (Nat.lt_of_lt_of_le H4.out.2.1.2.2.2.2 hf.2.2.1)
          clear ho hf H4 HC6
          refine hK.out _ _ HC7.out ?_
          clear hK K
          try simp only [List.getElem_toArray, List.getElem_cons_succ, List.getElem_cons_zero]
          try simp only [Act.put, List.setIfInBounds_toArray, List.set_cons_zero, List.set_cons_succ]
          refine hx_one 23 _ rfl (by kernel_rfl) (by rfl) (fun K hK => ?_)
          go_simp
          refine (SM.out _ _ _ _ (Nat.le_trans HL.out (by omega)) H5.out.1 H5.out.2.1).mono ?_
          rintro en z8 ⟨rfl, hg⟩
          have FIN := Lib.hid (H5.out.2.2.trans (Fr.of_grown _ hg))
          have HC8 := Lib.hid (((Fr.of_grown (fun _ => False) hg).cell (a := ⟨q, 0, none⟩) hq7.out (fun f => f)).trans HC7.out)
          clear hg H5 HC7
          refine hK.out _ _ HC8.out ?_
          clear hK K
          try simp only [List.getElem_toArray, List.getElem_cons_succ, List.getElem_cons_zero]
          try simp only [Act.put, List.setIfInBounds_toArray, List.set_cons_zero, List.set_cons_succ]
          refine hx_take 24 _ ?_ rfl (by kernel_rfl) (by kernel_rfl) (by kernel_rfl) (fun _ _ _ h => h) (by rfl) (fun Z hZ => ?_) HC8.out ?_
          rotate_left
          · unfold yAt
            go_simp
            (all_goals with_reducible rfl)
            done
          try simp only [List.getElem_toArray, List.getElem_cons_succ, List.getElem_cons_zero]
          try simp only [Act.put, List.setIfInBounds_toArray, List.set_cons_zero, List.set_cons_succ]
          refine hx_take 25 _ ?_ rfl (by kernel_rfl) (by kernel_rfl) (by kernel_rfl) (fun _ _ _ h => h) (by rfl) (fun Z hZ => ?_) HC8.out ?_
          rotate_left
          · unfold yAt
            go_simp
            (all_goals with_reducible rfl)
            done
          try simp only [List.getElem_toArray, List.getElem_cons_succ, List.getElem_cons_zero]
          try simp only [Act.put, List.setIfInBounds_toArray, List.set_cons_zero, List.set_cons_succ]
          refine hx_done (by kernel_rfl) ?_
          go_wp2_with fail
          first
            | exact ⟨⟨.inr (.inl rfl), FIN⟩, by simp [intOf]⟩
            | exact ⟨⟨.inr (.inr rfl), FIN⟩, by simp [intOf]⟩
            | (refine ⟨?_, by simp [intOf]⟩
               repeat (apply Exists.intro (α := Value))
               first
                 | exact ⟨.inr (.inl rfl), FIN⟩
                 | exact ⟨.inr (.inr rfl), FIN⟩
                 | (refine ⟨⟨.inr (.inl rfl), FIN⟩, ?_⟩
                    repeat (first | exact rfl | refine ⟨rfl, ?_⟩))
                 | (refine ⟨⟨.inr (.inr rfl), FIN⟩, ?_⟩
                    repeat (first | exact rfl | refine ⟨rfl, ?_⟩)))
end Go.Proofs.YtfmmomdmemcbbaaGreat
