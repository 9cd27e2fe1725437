/- Each method of the stack, and of the reference's, by one plain function. -/
import Derived.Test.YtenmbkngkabonaaT26
import Derived.Test.YtenmbkngkabonaaT29
import Derived.Test.YtenmbkngkabonaaT30
namespace Go.Proofs.Ytenmbkngkabonaa
set_option linter.unusedVariables false
open Go.RowKit

open Classical in
noncomputable def Pl.pushR (L : List Pl.Ob) (o : Pl.Ob) : Int × List Pl.Ob := if Pl.mayO o then (if L.length < 200 then (0, L ++ [o]) else (8, L)) else (1, L)
def Pl.popR (L : List Pl.Ob) : Pl.Ob × Int × List Pl.Ob := match L.getLast? with
  | none => (Pl.zer, 7, L)
  | some o => (o, 0, L.dropLast)
def Pl.peekR (L : List Pl.Ob) (i : Int) : Pl.Ob × Int := if i < 0 then (Pl.zer, 2) else match L.reverse[i.toNat]? with
  | none => (Pl.zer, 7)
  | some o => (o, 0)
def Pl.dupR (L : List Pl.Ob) (n : Int) : Int × List Pl.Ob := if n < 0 then (2, L) else if (L.length : Int) < n then (7, L) else if 200 < L.length + n.toNat then (8, L) else (0, L ++ L.drop (L.length - n.toNat))
def Pl.rollR (L : List Pl.Ob) (n j : Int) : Int × List Pl.Ob := if n < 0 then (2, L) else if (L.length : Int) < n then (7, L) else (0, Pl.rot L n.toNat j)
open Classical in
noncomputable def Pl.becomeR (L A : List Pl.Ob) : Int × List Pl.Ob := if ∀ (j : Nat) (o : Pl.Ob), A[j]? = some o → Pl.mayO o then (if A.length ≤ 200 then (0, A) else (8, L)) else (1, L)

theorem Pl.pushR_len (L : List Pl.Ob) (o : Pl.Ob) (h : L.length ≤ 200) : (Pl.pushR L o).2.length ≤ 200 := by
  unfold Pl.pushR
  split
  · split
    · simp; omega
    · exact h
  · exact h
theorem Pl.popR_len (L : List Pl.Ob) (h : L.length ≤ 200) : (Pl.popR L).2.2.length ≤ 200 := by
  unfold Pl.popR
  split
  · exact h
  · simp; omega
theorem Pl.dupR_len (L : List Pl.Ob) (n : Int) (h : L.length ≤ 200) : (Pl.dupR L n).2.length ≤ 200 := by
  unfold Pl.dupR
  split
  · exact h
  split
  · exact h
  split
  · exact h
  · simp; omega
theorem Pl.rollR_len (L : List Pl.Ob) (n j : Int) (h : L.length ≤ 200) : (Pl.rollR L n j).2.length ≤ 200 := by
  unfold Pl.rollR
  split
  · exact h
  split
  · exact h
  · rw [Pl.rot_len _ _ _ (by omega)]
    exact h
theorem Pl.becomeR_len (L A : List Pl.Ob) (h : L.length ≤ 200) : (Pl.becomeR L A).2.length ≤ 200 := by
  unfold Pl.becomeR
  split
  · split
    · assumption
    · exact h
  · exact h

section
variable (W0 : World) (Pr : Nat → Prop) (p : Nat) (L : List Pl.Ob) (W : World) (hlen : L.length ≤ 200) (h : Stk W0 Pr p L W)
include h hlen
theorem push_all (o : Pl.Ob) :
    Calls Try.prog 38 #[.pointer (some ⟨p, 0, none⟩), Pl.ov o] W fun e w' => e = .returned (.int .i64 (Pl.pushR L o).1) ∧ Stk W0 Pr p (Pl.pushR L o).2 w' ∧ FrS W0 Pr W w' := by
  unfold Pl.pushR
  by_cases hm : Pl.mayO o
  · rw [if_pos hm]
    by_cases hn : L.length < 200
    · rw [if_pos hn]
      exact stk_push W0 Pr p L W h o hm hn
    · rw [if_neg hn]
      refine (stk_push_full W0 Pr p L W h o hm (by omega) (by omega)).mono ?_
      rintro e w' ⟨he, hs, g⟩
      exact ⟨he, hs, Fr.of_grown _ g⟩
  · rw [if_neg hm]
    refine (stk_push_bad W0 Pr p L W h o hm).mono ?_
    rintro e w' ⟨he, hs, g⟩
    exact ⟨he, hs, Fr.of_grown _ g⟩
theorem rpush_all (o : Pl.Ob) :
    Calls Try.prog 50 #[.pointer (some ⟨p, 0, none⟩), Pl.ov o] W fun e w' => e = .returned (.int .i64 (Pl.pushR L o).1) ∧ Stk W0 Pr p (Pl.pushR L o).2 w' ∧ FrS W0 Pr W w' := by
  unfold Pl.pushR
  obtain ⟨v, hS, h1, h2, h3, h4, h5⟩ := id h
  by_cases hm : Pl.mayO o
  · rw [if_pos hm]
    by_cases hn : L.length < 200
    · rw [if_pos hn]
      refine (rpush_ok W0.heap.size p v L o.1 o.2.1 o.2.2.1 o.2.2.2.1 o.2.2.2.2.1 o.2.2.2.2.2 hm hn W hS h2.2.2).mono ?_
      rintro e w' ⟨rfl, ⟨v', hS', hv'⟩, hF⟩
      exact ⟨rfl, stk_step hS h1 h2 h3 h4 h5 hS' (fun g q => .inr (hv' g q)) (hF.weaken (fun c q => .inl q))⟩
    · rw [if_neg hn]
      refine (rpush_full W0.heap.size p v L o.1 o.2.1 o.2.2.1 o.2.2.2.1 o.2.2.2.2.1 o.2.2.2.2.2 hm (by omega) W hS).mono ?_
      rintro e w' ⟨rfl, g⟩
      exact ⟨rfl, h.grown g, Fr.of_grown _ g⟩
  · rw [if_neg hm]
    refine (rpush_bad W0.heap.size p v L o.1 o.2.1 o.2.2.1 o.2.2.2.1 o.2.2.2.2.1 o.2.2.2.2.2 hm W hS).mono ?_
    rintro e w' ⟨rfl, g⟩
    exact ⟨rfl, h.grown g, Fr.of_grown _ g⟩
theorem pop_all :
    Calls Try.prog 41 #[.pointer (some ⟨p, 0, none⟩)] W fun e w' => e = .returned (.tuple #[Pl.ov (Pl.popR L).1, .int .i64 (Pl.popR L).2.1]) ∧ Stk W0 Pr p (Pl.popR L).2.2 w' ∧ FrS W0 Pr W w' := by
  rcases List.eq_nil_or_concat L with rfl | ⟨A, o, hAo⟩
  · refine (stk_pop_none W0 Pr p [] W h rfl).mono ?_
    rintro e w' ⟨he, hs, g⟩
    exact ⟨he, hs, Fr.of_grown _ g⟩
  · rw [List.concat_eq_append] at hAo
    subst hAo
    have e1 : Pl.popR (A ++ [o]) = (o, 0, A) := by simp [Pl.popR]
    rw [e1]
    exact stk_pop W0 Pr p _ W h A o rfl (by simp at hlen; omega)
theorem rpop_all :
    Calls Try.prog 51 #[.pointer (some ⟨p, 0, none⟩)] W fun e w' => e = .returned (.tuple #[Pl.ov (Pl.popR L).1, .int .i64 (Pl.popR L).2.1]) ∧ Stk W0 Pr p (Pl.popR L).2.2 w' ∧ FrS W0 Pr W w' := by
  obtain ⟨v, hS, h1, h2, h3, h4, h5⟩ := id h
  rcases List.eq_nil_or_concat L with rfl | ⟨A, o, hAo⟩
  · refine (rpop_none W0.heap.size p v W hS).mono ?_
    rintro e w' ⟨rfl, g⟩
    exact ⟨rfl, h.grown g, Fr.of_grown _ g⟩
  · rw [List.concat_eq_append] at hAo
    subst hAo
    have e1 : Pl.popR (A ++ [o]) = (o, 0, A) := by simp [Pl.popR]
    rw [e1]
    refine (rpop_ok W0.heap.size p v A o.1 o.2.1 o.2.2.1 o.2.2.2.1 o.2.2.2.2.1 o.2.2.2.2.2 (by simp at hlen; omega) W hS).mono ?_
    rintro e w' ⟨rfl, ⟨v', hS', hv'⟩, hF⟩
    exact ⟨rfl, stk_step hS h1 h2 h3 h4 h5 hS' (fun g q => .inl (by rw [← hv']; exact q)) (hF.weaken (fun c q => .inl q))⟩
theorem peek_all (i : Int) :
    Calls Try.prog 40 #[.pointer (some ⟨p, 0, none⟩), .int .i64 i] W fun e w' => e = .returned (.tuple #[Pl.ov (Pl.peekR L i).1, .int .i64 (Pl.peekR L i).2]) ∧ Stk W0 Pr p L w' ∧ Grown W w' := by
  unfold Pl.peekR
  by_cases hi : i < 0
  · rw [if_pos hi]
    exact stk_peek_low W0 Pr p L W h i hi
  · rw [if_neg hi]
    obtain ⟨n, rfl⟩ : ∃ n : Nat, i = (n : Int) := ⟨i.toNat, by omega⟩
    rw [Int.toNat_natCast]
    cases ho : L.reverse[n]? with
    | none =>
      have := List.getElem?_eq_none_iff.1 ho
      rw [List.length_reverse] at this
      exact stk_peek_under W0 Pr p L W h n (by omega) (by omega)
    | some o => exact stk_peek W0 Pr p L W h n o ho (by omega)
theorem rpeek_all (i : Int) :
    Calls Try.prog 56 #[.pointer (some ⟨p, 0, none⟩), .int .i64 i] W fun e w' => e = .returned (.tuple #[Pl.ov (Pl.peekR L i).1, .int .i64 (Pl.peekR L i).2]) ∧ Stk W0 Pr p L w' ∧ Grown W w' := by
  obtain ⟨v, hS, h1, h2, h3, h4, h5⟩ := id h
  unfold Pl.peekR
  by_cases hi : i < 0
  · rw [if_pos hi]
    refine (rpeek_low W0.heap.size p v L i hi W hS).mono ?_
    rintro e w' ⟨rfl, g⟩
    exact ⟨rfl, h.grown g, g⟩
  · rw [if_neg hi]
    obtain ⟨n, rfl⟩ : ∃ n : Nat, i = (n : Int) := ⟨i.toNat, by omega⟩
    rw [Int.toNat_natCast]
    cases ho : L.reverse[n]? with
    | none =>
      have := List.getElem?_eq_none_iff.1 ho
      rw [List.length_reverse] at this
      refine (rpeek_under W0.heap.size p v L n (by omega) (by omega) W hS).mono ?_
      rintro e w' ⟨rfl, g⟩
      exact ⟨rfl, h.grown g, g⟩
    | some o =>
      have hl := (List.getElem?_eq_some_iff.1 ho).1
      rw [List.length_reverse] at hl
      rw [List.getElem?_reverse hl] at ho
      refine (rpeek_ok W0.heap.size p v L n (L.length - 1 - n) o.1 o.2.1 o.2.2.1 o.2.2.2.1 o.2.2.2.2.1 o.2.2.2.2.2 (by omega) ho (by omega) W hS).mono ?_
      rintro e w' ⟨rfl, g⟩
      exact ⟨rfl, h.grown g, g⟩
theorem dup_all (n : Int) :
    Calls Try.prog 42 #[.pointer (some ⟨p, 0, none⟩), .int .i64 n] W fun e w' => e = .returned (.int .i64 (Pl.dupR L n).1) ∧ Stk W0 Pr p (Pl.dupR L n).2 w' ∧ FrS W0 Pr W w' := by
  unfold Pl.dupR
  by_cases hi : n < 0
  · rw [if_pos hi]
    refine (stk_dup_low W0 Pr p L W h n hi).mono ?_
    rintro e w' ⟨he, hs, g⟩
    exact ⟨he, hs, Fr.of_grown _ g⟩
  · rw [if_neg hi]
    by_cases hu : (L.length : Int) < n
    · rw [if_pos hu]
      refine (stk_dup_under W0 Pr p L W h n hu).mono ?_
      rintro e w' ⟨he, hs, g⟩
      exact ⟨he, hs, Fr.of_grown _ g⟩
    · rw [if_neg hu]
      obtain ⟨n, rfl⟩ : ∃ m : Nat, n = (m : Int) := ⟨n.toNat, by omega⟩
      rw [Int.toNat_natCast]
      by_cases ho : 200 < L.length + n
      · rw [if_pos ho]
        refine (stk_dup_over W0 Pr p L W h n (by omega) (by omega) ho).mono ?_
        rintro e w' ⟨he, hs, g⟩
        exact ⟨he, hs, Fr.of_grown _ g⟩
      · rw [if_neg ho]
        exact stk_dup W0 Pr p L W h n (by omega) (by omega)
theorem roll_all (n j : Int) :
    Calls Try.prog 27 #[.pointer (some ⟨p, 0, none⟩), .int .i64 n, .int .i64 j] W fun e w' => e = .returned (.int .i64 (Pl.rollR L n j).1) ∧ Stk W0 Pr p (Pl.rollR L n j).2 w' ∧ FrS W0 Pr W w' := by
  unfold Pl.rollR
  by_cases hi : n < 0
  · rw [if_pos hi]
    refine (stk_roll_low W0 Pr p L W h n j hi).mono ?_
    rintro e w' ⟨he, hs, g⟩
    exact ⟨he, hs, Fr.of_grown _ g⟩
  · rw [if_neg hi]
    by_cases hu : (L.length : Int) < n
    · rw [if_pos hu]
      refine (stk_roll_under W0 Pr p L W h n j hu).mono ?_
      rintro e w' ⟨he, hs, g⟩
      exact ⟨he, hs, Fr.of_grown _ g⟩
    · rw [if_neg hu]
      obtain ⟨n, rfl⟩ : ∃ m : Nat, n = (m : Int) := ⟨n.toNat, by omega⟩
      rw [Int.toNat_natCast]
      exact stk_roll W0 Pr p L W h n j (by omega) (by omega)
theorem rroll_all (n j : Int) :
    Calls Try.prog 53 #[.pointer (some ⟨p, 0, none⟩), .int .i64 n, .int .i64 j] W fun e w' => e = .returned (.int .i64 (Pl.rollR L n j).1) ∧ Stk W0 Pr p (Pl.rollR L n j).2 w' ∧ FrS W0 Pr W w' := by
  obtain ⟨v, hS, h1, h2, h3, h4, h5⟩ := id h
  unfold Pl.rollR
  by_cases hi : n < 0
  · rw [if_pos hi]
    refine (rroll_low W0.heap.size p v L n hi j W hS).mono ?_
    rintro e w' ⟨rfl, g⟩
    exact ⟨rfl, h.grown g, Fr.of_grown _ g⟩
  · rw [if_neg hi]
    by_cases hu : (L.length : Int) < n
    · rw [if_pos hu]
      refine (rroll_under W0.heap.size p v L n hu j W hS).mono ?_
      rintro e w' ⟨rfl, g⟩
      exact ⟨rfl, h.grown g, Fr.of_grown _ g⟩
    · rw [if_neg hu]
      obtain ⟨n, rfl⟩ : ∃ m : Nat, n = (m : Int) := ⟨n.toNat, by omega⟩
      rw [Int.toNat_natCast]
      refine (rroll_ok W0.heap.size p v L n j (by omega) (by omega) W h2.2.2 hS).mono ?_
      rintro e w' ⟨rfl, ⟨v', hS', hv'⟩, hF⟩
      exact ⟨rfl, stk_step hS h1 h2 h3 h4 h5 hS' hv' (hF.weaken (fun c q => .inl q))⟩
theorem rdup_all (n : Int) :
    Calls Try.prog 52 #[.pointer (some ⟨p, 0, none⟩), .int .i64 n] W fun e w' => e = .returned (.int .i64 (Pl.dupR L n).1) ∧ Stk W0 Pr p (Pl.dupR L n).2 w' ∧ FrS W0 Pr W w' := by
  obtain ⟨v, hS, h1, h2, h3, h4, h5⟩ := id h
  unfold Pl.dupR
  by_cases hi : n < 0
  · rw [if_pos hi]
    refine (rdup_low W0.heap.size p v L n hi W hS).mono ?_
    rintro e w' ⟨rfl, g⟩
    exact ⟨rfl, h.grown g, Fr.of_grown _ g⟩
  · rw [if_neg hi]
    by_cases hu : (L.length : Int) < n
    · rw [if_pos hu]
      refine (rdup_under W0.heap.size p v L n hu W hS).mono ?_
      rintro e w' ⟨rfl, g⟩
      exact ⟨rfl, h.grown g, Fr.of_grown _ g⟩
    · rw [if_neg hu]
      obtain ⟨n, rfl⟩ : ∃ m : Nat, n = (m : Int) := ⟨n.toNat, by omega⟩
      rw [Int.toNat_natCast]
      by_cases ho : 200 < L.length + n
      · rw [if_pos ho]
        refine (rdup_over W0.heap.size p v L n (by omega) (by omega) ho W hS).mono ?_
        rintro e w' ⟨rfl, g⟩
        exact ⟨rfl, h.grown g, Fr.of_grown _ g⟩
      · rw [if_neg ho]
        have hown := hS.2.2.1
        have hsp : L = L.take (L.length - n) ++ (L.drop (L.length - n) ++ []) := by rw [List.append_nil, List.take_append_drop]
        have hDl : (L.drop (L.length - n)).length = n := by rw [List.length_drop]; omega
        have fin : ∀ (ao ao2 : Option Addr) (cap cap2 : Nat), v = .slice ao L.length cap → L.length ≤ cap → ((ao = none ∧ ao2 = none ∧ L.length = cap ∧ n = cap2 ∧ L.length = 0) ∨ (∃ g, ao = some ⟨g, 0, none⟩ ∧ ¬ cap = L.length - n ∧ ao2 = some ⟨g, (L.length - n) * 6, none⟩ ∧ cap2 = cap - (L.length - n)) ∨ (∃ g, ao = some ⟨g, 0, none⟩ ∧ cap = L.length - n ∧ ao2 = some ⟨g, 0, none⟩ ∧ cap2 = 0)) →
            Calls Try.prog 52 #[.pointer (some ⟨p, 0, none⟩), .int .i64 (n : Int)] W fun e w' => e = .returned (.int .i64 0) ∧ Stk W0 Pr p (L ++ L.drop (L.length - n)) w' ∧ FrS W0 Pr W w' := by
          intro ao ao2 cap cap2 hv hcap hsl
          subst hv
          refine (rdup_core W0.heap.size p ao ao2 cap cap2 L.length n (L.length - n) L (L.drop (L.length - n)) rfl hDl (by omega) (by omega) hsl W hS h2.2.2 hcap ?_ ?_).mono ?_
          · intro q
            rcases hsl with ⟨_, _, _, _, q0⟩ | ⟨g, _, _, q2, _⟩ | ⟨g, _, _, q2, _⟩
            · omega
            · rw [q] at q2; cases q2
            · rw [q] at q2; cases q2
          · intro w' hF ad q j u hu
            have ho := own_fr (P := fun _ => False) hown hF (fun _ _ f => f)
            rcases hsl with ⟨_, q2, _, _, q0⟩ | ⟨g, q1, q3, q2, _⟩ | ⟨g, q1, q3, q2, _⟩
            · rw [q] at q2; cases q2
            · rw [q] at q2
              cases q2
              subst q1
              rw [hsp] at ho
              have := own_part (X := L.take (L.length - n)) (Y := L.drop (L.length - n)) (Z := []) (by rw [← hsp]; rw [← hsp] at ho; exact ho) j u hu
              rw [List.length_take, Nat.min_eq_left (by omega)] at this
              exact this
            · have h0 : n = 0 := by omega
              subst h0
              have := (List.getElem?_eq_some_iff.1 hu).1
              rw [Pl.flat_len, hDl] at this
              omega
          · rintro e w' ⟨rfl, ⟨v', hS', hv'⟩, hF⟩
            exact ⟨rfl, stk_step hS h1 h2 h3 h4 h5 hS' (fun g q => .inr (hv' g q)) (hF.weaken (fun c q => .inl q))⟩
        rcases own_form hown with ⟨hv, h0⟩ | ⟨g, cap, hv, hc⟩
        · exact fin none none L.length n hv (by omega) (.inl ⟨rfl, rfl, rfl, rfl, h0⟩)
        · by_cases hcE : cap = L.length - n
          · exact fin _ _ cap 0 hv hc (.inr (.inr ⟨g, rfl, hcE, rfl, rfl⟩))
          · exact fin _ _ cap _ hv hc (.inr (.inl ⟨g, rfl, hcE, rfl, rfl⟩))
theorem become_all (v1 : Value) (A : List Pl.Ob) (hR : RowV W v1 A) (hA : A.length ≤ 300) :
    Calls Try.prog 43 #[.pointer (some ⟨p, 0, none⟩), v1] W fun e w' => e = .returned (.int .i64 (Pl.becomeR L A).1) ∧ Stk W0 Pr p (Pl.becomeR L A).2 w' ∧ FrS W0 Pr W w' := by
  have hl0 := hlen
  unfold Pl.becomeR
  by_cases hall : ∀ (j : Nat) (o : Pl.Ob), A[j]? = some o → Pl.mayO o
  · rw [if_pos hall]
    by_cases hn : A.length ≤ 200
    · rw [if_pos hn]
      exact stk_become W0 Pr p L W h v1 A hR hall hn
    · rw [if_neg hn]
      refine (stk_become_over W0 Pr p L W h v1 A hR hall (by omega)).mono ?_
      rintro e w' ⟨he, hs, g⟩
      exact ⟨he, hs, Fr.of_grown _ g⟩
  · rw [if_neg hall]
    obtain ⟨j, o, hj, ho⟩ : ∃ j o, A[j]? = some o ∧ ¬ Pl.mayO o := by
      apply Classical.byContradiction
      intro hc
      exact hall (fun j o hj => Classical.byContradiction fun ho => hc ⟨j, o, hj, ho⟩)
    refine (stk_become_bad W0 Pr p L W h v1 A hR hA j o hj ho).mono ?_
    rintro e w' ⟨he, hs, g⟩
    exact ⟨he, hs, Fr.of_grown _ g⟩
theorem rbecome_all (v1 : Value) (A : List Pl.Ob) (hR : RowV W v1 A) (hA : A.length ≤ 300) :
    Calls Try.prog 55 #[.pointer (some ⟨p, 0, none⟩), v1] W fun e w' => e = .returned (.int .i64 (Pl.becomeR L A).1) ∧ Stk W0 Pr p (Pl.becomeR L A).2 w' ∧ FrS W0 Pr W w' := by
  have hl0 := hlen
  obtain ⟨v, hS, h1, h2, h3, h4, h5⟩ := id h
  unfold Pl.becomeR
  by_cases hall : ∀ (j : Nat) (o : Pl.Ob), A[j]? = some o → Pl.mayO o
  · rw [if_pos hall]
    by_cases hn : A.length ≤ 200
    · rw [if_pos hn]
      refine (rbecome_ok W0.heap.size p v1 v A hn hall W hR hS.1 hS.2.1 hS.2.2.2.2 h2.2.2).mono ?_
      rintro e w' ⟨rfl, ⟨v', hS', hv'⟩, hF⟩
      exact ⟨rfl, stk_step hS h1 h2 h3 h4 h5 hS' (fun g q => .inr (hv' g q)) (hF.weaken (fun c q => .inl q))⟩
    · rw [if_neg hn]
      refine (rbecome_over W0.heap.size p v1 v A (by omega) hall W hR hS.1 hS.2.1 hS.2.2.2.2 h2.2.2).mono ?_
      rintro e w' ⟨rfl, g⟩
      exact ⟨rfl, h.grown g, Fr.of_grown _ g⟩
  · rw [if_neg hall]
    obtain ⟨j, o, hj, ho⟩ : ∃ j o, A[j]? = some o ∧ ¬ Pl.mayO o := by
      apply Classical.byContradiction
      intro hc
      exact hall (fun j o hj => Classical.byContradiction fun ho => hc ⟨j, o, hj, ho⟩)
    refine (rbecome_bad p v1 A hA j o hj ho W hR).mono ?_
    rintro e w' ⟨rfl, g⟩
    exact ⟨rfl, h.grown g, Fr.of_grown _ g⟩
theorem rtomark_all :
    Calls Try.prog 57 #[.pointer (some ⟨p, 0, none⟩)] W fun e w' => e = .returned (.tuple #[.int .i64 (Pl.toMark L).1, .int .i64 (Pl.toMark L).2]) ∧ Stk W0 Pr p L w' ∧ Grown W w' := by
  obtain ⟨v, hS, h1, h2, h3, h4, h5⟩ := id h
  refine (rtomark_any W0.heap.size p v L (by omega) W hS).mono ?_
  rintro e w' ⟨rfl, g⟩
  exact ⟨rfl, h.grown g, g⟩
end
end Go.Proofs.Ytenmbkngkabonaa
