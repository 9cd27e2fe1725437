/- The reference's moves and marks, each group by one plain fun -/
import Derived.Test.YtfmmomdmemcbbaaGreatZd
namespace Go.Proofs.YtfmmomdmemcbbaaGreat
set_option linter.unusedVariables false
set_option linter.unusedSimpArgs false
open Go.RowKit
section
variable (base p : Nat) (L : List Pl.Ob) (W : World) (hlen : L.length ≤ 200) (h : RS base p L W) (hb : base ≤ W.heap.size) (hall : ∀ o ∈ L, Pl.mayO o)
include hlen h hb hall
theorem rmove_any (NM : ByteArray) (n : Int) (hN : (n = 1 ∧ NM = ⟨#[112, 111, 112]⟩) ∨ (n = 2 ∧ NM = ⟨#[101, 120, 99, 104]⟩) ∨ (n = 3 ∧ NM = ⟨#[100, 117, 112]⟩) ∨ (n = 4 ∧ NM = ⟨#[105, 110, 100, 101, 120]⟩) ∨ (n = 5 ∧ NM = ⟨#[114, 111, 108, 108]⟩)) :
    Calls Tryz.prog 61 #[.pointer (some ⟨p, 0, none⟩), .string NM] W fun e w' => RPost base p W (Pl.roundR L n) e w' := by
  have hlr := (List.length_reverse : L.reverse.length = L.length)
  unfold Pl.roundR
  rcases hN with ⟨rfl, rfl⟩ | ⟨rfl, rfl⟩ | ⟨rfl, rfl⟩ | ⟨rfl, rfl⟩ | ⟨rfl, rfl⟩
  · rw [if_pos rfl]
    by_cases hL : L = []
    · rw [if_pos hL]; exact rmove_pop_none base p L W h hL
    · rw [if_neg hL]
      have hp : 0 < L.length := List.length_pos_iff.2 hL
      have h0 : L[L.length - 1 + 0]? = some (L[L.length - 1]'(by omega)) := by rw [Nat.add_zero]; exact List.getElem?_eq_getElem _
      exact rmove_pop base p L W hlen h (L.length - 1) _ (by omega) h0
  · rw [if_neg (by decide), if_pos rfl]
    match hL : L.reverse with
    | [] => rw [hL] at hlr; exact rmove_exch_under base p L W h (by simp at hlr; omega)
    | [o] => rw [hL] at hlr; exact rmove_exch_under base p L W h (by simp at hlr; omega)
    | o1 :: o0 :: r =>
      obtain ⟨J, hn, h0, h1⟩ := rev_two (L := L) (o0 := o0) (o1 := o1) (by rw [hL]; rfl) (by rw [hL]; rfl)
      obtain ⟨q0, x0, n0, a0, l0, s0⟩ := o0
      obtain ⟨q1, x1, n1, a1, l1, s1⟩ := o1
      exact rmove_exch base p L W hlen h hb q0 x0 n0 a0 l0 s0 q1 x1 n1 a1 l1 s1 J hn h0 h1
  · rw [if_neg (by decide), if_neg (by decide), if_pos rfl]
    match hL : L.reverse with
    | [] => rw [hL] at hlr; exact rmove_dup_under base p L W h (by simp at hlr; omega)
    | o :: r =>
      obtain ⟨J, hn, h0⟩ := rev_one (L := L) (o := o) (by rw [hL]; rfl)
      have e0 := last_one hn h0
      have hJ : (L.take J).length = J := by rw [List.length_take]; omega
      have eq : Pl.giveR L 0 [o] = Pl.giveR L 1 [o, o] ∨ ((Pl.giveR L 0 [o]).1 = 8 ∧ (Pl.giveR L 1 [o, o]).1 = 8) := by
        unfold Pl.giveR
        by_cases hf : L.length ≤ 199
        · left
          rw [if_pos (by simp; omega), if_pos (by simp; omega), show L.length - 1 = J by omega, Nat.sub_zero, List.take_length]
          rw [show L.take J ++ [o, o] = (L.take J ++ [o]) ++ [o] by simp, ← e0]
        · right
          rw [if_neg (by simp; omega), if_neg (by simp; omega)]
          exact ⟨rfl, rfl⟩
      obtain ⟨q0, x0, n0, a0, l0, s0⟩ := o
      refine (rmove_dup base p L W hlen h hb q0 x0 n0 a0 l0 s0 J hn h0).mono fun e w' hh => ?_
      rcases eq with eq | ⟨e1, e2⟩
      · show RPost base p W (Pl.giveR L 1 [(q0, x0, n0, a0, l0, s0), (q0, x0, n0, a0, l0, s0)]) e w'
        rw [← eq]; exact hh
      · exact RPost.to (by rw [e1, e2]) (fun q => by rw [e1] at q; exact absurd q (by decide)) hh
  · rw [if_neg (by decide), if_neg (by decide), if_neg (by decide), if_pos rfl]
    match hL : L.reverse with
    | [] => rw [hL] at hlr; exact rmove_index_under base p L W h (by simp at hlr; omega)
    | o :: r =>
      have ho : L.reverse[0]? = some o := by rw [hL]; rfl
      have hm := hall o (Pl.mem_rev ho)
      obtain ⟨J, hn, h0⟩ := rev_one (L := L) (o := o) ho
      have e0 := last_one hn h0
      have hJ : (L.take J).length = J := by rw [List.length_take]; omega
      have er : r = (L.take J).reverse := by
        rw [e0, List.reverse_append] at hL
        simp at hL
        exact hL.symm
      simp only
      by_cases hf : o.1 = 3
      case neg =>
        rw [if_neg hf]
        exact rmove_index_bad base p L W hlen h o J hn h0 (by unfold Pl.rfits; rw [if_neg (by decide), if_neg (by decide), if_neg (by decide)]; simpa using hf)
      rw [if_pos hf]
      obtain ⟨x, ex, _⟩ := Pl.mayO_num hm (.inl hf)
      rw [hf] at ex
      generalize o.2.2.1 = a at ex ⊢
      subst ex
      by_cases hz : a < 0
      · rw [if_pos hz]
        exact rmove_index_low base p L W hlen h hb a x J hn h0 hz
      · rw [if_neg hz, show (a + 1).toNat = a.toNat + 1 by omega, List.getElem?_cons_succ, er]
        by_cases hu : ((L.take J).length : Int) ≤ a
        · rw [List.getElem?_eq_none (by rw [List.length_reverse]; omega)]
          exact rmove_index_far base p L W hlen h hb a x J hn h0 ⟨by omega, hu⟩
        · have hi : a.toNat < (L.take J).length := by omega
          have hq : (L.take J).reverse[a.toNat]? = some ((L.take J)[(L.take J).length - 1 - a.toNat]'(by omega)) := by
            rw [List.getElem?_reverse hi]
            exact List.getElem?_eq_getElem _
          have hj : (L.take J)[(L.take J).length - 1 - a.toNat]? = some ((L.take J)[(L.take J).length - 1 - a.toNat]'(by omega)) := List.getElem?_eq_getElem _
          rw [hq]
          generalize (L.take J)[(L.take J).length - 1 - a.toNat]'(by omega) = q at hj
          obtain ⟨q1, x1, n1, a1, l1, s1⟩ := q
          have eg : Pl.giveR L 1 [(q1, x1, n1, a1, l1, s1)] = Pl.giveR (L.take J) 0 [(q1, x1, n1, a1, l1, s1)] := by
            unfold Pl.giveR
            rw [if_pos (by simp; omega), if_pos (by rw [hJ]; simp; omega), show L.length - 1 = J by omega, Nat.sub_zero, List.take_length]
          simp only
          rw [eg]
          exact rmove_index_ok base p L W hlen h hb a x J hn h0 q1 x1 n1 a1 l1 s1 a.toNat ((L.take J).length - 1 - a.toNat) ⟨hj, by omega⟩ (by omega)
  · rw [if_neg (by decide), if_neg (by decide), if_neg (by decide), if_neg (by decide), if_pos rfl]
    match hL : L.reverse with
    | [] => rw [hL] at hlr; exact rmove_roll_under base p L W h (by simp at hlr; omega)
    | [o] => rw [hL] at hlr; exact rmove_roll_under base p L W h (by simp at hlr; omega)
    | o1 :: o0 :: r =>
      have ho1 : L.reverse[0]? = some o1 := by rw [hL]; rfl
      have ho0 : L.reverse[1]? = some o0 := by rw [hL]; rfl
      have hm0 := hall o0 (Pl.mem_rev ho0)
      have hm1 := hall o1 (Pl.mem_rev ho1)
      obtain ⟨J, hn, h0, h1⟩ := rev_two ho1 ho0
      have rf : ∀ k : Int, Pl.rfits 3 k = (k == 3) := fun k => by unfold Pl.rfits; rw [if_neg (by decide), if_neg (by decide), if_neg (by decide)]
      simp only
      by_cases hf1 : o1.1 = 3
      case neg =>
        rw [if_neg (fun q => hf1 q.1)]
        exact rmove_roll_bad base p L W hlen h o0 o1 J hn h0 h1 (by rw [rf]; simpa using hf1)
      by_cases hf0 : o0.1 = 3
      case neg =>
        rw [if_neg (fun q => hf0 q.2)]
        exact rmove_roll_bad0 base p L W hlen h o0 o1 J hn h0 h1 (by rw [rf]; simpa using hf1) (by rw [rf]; simpa using hf0)
      rw [if_pos ⟨hf1, hf0⟩]
      obtain ⟨x, ex, _⟩ := Pl.mayO_num hm0 (.inl hf0)
      obtain ⟨y, ey, _⟩ := Pl.mayO_num hm1 (.inl hf1)
      rw [hf0] at ex
      rw [hf1] at ey
      generalize o0.2.2.1 = a at ex ⊢
      generalize o1.2.2.1 = b at ey ⊢
      subst ex
      subst ey
      have hJ : (L.take J).length = J := by rw [List.length_take]; omega
      refine (rmove_roll base p L W hlen h hb a b x y J hn h0 h1).mono fun e w' hh => RPost.to ?_ ?_ hh
      · unfold Pl.rollS
        rw [hJ]
        by_cases hz : a < 0
        · rw [if_pos hz, if_pos hz]
        · rw [if_neg hz, if_neg hz]
          by_cases hu : (J : Int) < a
          · rw [if_pos hu, if_pos (by omega)]
          · rw [if_neg hu, if_neg (by omega)]
      · unfold Pl.rollS
        rw [hJ]
        by_cases hz : a < 0
        · rw [if_pos hz]; intro q; exact absurd q (by simp)
        · rw [if_neg hz, if_neg hz]
          by_cases hu : (J : Int) < a
          · rw [if_pos hu]; intro q; exact absurd q (by simp)
          · rw [if_neg hu, if_neg (by omega), show L.length - 2 = J by omega]
            intro _
            rfl
omit hall in
theorem rmarks_any (NM : ByteArray) (n : Int) (hN : (n = 6 ∧ NM = ⟨#[99, 108, 101, 97, 114]⟩) ∨ (n = 7 ∧ NM = ⟨#[99, 111, 117, 110, 116]⟩) ∨ (n = 8 ∧ NM = ⟨#[109, 97, 114, 107]⟩) ∨ (n = 9 ∧ NM = ⟨#[99, 111, 117, 110, 116, 116, 111, 109, 97, 114, 107]⟩) ∨ (n = 10 ∧ NM = ⟨#[99, 108, 101, 97, 114, 116, 111, 109, 97, 114, 107]⟩) ∨ (n = 32 ∧ NM = ⟨#[116, 114, 117, 101]⟩) ∨ (n = 33 ∧ NM = ⟨#[102, 97, 108, 115, 101]⟩) ∨ (n = 34 ∧ NM = ⟨#[110, 117, 108, 108]⟩) ∨ (n = 37 ∧ NM = ⟨#[91]⟩) ∨ (n = 38 ∧ NM = ⟨#[60, 60]⟩)) :
    Calls Tryz.prog 67 #[.pointer (some ⟨p, 0, none⟩), .string NM] W fun e w' => RPost base p W (Pl.doR L n) e w' := by
  have hw : ∀ i : Nat, i ≤ 200 → Pl.wholeR L 0 (i : Int) = Pl.giveR L 0 [Pl.intO i] := fun i hi => by
    unfold Pl.wholeR
    rw [if_pos (by unfold Pl.inInt; omega)]
  unfold Pl.doR
  rcases hN with ⟨rfl, rfl⟩ | ⟨rfl, rfl⟩ | ⟨rfl, rfl⟩ | ⟨rfl, rfl⟩ | ⟨rfl, rfl⟩ | ⟨rfl, rfl⟩ | ⟨rfl, rfl⟩ | ⟨rfl, rfl⟩ | ⟨rfl, rfl⟩ | ⟨rfl, rfl⟩
  · rw [if_neg (by decide), if_pos (by decide)]
    unfold Pl.roundR
    rw [if_neg (by decide), if_neg (by decide), if_neg (by decide), if_neg (by decide), if_neg (by decide), if_pos rfl]
    exact rmarks_clear base p L W h
  · rw [if_neg (by decide), if_pos (by decide)]
    unfold Pl.roundR
    rw [if_neg (by decide), if_neg (by decide), if_neg (by decide), if_neg (by decide), if_neg (by decide), if_neg (by decide), if_pos rfl]
    rw [← hw _ (by omega)]
    exact rmarks_count base p L W hlen h hb
  · rw [if_neg (by decide), if_pos (by decide)]
    unfold Pl.roundR
    rw [if_neg (by decide), if_neg (by decide), if_neg (by decide), if_neg (by decide), if_neg (by decide), if_neg (by decide), if_neg (by decide), if_pos rfl]
    exact rmarks_mark base p L W hlen h hb _ (.inl rfl)
  · rw [if_neg (by decide), if_pos (by decide)]
    unfold Pl.roundR
    rw [if_neg (by decide), if_neg (by decide), if_neg (by decide), if_neg (by decide), if_neg (by decide), if_neg (by decide), if_neg (by decide), if_neg (by decide)]
    obtain ⟨z, hi⟩ : ∃ z, L.reverse.findIdx? (fun q => q.1 == 6) = z := ⟨_, rfl⟩
    rw [hi]
    rcases z with _ | i
    · exact rmarks_none base p L W hlen h _ (.inl rfl) hi
    · have hil := Pl.toMark_lt L i hi
      show Calls _ _ _ _ fun e w' => RPost base p W (if (9 : Int) = 10 then (0, L.take (L.length - (i + 1))) else Pl.giveR L 0 [Pl.intO i]) e w'
      rw [if_neg (by decide), ← hw _ (by omega)]
      exact rmarks_counttomark base p L W hlen h hb i hi
  · rw [if_neg (by decide), if_pos (by decide)]
    unfold Pl.roundR
    rw [if_neg (by decide), if_neg (by decide), if_neg (by decide), if_neg (by decide), if_neg (by decide), if_neg (by decide), if_neg (by decide), if_neg (by decide)]
    obtain ⟨z, hi⟩ : ∃ z, L.reverse.findIdx? (fun q => q.1 == 6) = z := ⟨_, rfl⟩
    rw [hi]
    rcases z with _ | i
    · exact rmarks_none base p L W hlen h _ (.inr rfl) hi
    · have hil := Pl.toMark_lt L i hi
      show Calls _ _ _ _ fun e w' => RPost base p W (if (10 : Int) = 10 then (0, L.take (L.length - (i + 1))) else Pl.giveR L 0 [Pl.intO i]) e w'
      rw [if_pos rfl, show ((0, L.take (L.length - (i + 1))) : Int × List Pl.Ob) = Pl.giveR L (i + 1) [] from by unfold Pl.giveR; rw [if_pos (by simp; omega), List.append_nil]]
      exact rmarks_cleartomark base p L W hlen h hb i hi
  · rw [if_neg (by decide), if_neg (by decide), if_neg (by decide), if_neg (by decide), if_neg (by decide), if_pos (by decide)]
    exact rmarks_true base p L W hlen h hb
  · rw [if_neg (by decide), if_neg (by decide), if_neg (by decide), if_neg (by decide), if_neg (by decide), if_pos (by decide)]
    exact rmarks_false base p L W hlen h hb
  · rw [if_neg (by decide), if_neg (by decide), if_neg (by decide), if_neg (by decide), if_neg (by decide), if_neg (by decide), if_pos rfl]
    exact rmarks_null base p L W hlen h hb
  · rw [if_neg (by decide), if_neg (by decide), if_neg (by decide), if_neg (by decide), if_neg (by decide), if_neg (by decide), if_neg (by decide)]
    exact rmarks_mark base p L W hlen h hb _ (.inr (.inl rfl))
  · rw [if_neg (by decide), if_neg (by decide), if_neg (by decide), if_neg (by decide), if_neg (by decide), if_neg (by decide), if_neg (by decide)]
    exact rmarks_mark base p L W hlen h hb _ (.inr (.inr rfl))
end
end Go.Proofs.YtfmmomdmemcbbaaGreat
