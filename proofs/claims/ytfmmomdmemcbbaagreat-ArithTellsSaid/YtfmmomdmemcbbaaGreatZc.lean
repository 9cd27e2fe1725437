/- The reference's operators of two numbers, each group by one  -/
import Derived.Test.YtfmmomdmemcbbaaGreatZ4
import Derived.Test.YtfmmomdmemcbbaaGreatZ8
namespace Go.Proofs.YtfmmomdmemcbbaaGreat
set_option linter.unusedVariables false
set_option linter.unusedSimpArgs false
open Go.RowKit
theorem Pl.rfits_is {k : Int} (h : 1 ≤ k ∧ k ≤ 11) : Pl.rfits 101 k = Pl.fits 24 k ∧ Pl.rfits 102 k = Pl.fits 12 k ∧ Pl.rfits 3 k = Pl.fits 8 k := by
  rcases (show k = 1 ∨ k = 2 ∨ k = 3 ∨ k = 4 ∨ k = 5 ∨ k = 6 ∨ k = 7 ∨ k = 8 ∨ k = 9 ∨ k = 10 ∨ k = 11 by omega) with rfl | rfl | rfl | rfl | rfl | rfl | rfl | rfl | rfl | rfl | rfl <;> decide
theorem rev_two {L : List Pl.Ob} {o0 o1 : Pl.Ob} (h1 : L.reverse[0]? = some o1) (h0 : L.reverse[1]? = some o0) : ∃ J, L.length = J + 2 ∧ L[J + 0]? = some o0 ∧ L[J + 1]? = some o1 := by
  have hl : 1 < L.length := by
    have := (List.getElem?_eq_some_iff.1 h0).1
    rw [List.length_reverse] at this
    exact this
  rw [List.getElem?_reverse (by omega)] at h1 h0
  refine ⟨L.length - 2, by omega, ?_, ?_⟩
  · rw [show L.length - 2 + 0 = L.length - 1 - 1 by omega]; exact h0
  · rw [show L.length - 2 + 1 = L.length - 1 - 0 by omega]; exact h1
theorem rev_one {L : List Pl.Ob} {o : Pl.Ob} (h0 : L.reverse[0]? = some o) : ∃ J, L.length = J + 1 ∧ L[J + 0]? = some o := by
  have hl : 0 < L.length := by
    have := (List.getElem?_eq_some_iff.1 h0).1
    rw [List.length_reverse] at this
    exact this
  rw [List.getElem?_reverse (by omega)] at h0
  refine ⟨L.length - 1, by omega, ?_⟩
  rw [show L.length - 1 + 0 = L.length - 1 - 0 by omega]; exact h0
section
variable (base p : Nat) (L : List Pl.Ob) (W : World) (hlen : L.length ≤ 200) (h : RS base p L W) (hb : base ≤ W.heap.size) (hall : ∀ o ∈ L, Pl.mayO o)
include hlen h hb hall
theorem rtwo_any (NM : ByteArray) (n : Int) (hN : (n = 11 ∧ NM = ⟨#[97, 100, 100]⟩) ∨ (n = 12 ∧ NM = ⟨#[115, 117, 98]⟩) ∨ (n = 13 ∧ NM = ⟨#[109, 117, 108]⟩) ∨ (n = 14 ∧ NM = ⟨#[100, 105, 118]⟩)) :
    Calls Tryz.prog 62 #[.pointer (some ⟨p, 0, none⟩), .string NM] W fun e w' => RPost base p W (Pl.twoR L n) e w' := by
  have h4 : n = 11 ∨ n = 12 ∨ n = 13 ∨ n = 14 := by omega
  have hk2 : Pl.kinds2 n = 24 := by rcases h4 with rfl | rfl | rfl | rfl <;> rfl
  rcases Pl.twoR_cases L n with ⟨h0, hR⟩ | ⟨o0, o1, ho1, ho0, h2, hR⟩ <;> rw [hR] <;> clear hR
  · exact rtwo_under base p L W h NM h0
  rw [hk2]
  have hm0 := hall o0 (Pl.mem_rev ho0)
  have hm1 := hall o1 (Pl.mem_rev ho1)
  have kk0 := Pl.mayO_kind hm0
  have kk1 := Pl.mayO_kind hm1
  obtain ⟨J, hn, h0, h1⟩ := rev_two ho1 ho0
  by_cases hf1 : Pl.fits 24 o1.1 = true
  case neg =>
    rw [if_neg (fun q => hf1 q.1)]
    exact rtwo_bad base p L W hlen h NM o0 o1 J hn h0 h1 (by rw [(Pl.rfits_is kk1).1]; simpa using hf1)
  by_cases hf0 : Pl.fits 24 o0.1 = true
  case neg =>
    rw [if_neg (fun q => hf0 q.2)]
    exact rtwo_bad0 base p L W hlen h NM o0 o1 J hn h0 h1 (by rw [(Pl.rfits_is kk1).1]; exact hf1) (by rw [(Pl.rfits_is kk0).1]; simpa using hf0)
  rw [if_pos ⟨hf1, hf0⟩]
  unfold Pl.twoI
  rw [if_pos (by omega)]
  have q0 := (Pl.fits24 kk0).1 hf0
  have q1 := (Pl.fits24 kk1).1 hf1
  have fv0 := Pl.numv_fix hm0 q0
  have fv1 := Pl.numv_fix hm1 q1
  obtain ⟨x, ex, i0, j0⟩ := Pl.mayO_num hm0 q0
  obtain ⟨y, ey, i1, j1⟩ := Pl.mayO_num hm1 q1
  generalize o0.1 = k0 at *
  generalize o0.2.2.1 = a at *
  generalize o1.1 = k1 at *
  generalize o1.2.2.1 = b at *
  subst ex
  subst ey
  by_cases hkk : k0 = 3 ∧ k1 = 3 ∧ n ≠ 14
  · obtain ⟨rfl, rfl, h14⟩ := hkk
    have ia := i0 rfl
    have ib := i1 rfl
    rcases hN with ⟨rfl, rfl⟩ | ⟨rfl, rfl⟩ | ⟨rfl, rfl⟩ | ⟨rfl, _⟩
    · rw [show Pl.numbersR L 11 (3, x, a, 0, 0, ⟨#[]⟩) (3, y, b, 0, 0, ⟨#[]⟩) = Pl.wholeR L 2 (a + b) from by unfold Pl.numbersR; rw [if_pos ⟨rfl, rfl, rfl⟩]]
      exact rtwo_ints base p L W hlen h hb _ _ a b x y J hn h0 h1 ia ib (.inl ⟨rfl, rfl⟩)
    · rw [show Pl.numbersR L 12 (3, x, a, 0, 0, ⟨#[]⟩) (3, y, b, 0, 0, ⟨#[]⟩) = Pl.wholeR L 2 (a - b) from by unfold Pl.numbersR; rw [if_neg (fun q => absurd q.2.2 (by decide)), if_pos ⟨rfl, rfl, rfl⟩]]
      exact rtwo_ints base p L W hlen h hb _ _ a b x y J hn h0 h1 ia ib (.inr (.inl ⟨rfl, rfl⟩))
    · rw [show Pl.numbersR L 13 (3, x, a, 0, 0, ⟨#[]⟩) (3, y, b, 0, 0, ⟨#[]⟩) = Pl.wholeR L 2 (a * b) from by unfold Pl.numbersR; rw [if_neg (fun q => absurd q.2.2 (by decide)), if_neg (fun q => absurd q.2.2 (by decide)), if_pos ⟨rfl, rfl, rfl⟩]]
      exact rtwo_ints base p L W hlen h hb _ _ a b x y J hn h0 h1 ia ib (.inr (.inr ⟨rfl, rfl⟩))
    · exact absurd rfl h14
  have hnk : ¬ (k0 = 3 ∧ k1 = 3 ∧ (n = 11 ∨ n = 12 ∨ n = 13)) := fun q => hkk ⟨q.1, q.2.1, by omega⟩
  have hk14 : k0 = 3 ∧ k1 = 3 → n = 14 := fun q => Decidable.byContradiction fun c => hkk ⟨q.1, q.2, c⟩
  have hkN : k0 = 3 ∧ k1 = 3 → NM = ⟨#[100, 105, 118]⟩ := fun q => by
    have := hk14 q
    rcases hN with ⟨r, _⟩ | ⟨r, _⟩ | ⟨r, _⟩ | ⟨_, r⟩
    · omega
    · omega
    · omega
    · exact r
  obtain ⟨u, ou, hA⟩ : ∃ u ou, Pl.numv (k0, x, a, 0, 0, ⟨#[]⟩) = (u, ou) := ⟨_, _, rfl⟩
  obtain ⟨v, ov, hB⟩ : ∃ v ov, Pl.numv (k1, y, b, 0, 0, ⟨#[]⟩) = (v, ov) := ⟨_, _, rfl⟩
  rw [hA] at fv0
  rw [hB] at fv1
  cases ou with
  | false =>
    rw [Pl.numbersR_no L n _ _ hnk (.inl (by rw [hA]))]
    exact rtwo_num base p L W hlen h hb NM k0 k1 q0 q1 a b x y J hn h0 h1 hm0 hm1 hkN u v false ov hA hB (.inl rfl)
  | true =>
    cases ov with
    | false =>
      rw [Pl.numbersR_no L n _ _ hnk (.inr (by rw [hB]))]
      exact rtwo_num base p L W hlen h hb NM k0 k1 q0 q1 a b x y J hn h0 h1 hm0 hm1 hkN u v true false hA hB (.inr ⟨rfl, rfl⟩)
    | true =>
      by_cases hz : n = 14 ∧ v = 0
      · obtain ⟨rfl, hz⟩ := hz
        rw [Pl.numbersR_div L _ _ (by rw [hA]) (by rw [hB]) (by rw [hB]; exact hz)]
        obtain rfl : NM = ⟨#[100, 105, 118]⟩ := by
          rcases hN with ⟨r, _⟩ | ⟨r, _⟩ | ⟨r, _⟩ | ⟨_, r⟩
          · omega
          · omega
          · omega
          · exact r
        exact rtwo_div_zero base p L W hlen h hb k0 k1 q0 q1 a b x y J hn h0 h1 hm0 hm1 u v hA hB hz
      · rw [Pl.numbersR_fix L n _ _ hnk (by rw [hA]) (by rw [hB]) (by rw [hB]; exact hz), hA, hB]
        exact rtwo_fix base p L W hlen h hb NM n k0 k1 q0 q1 a b x y J hn h0 h1 hm0 hm1 hk14 u v hA hB fv0 fv1 (fun r q => hz ⟨r, q⟩) hN
theorem rparts_any (NM : ByteArray) (n : Int) (hN : (n = 15 ∧ NM = ⟨#[105, 100, 105, 118]⟩) ∨ (n = 16 ∧ NM = ⟨#[109, 111, 100]⟩) ∨ (n = 31 ∧ NM = ⟨#[98, 105, 116, 115, 104, 105, 102, 116]⟩)) :
    Calls Tryz.prog 63 #[.pointer (some ⟨p, 0, none⟩), .string NM] W fun e w' => RPost base p W (Pl.twoR L n) e w' := by
  have h4 : n = 15 ∨ n = 16 ∨ n = 31 := by omega
  have hk2 : Pl.kinds2 n = 8 := by rcases h4 with rfl | rfl | rfl <;> rfl
  rcases Pl.twoR_cases L n with ⟨h0, hR⟩ | ⟨o0, o1, ho1, ho0, h2, hR⟩ <;> rw [hR] <;> clear hR
  · exact rparts_under base p L W h NM h0
  rw [hk2]
  have hm0 := hall o0 (Pl.mem_rev ho0)
  have hm1 := hall o1 (Pl.mem_rev ho1)
  have kk0 := Pl.mayO_kind hm0
  have kk1 := Pl.mayO_kind hm1
  obtain ⟨J, hn, h0, h1⟩ := rev_two ho1 ho0
  by_cases hf1 : Pl.fits 8 o1.1 = true
  case neg =>
    rw [if_neg (fun q => hf1 q.1)]
    exact rparts_bad base p L W hlen h NM o0 o1 J hn h0 h1 (by rw [(Pl.rfits_is kk1).2.2]; simpa using hf1)
  by_cases hf0 : Pl.fits 8 o0.1 = true
  case neg =>
    rw [if_neg (fun q => hf0 q.2)]
    exact rparts_bad0 base p L W hlen h NM o0 o1 J hn h0 h1 (by rw [(Pl.rfits_is kk1).2.2]; exact hf1) (by rw [(Pl.rfits_is kk0).2.2]; simpa using hf0)
  rw [if_pos ⟨hf1, hf0⟩]
  have q0 := (Pl.fits8 kk0).1 hf0
  have q1 := (Pl.fits8 kk1).1 hf1
  obtain ⟨x, ex, i0, _⟩ := Pl.mayO_num hm0 (.inl q0)
  obtain ⟨y, ey, i1, _⟩ := Pl.mayO_num hm1 (.inl q1)
  rw [q0] at ex
  rw [q1] at ey
  have ia := i0 q0
  have ib := i1 q1
  generalize o0.2.2.1 = a at ex ia
  generalize o1.2.2.1 = b at ey ib
  subst ex
  subst ey
  unfold Pl.twoI
  rw [if_neg (by omega), if_neg (by simp)]
  rcases hN with ⟨rfl, rfl⟩ | ⟨rfl, rfl⟩ | ⟨rfl, rfl⟩
  · rw [if_pos (by decide)]
    by_cases hz : b = 0
    · rw [if_pos hz]; exact rparts_idiv_zero base p L W hlen h hb a b x y J hn h0 h1 ia ib hz
    · rw [if_neg hz, if_pos rfl]; exact rparts_idiv base p L W hlen h hb a b x y J hn h0 h1 ia ib hz
  · rw [if_pos (by decide)]
    by_cases hz : b = 0
    · rw [if_pos hz]; exact rparts_mod_zero base p L W hlen h hb a b x y J hn h0 h1 ia ib hz
    · rw [if_neg hz, if_neg (by decide)]; exact rparts_mod base p L W hlen h hb a b x y J hn h0 h1 ia ib hz
  · rw [if_neg (by decide), if_pos rfl]
    by_cases hz : b < 0
    · rw [if_pos hz]; exact rparts_down base p L W hlen h hb a b x y J hn h0 h1 ia ib hz
    · rw [if_neg hz]
      by_cases hf : 31 < b
      · rw [if_pos hf]
        by_cases ha : a = 0
        · rw [if_pos ha]; exact rparts_none base p L W hlen h hb a b x y J hn h0 h1 ia ib hf ha
        · rw [if_neg ha]; exact rparts_far base p L W hlen h hb a b x y J hn h0 h1 ia ib hf ha
      · rw [if_neg hf]; exact rparts_up base p L W hlen h hb a b x y J hn h0 h1 ia ib ⟨by omega, by omega⟩
theorem rmost_atan_any :
    Calls Tryz.prog 66 #[.pointer (some ⟨p, 0, none⟩), .string ⟨#[97, 116, 97, 110]⟩] W fun e w' => RPost base p W (Pl.twoR L 26) e w' := by
  have hk2 : Pl.kinds2 26 = 24 := rfl
  rcases Pl.twoR_cases L 26 with ⟨h0, hR⟩ | ⟨o0, o1, ho1, ho0, h2, hR⟩ <;> rw [hR] <;> clear hR
  · exact rmost_under base p L W h _ h0
  rw [hk2]
  have hm0 := hall o0 (Pl.mem_rev ho0)
  have hm1 := hall o1 (Pl.mem_rev ho1)
  have kk0 := Pl.mayO_kind hm0
  have kk1 := Pl.mayO_kind hm1
  obtain ⟨J, hn, h0, h1⟩ := rev_two ho1 ho0
  by_cases hf1 : Pl.fits 24 o1.1 = true
  case neg =>
    rw [if_neg (fun q => hf1 q.1)]
    exact rmost_bad base p L W hlen h _ o0 o1 J hn h0 h1 (by rw [(Pl.rfits_is kk1).1]; simpa using hf1)
  by_cases hf0 : Pl.fits 24 o0.1 = true
  case neg =>
    rw [if_neg (fun q => hf0 q.2)]
    exact rmost_bad0 base p L W hlen h _ o0 o1 J hn h0 h1 (by rw [(Pl.rfits_is kk1).1]; exact hf1) (by rw [(Pl.rfits_is kk0).1]; simpa using hf0)
  rw [if_pos ⟨hf1, hf0⟩]
  unfold Pl.twoI
  rw [if_pos (by decide)]
  have q0 := (Pl.fits24 kk0).1 hf0
  have q1 := (Pl.fits24 kk1).1 hf1
  have fv0 := Pl.numv_fix hm0 q0
  have fv1 := Pl.numv_fix hm1 q1
  obtain ⟨x, ex, i0, j0⟩ := Pl.mayO_num hm0 q0
  obtain ⟨y, ey, i1, j1⟩ := Pl.mayO_num hm1 q1
  generalize o0.1 = k0 at *
  generalize o0.2.2.1 = a at *
  generalize o1.1 = k1 at *
  generalize o1.2.2.1 = b at *
  subst ex
  subst ey
  have hnk : ¬ (k0 = 3 ∧ k1 = 3 ∧ ((26 : Int) = 11 ∨ (26 : Int) = 12 ∨ (26 : Int) = 13)) := fun q => absurd q.2.2 (by decide)
  obtain ⟨u, ou, hA⟩ : ∃ u ou, Pl.numv (k0, x, a, 0, 0, ⟨#[]⟩) = (u, ou) := ⟨_, _, rfl⟩
  obtain ⟨v, ov, hB⟩ : ∃ v ov, Pl.numv (k1, y, b, 0, 0, ⟨#[]⟩) = (v, ov) := ⟨_, _, rfl⟩
  rw [hA] at fv0
  rw [hB] at fv1
  cases ou with
  | false =>
    rw [Pl.numbersR_no L 26 _ _ hnk (.inl (by rw [hA]))]
    exact rmost_num base p L W hlen h hb k0 k1 q0 q1 a b x y J hn h0 h1 hm0 hm1 u v false ov hA hB (.inl rfl)
  | true =>
    cases ov with
    | false =>
      rw [Pl.numbersR_no L 26 _ _ hnk (.inr (by rw [hB]))]
      exact rmost_num base p L W hlen h hb k0 k1 q0 q1 a b x y J hn h0 h1 hm0 hm1 u v true false hA hB (.inr ⟨rfl, rfl⟩)
    | true =>
      rw [Pl.numbersR_fix L 26 _ _ hnk (by rw [hA]) (by rw [hB]) (fun q => absurd q.1 (by decide)), hA, hB]
      exact rmost_atan base p L W hlen h hb k0 k1 q0 q1 a b x y J hn h0 h1 hm0 hm1 u v hA hB fv0 fv1
theorem rmost_mm (NM : ByteArray) (n : Int) (hN : (n = 35 ∧ NM = ⟨#[109, 105, 110]⟩) ∨ (n = 36 ∧ NM = ⟨#[109, 97, 120]⟩)) :
    Calls Tryz.prog 66 #[.pointer (some ⟨p, 0, none⟩), .string NM] W fun e w' => RPost base p W (Pl.mmR L n) e w' := by
  rcases Pl.mmR_cases L n with ⟨h0, hR⟩ | ⟨o0, o1, ho1, ho0, h2, hR⟩ <;> rw [hR] <;> clear hR
  · exact rmost_under base p L W h NM h0
  have hm0 := hall o0 (Pl.mem_rev ho0)
  have hm1 := hall o1 (Pl.mem_rev ho1)
  have kk0 := Pl.mayO_kind hm0
  have kk1 := Pl.mayO_kind hm1
  obtain ⟨J, hn, h0, h1⟩ := rev_two ho1 ho0
  by_cases hf1 : Pl.fits 24 o1.1 = true
  case neg =>
    rw [if_neg (fun q => hf1 q.1)]
    exact rmost_bad base p L W hlen h NM o0 o1 J hn h0 h1 (by rw [(Pl.rfits_is kk1).1]; simpa using hf1)
  by_cases hf0 : Pl.fits 24 o0.1 = true
  case neg =>
    rw [if_neg (fun q => hf0 q.2)]
    exact rmost_bad0 base p L W hlen h NM o0 o1 J hn h0 h1 (by rw [(Pl.rfits_is kk1).1]; exact hf1) (by rw [(Pl.rfits_is kk0).1]; simpa using hf0)
  rw [if_pos ⟨hf1, hf0⟩]
  have q0 := (Pl.fits24 kk0).1 hf0
  have q1 := (Pl.fits24 kk1).1 hf1
  have fv0 := Pl.numv_fix hm0 q0
  have fv1 := Pl.numv_fix hm1 q1
  obtain ⟨x, ex, i0, j0⟩ := Pl.mayO_num hm0 q0
  obtain ⟨y, ey, i1, j1⟩ := Pl.mayO_num hm1 q1
  generalize o0.1 = k0 at *
  generalize o0.2.2.1 = a at *
  generalize o1.1 = k1 at *
  generalize o1.2.2.1 = b at *
  subst ex
  subst ey
  have n0 : Pl.isn k0 a := by
    rcases q0 with rfl | rfl
    · exact .inl ⟨rfl, i0 rfl⟩
    · exact .inr ⟨rfl, j0 rfl⟩
  have n1 : Pl.isn k1 b := by
    rcases q1 with rfl | rfl
    · exact .inl ⟨rfl, i1 rfl⟩
    · exact .inr ⟨rfl, j1 rfl⟩
  unfold Pl.mm
  simp only
  rcases hN with ⟨rfl, rfl⟩ | ⟨rfl, rfl⟩
  · rw [if_neg (by decide)]
    by_cases hl : Pl.sz k1 b < Pl.sz k0 a
    · rw [if_pos hl]
      exact rmost_second base p L W hlen h hb _ k0 k1 q0 q1 a b x y J hn h0 h1 hm0 hm1 n0 n1 true _ (decide_eq_true hl) rfl (.inl ⟨rfl, rfl⟩)
    · rw [if_neg hl]
      exact rmost_first base p L W hlen h hb _ k0 k1 q0 q1 a b x y J hn h0 h1 hm0 hm1 n0 n1 false _ (decide_eq_false hl) rfl (.inl ⟨rfl, rfl⟩)
  · rw [if_pos (by decide)]
    by_cases hl : Pl.sz k0 a < Pl.sz k1 b
    · rw [if_pos hl]
      exact rmost_second base p L W hlen h hb _ k0 k1 q0 q1 a b x y J hn h0 h1 hm0 hm1 n0 n1 _ true rfl (decide_eq_true hl) (.inr ⟨rfl, rfl⟩)
    · rw [if_neg hl]
      exact rmost_first base p L W hlen h hb _ k0 k1 q0 q1 a b x y J hn h0 h1 hm0 hm1 n0 n1 _ false rfl (decide_eq_false hl) (.inr ⟨rfl, rfl⟩)
end
end Go.Proofs.YtfmmomdmemcbbaaGreat
