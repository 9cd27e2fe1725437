/- arith.round, one and two, each by one plain function. -/
import Derived.Test.YtfmmomdmemcbbaaGreatA8
import Derived.Test.YtfmmomdmemcbbaaGreatA9
import Derived.Test.YtfmmomdmemcbbaaGreatA10
import Derived.Test.YtfmmomdmemcbbaaGreatA11
set_option maxHeartbeats 1000000
namespace Go.Proofs.YtfmmomdmemcbbaaGreat
set_option linter.unusedVariables false
open Go.RowKit
theorem Pl.fits24 {k : Int} (h : 1 ≤ k ∧ k ≤ 11) : Pl.fits 24 k = true ↔ (k = 3 ∨ k = 4) := by
  rcases (show k = 1 ∨ k = 2 ∨ k = 3 ∨ k = 4 ∨ k = 5 ∨ k = 6 ∨ k = 7 ∨ k = 8 ∨ k = 9 ∨ k = 10 ∨ k = 11 by omega) with rfl | rfl | rfl | rfl | rfl | rfl | rfl | rfl | rfl | rfl | rfl <;> decide
theorem Pl.fits12 {k : Int} (h : 1 ≤ k ∧ k ≤ 11) : Pl.fits 12 k = true ↔ (k = 2 ∨ k = 3) := by
  rcases (show k = 1 ∨ k = 2 ∨ k = 3 ∨ k = 4 ∨ k = 5 ∨ k = 6 ∨ k = 7 ∨ k = 8 ∨ k = 9 ∨ k = 10 ∨ k = 11 by omega) with rfl | rfl | rfl | rfl | rfl | rfl | rfl | rfl | rfl | rfl | rfl <;> decide
theorem Pl.fits8 {k : Int} (h : 1 ≤ k ∧ k ≤ 11) : Pl.fits 8 k = true ↔ k = 3 := by
  rcases (show k = 1 ∨ k = 2 ∨ k = 3 ∨ k = 4 ∨ k = 5 ∨ k = 6 ∨ k = 7 ∨ k = 8 ∨ k = 9 ∨ k = 10 ∨ k = 11 by omega) with rfl | rfl | rfl | rfl | rfl | rfl | rfl | rfl | rfl | rfl | rfl <;> decide
def Pl.vbits (n a b : Int) : Int := if n = 27 then bits .and .i64 a b else if n = 28 then bits .or .i64 a b else bits .xor .i64 a b
def Pl.twoI (L : List Pl.Ob) (n : Int) (o0 o1 : Pl.Ob) : Int × List Pl.Ob :=
  if n = 11 ∨ n = 12 ∨ n = 13 ∨ n = 14 ∨ n = 26 then Pl.numbersR L n o0 o1
  else if o0.1 ≠ o1.1 then (6, L)
  else if n = 15 ∨ n = 16 then (if o1.2.2.1 = 0 then (19, L) else Pl.wholeR L 2 (if n = 15 then o0.2.2.1.tdiv o1.2.2.1 else o0.2.2.1.tmod o1.2.2.1))
  else if n = 31 then (if o1.2.2.1 < 0 then Pl.wholeR L 2 (o0.2.2.1 / 2 ^ (if 63 < -o1.2.2.1 then 63 else -o1.2.2.1).toNat) else if 31 < o1.2.2.1 then (if o0.2.2.1 = 0 then Pl.wholeR L 2 0 else (2, L)) else Pl.wholeR L 2 (o0.2.2.1 * 2 ^ o1.2.2.1.toNat))
  else if o0.1 = 2 then Pl.giveR L 2 [Pl.truth (Pl.vbits n o0.2.2.1 o1.2.2.1 == 1)] else Pl.wholeR L 2 (Pl.vbits n o0.2.2.1 o1.2.2.1)
def Pl.twoR (L : List Pl.Ob) (n : Int) : Int × List Pl.Ob := match L.reverse with
  | o1 :: o0 :: _ => if Pl.fits (Pl.kinds2 n) o1.1 = true ∧ Pl.fits (Pl.kinds2 n) o0.1 = true then Pl.twoI L n o0 o1 else (6, L)
  | _ => (7, L)
theorem Pl.twoR_cases (L : List Pl.Ob) (n : Int) : (L.length < 2 ∧ Pl.twoR L n = (7, L)) ∨ ∃ o0 o1, L.reverse[0]? = some o1 ∧ L.reverse[1]? = some o0 ∧ 2 ≤ L.length ∧ Pl.twoR L n = if Pl.fits (Pl.kinds2 n) o1.1 = true ∧ Pl.fits (Pl.kinds2 n) o0.1 = true then Pl.twoI L n o0 o1 else (6, L) := by
  have hl := (List.length_reverse : L.reverse.length = L.length)
  unfold Pl.twoR
  match hL : L.reverse with
  | [] => rw [hL] at hl; simp at hl; exact .inl ⟨by omega, rfl⟩
  | [o] => rw [hL] at hl; simp at hl; exact .inl ⟨by omega, rfl⟩
  | o1 :: o0 :: r => rw [hL] at hl; simp at hl; exact .inr ⟨o0, o1, rfl, rfl, by omega, rfl⟩
theorem Pl.mem_rev {L : List Pl.Ob} {j : Nat} {o : Pl.Ob} (h : L.reverse[j]? = some o) : o ∈ L := List.mem_reverse.1 (List.mem_of_getElem? h)
theorem Pl.bool_form {o : Pl.Ob} (hm : Pl.mayO o) (hk : o.1 = 2) : ∃ x, o = (2, x, o.2.2.1, 0, 0, ⟨#[]⟩) := by
  obtain ⟨k, x, n, a, l, s⟩ := o
  simp only at hk
  subst hk
  obtain ⟨_, h2, h3, h4⟩ := Pl.may_bool hm
  subst h2
  subst h3
  subst h4
  exact ⟨x, rfl⟩
section
variable (W0 : World) (Pr : Nat → Prop) (p : Nat) (L : List Pl.Ob) (W : World) (hlen : L.length ≤ 200) (h : Stk W0 Pr p L W) (hall : ∀ o ∈ L, Pl.mayO o)
include h hlen hall
theorem one_any (n : Int) (hn : n = 17 ∨ n = 18 ∨ n = 19 ∨ n = 20 ∨ n = 21 ∨ n = 22 ∨ n = 23 ∨ n = 24 ∨ n = 25 ∨ n = 30) :
    Calls Tryz.prog 21 #[.pointer (some ⟨p, 0, none⟩), .int .i64 n] W fun e w' => e = .returned (.int .i64 (Pl.oneR L n).1) ∧ Stk W0 Pr p (Pl.oneR L n).2 w' ∧ FrS W0 Pr W w' := by
  unfold Pl.oneR
  cases hL : L.reverse with
  | nil =>
    have h0 : L.length < 1 := by
      have := congrArg List.length hL
      rw [List.length_reverse] at this
      simp at this
      simp [this]
    simp only
    by_cases h30 : n = 30
    · subst h30
      exact one_under_12 W0 Pr p L W h h0
    · exact one_under_24 W0 Pr p L W h n (beq_eq_false_iff_ne.2 h30) h0
  | cons o r =>
    have ho : L.reverse[0]? = some o := by rw [hL]; rfl
    have h1 : 1 ≤ L.length := by
      have := congrArg List.length hL
      rw [List.length_reverse] at this
      simp at this
      omega
    have hm := hall o (Pl.mem_rev ho)
    have hk := Pl.mayO_kind hm
    simp only
    by_cases hf : Pl.fits (Pl.kinds1 n) o.1 = true
    · rw [if_pos hf]
      unfold Pl.oneI
      by_cases h30 : n = 30
      · subst h30
        rw [if_pos rfl]
        have hf2 : Pl.fits 12 o.1 = true := hf
        rcases (Pl.fits12 hk).1 hf2 with hk2 | hk3
        · rw [if_pos hk2]
          obtain ⟨x, ex⟩ := Pl.bool_form hm hk2
          have hv := (Pl.may_bool (ex ▸ hm)).1
          generalize o.2.2.1 = v at ex hv
          subst ex
          rcases hv with rfl | rfl
          · exact one_30_2_0 W0 Pr p L W hlen h x ho hm h1
          · exact one_30_2_1 W0 Pr p L W hlen h x ho hm h1
        · rw [if_neg (by omega)]
          obtain ⟨x, ex, _, _⟩ := Pl.mayO_num hm (.inl hk3)
          generalize o.2.2.1 = v at ex
          rw [hk3] at ex
          subst ex
          exact one_30_3 W0 Pr p L W hlen h v x ho hm h1
      · rw [if_neg h30]
        have hf2 : Pl.fits 24 o.1 = true := by unfold Pl.kinds1 at hf; rw [if_neg h30] at hf; exact hf
        have hk4 := (Pl.fits24 hk).1 hf2
        obtain ⟨x, ex, _, _⟩ := Pl.mayO_num hm hk4
        generalize o.1 = k at ex hk4
        generalize o.2.2.1 = v at ex
        subst ex
        try simp only
        rcases hn with rfl | rfl | rfl | rfl | rfl | rfl | rfl | rfl | rfl | rfl
        · rw [if_pos (.inl rfl), if_neg (by simp)]
          rcases hk4 with rfl | rfl
          · exact one_17_3 W0 Pr p L W hlen h v x ho hm h1
          · exact one_17_4 W0 Pr p L W hlen h v x ho hm h1
        · rw [if_pos (.inr rfl)]
          by_cases hv : 0 ≤ v
          · rw [if_pos ⟨rfl, hv⟩]
            rcases hk4 with rfl | rfl
            · exact one_18_3_up W0 Pr p L W hlen h v x ho hm h1 hv
            · exact one_18_4_up W0 Pr p L W hlen h v x ho hm h1 hv
          · rw [if_neg (fun q => hv q.2)]
            rcases hk4 with rfl | rfl
            · exact one_18_3 W0 Pr p L W hlen h v x ho hm h1 (by omega)
            · exact one_18_4 W0 Pr p L W hlen h v x ho hm h1 (by omega)
        · rw [if_neg (by decide), if_pos (.inl rfl)]
          rcases hk4 with rfl | rfl
          · exact one_19_3 W0 Pr p L W hlen h v x ho hm h1
          · exact one_19_4 W0 Pr p L W hlen h v x ho hm h1
        · rw [if_neg (by decide), if_pos (.inr (.inl rfl))]
          rcases hk4 with rfl | rfl
          · exact one_20_3 W0 Pr p L W hlen h v x ho hm h1
          · exact one_20_4 W0 Pr p L W hlen h v x ho hm h1
        · rw [if_neg (by decide), if_pos (.inr (.inr (.inl rfl)))]
          rcases hk4 with rfl | rfl
          · exact one_21_3 W0 Pr p L W hlen h v x ho hm h1
          · exact one_21_4 W0 Pr p L W hlen h v x ho hm h1
        · rw [if_neg (by decide), if_pos (.inr (.inr (.inr rfl)))]
          rcases hk4 with rfl | rfl
          · exact one_22_3 W0 Pr p L W hlen h v x ho hm h1
          · exact one_22_4 W0 Pr p L W hlen h v x ho hm h1
        · rw [if_neg (by decide), if_neg (by decide)]
          generalize hNV : Pl.numv (k, x, v, 0, 0, ⟨#[]⟩) = NV
          obtain ⟨u, ok⟩ := NV
          rcases ok with _ | _
          · rw [if_pos rfl]
            rcases hk4 with rfl | rfl
            · exact one_23_3_no W0 Pr p L W hlen h v x ho hm h1 (by rw [hNV])
            · exact one_23_4_no W0 Pr p L W hlen h v x ho hm h1 (by rw [hNV])
          · rw [if_neg (by simp)]
            simp only
            rw [show Pl.f1b 23 u = (if 0 ≤ u then (Pl.root (u * 65536), true) else (0, false)) from rfl]
            by_cases hu : 0 ≤ u
            · rw [if_pos hu]
              rcases hk4 with rfl | rfl
              · exact one_23_3 W0 Pr p L W hlen h v x ho hm h1 u hNV hu
              · exact one_23_4 W0 Pr p L W hlen h v x ho hm h1 u hNV hu
            · rw [if_neg hu]
              rcases hk4 with rfl | rfl
              · exact one_23_3_neg W0 Pr p L W hlen h v x ho hm h1 u hNV hu
              · exact one_23_4_neg W0 Pr p L W hlen h v x ho hm h1 u hNV hu
        · rw [if_neg (by decide), if_neg (by decide)]
          generalize hNV : Pl.numv (k, x, v, 0, 0, ⟨#[]⟩) = NV
          obtain ⟨u, ok⟩ := NV
          rcases ok with _ | _
          · rw [if_pos rfl]
            rcases hk4 with rfl | rfl
            · exact one_24_3_no W0 Pr p L W hlen h v x ho hm h1 (by rw [hNV])
            · exact one_24_4_no W0 Pr p L W hlen h v x ho hm h1 (by rw [hNV])
          · rw [if_neg (by simp)]
            simp only
            rw [show Pl.f1b 24 u = (Pl.sin u, true) from rfl]
            rcases hk4 with rfl | rfl
            · exact one_24_3 W0 Pr p L W hlen h v x ho hm h1 u hNV
            · exact one_24_4 W0 Pr p L W hlen h v x ho hm h1 u hNV
        · rw [if_neg (by decide), if_neg (by decide)]
          generalize hNV : Pl.numv (k, x, v, 0, 0, ⟨#[]⟩) = NV
          obtain ⟨u, ok⟩ := NV
          rcases ok with _ | _
          · rw [if_pos rfl]
            rcases hk4 with rfl | rfl
            · exact one_25_3_no W0 Pr p L W hlen h v x ho hm h1 (by rw [hNV])
            · exact one_25_4_no W0 Pr p L W hlen h v x ho hm h1 (by rw [hNV])
          · rw [if_neg (by simp)]
            simp only
            rw [show Pl.f1b 25 u = (Pl.cos u, true) from rfl]
            rcases hk4 with rfl | rfl
            · exact one_25_3 W0 Pr p L W hlen h v x ho hm h1 u hNV
            · exact one_25_4 W0 Pr p L W hlen h v x ho hm h1 u hNV
        · exact absurd rfl h30
    · rw [if_neg hf]
      have hff : Pl.fits (Pl.kinds1 n) o.1 = false := by simpa using hf
      by_cases h30 : n = 30
      · subst h30
        exact one_bad_12 W0 Pr p L W hlen h o ho hm hff
      · exact one_bad_24 W0 Pr p L W hlen h n (beq_eq_false_iff_ne.2 h30) o ho hm (by unfold Pl.kinds1 at hff; rw [if_neg h30] at hff; exact hff)
theorem two_any (n : Int) (hn : n = 11 ∨ n = 12 ∨ n = 13 ∨ n = 14 ∨ n = 26 ∨ n = 15 ∨ n = 16 ∨ n = 31 ∨ n = 27 ∨ n = 28 ∨ n = 29) :
    Calls Tryz.prog 20 #[.pointer (some ⟨p, 0, none⟩), .int .i64 n] W fun e w' => e = .returned (.int .i64 (Pl.twoR L n).1) ∧ Stk W0 Pr p (Pl.twoR L n).2 w' ∧ FrS W0 Pr W w' := by
  rcases Pl.twoR_cases L n with ⟨h0, hR⟩ | ⟨o0, o1, ho1, ho0, h2, hR⟩ <;> rw [hR] <;> clear hR
  · rcases hn with rfl | rfl | rfl | rfl | rfl | rfl | rfl | rfl | rfl | rfl | rfl
    · exact two_under_24 W0 Pr p L W h h0 11 (by decide)
    · exact two_under_24 W0 Pr p L W h h0 12 (by decide)
    · exact two_under_24 W0 Pr p L W h h0 13 (by decide)
    · exact two_under_24 W0 Pr p L W h h0 14 (by decide)
    · exact two_under_24 W0 Pr p L W h h0 26 (by decide)
    · exact two_under_8 W0 Pr p L W h h0 15 (by decide)
    · exact two_under_8 W0 Pr p L W h h0 16 (by decide)
    · exact two_under_8 W0 Pr p L W h h0 31 (by decide)
    · exact two_under_12 W0 Pr p L W h h0 27 (by decide)
    · exact two_under_12 W0 Pr p L W h h0 28 (by decide)
    · exact two_under_12 W0 Pr p L W h h0 29 (by decide)
  have hm0 := hall o0 (Pl.mem_rev ho0)
  have hm1 := hall o1 (Pl.mem_rev ho1)
  have hk0 := Pl.mayO_kind hm0
  have hk1 := Pl.mayO_kind hm1
  by_cases hf1 : Pl.fits (Pl.kinds2 n) o1.1 = true
  · by_cases hf0 : Pl.fits (Pl.kinds2 n) o0.1 = true
    · rw [if_pos ⟨hf1, hf0⟩]
      unfold Pl.twoI
      rcases hn with rfl | rfl | rfl | rfl | rfl | rfl | rfl | rfl | rfl | rfl | rfl
      · have q0 := (Pl.fits24 hk0).1 hf0
        have q1 := (Pl.fits24 hk1).1 hf1
        rw [if_pos (by decide)]
        have e0 := hm0
        have e1 := hm1
        obtain ⟨x, ex, _, _⟩ := Pl.mayO_num hm0 q0
        obtain ⟨y, ey, _, _⟩ := Pl.mayO_num hm1 q1
        generalize o0.1 = k0 at ex q0 hf0
        generalize o0.2.2.1 = a at ex
        generalize o1.1 = k1 at ey q1 hf1
        generalize o1.2.2.1 = b at ey
        subst ex
        subst ey
        try simp only
        exact two_num W0 Pr p L W hlen h _ _ q0 q1 11 (by decide) a b x y ho1 ho0 h2 hm0 hm1
      · have q0 := (Pl.fits24 hk0).1 hf0
        have q1 := (Pl.fits24 hk1).1 hf1
        rw [if_pos (by decide)]
        have e0 := hm0
        have e1 := hm1
        obtain ⟨x, ex, _, _⟩ := Pl.mayO_num hm0 q0
        obtain ⟨y, ey, _, _⟩ := Pl.mayO_num hm1 q1
        generalize o0.1 = k0 at ex q0 hf0
        generalize o0.2.2.1 = a at ex
        generalize o1.1 = k1 at ey q1 hf1
        generalize o1.2.2.1 = b at ey
        subst ex
        subst ey
        try simp only
        exact two_num W0 Pr p L W hlen h _ _ q0 q1 12 (by decide) a b x y ho1 ho0 h2 hm0 hm1
      · have q0 := (Pl.fits24 hk0).1 hf0
        have q1 := (Pl.fits24 hk1).1 hf1
        rw [if_pos (by decide)]
        have e0 := hm0
        have e1 := hm1
        obtain ⟨x, ex, _, _⟩ := Pl.mayO_num hm0 q0
        obtain ⟨y, ey, _, _⟩ := Pl.mayO_num hm1 q1
        generalize o0.1 = k0 at ex q0 hf0
        generalize o0.2.2.1 = a at ex
        generalize o1.1 = k1 at ey q1 hf1
        generalize o1.2.2.1 = b at ey
        subst ex
        subst ey
        try simp only
        exact two_num W0 Pr p L W hlen h _ _ q0 q1 13 (by decide) a b x y ho1 ho0 h2 hm0 hm1
      · have q0 := (Pl.fits24 hk0).1 hf0
        have q1 := (Pl.fits24 hk1).1 hf1
        rw [if_pos (by decide)]
        have e0 := hm0
        have e1 := hm1
        obtain ⟨x, ex, _, _⟩ := Pl.mayO_num hm0 q0
        obtain ⟨y, ey, _, _⟩ := Pl.mayO_num hm1 q1
        generalize o0.1 = k0 at ex q0 hf0
        generalize o0.2.2.1 = a at ex
        generalize o1.1 = k1 at ey q1 hf1
        generalize o1.2.2.1 = b at ey
        subst ex
        subst ey
        try simp only
        exact two_num W0 Pr p L W hlen h _ _ q0 q1 14 (by decide) a b x y ho1 ho0 h2 hm0 hm1
      · have q0 := (Pl.fits24 hk0).1 hf0
        have q1 := (Pl.fits24 hk1).1 hf1
        rw [if_pos (by decide)]
        have e0 := hm0
        have e1 := hm1
        obtain ⟨x, ex, _, _⟩ := Pl.mayO_num hm0 q0
        obtain ⟨y, ey, _, _⟩ := Pl.mayO_num hm1 q1
        generalize o0.1 = k0 at ex q0 hf0
        generalize o0.2.2.1 = a at ex
        generalize o1.1 = k1 at ey q1 hf1
        generalize o1.2.2.1 = b at ey
        subst ex
        subst ey
        try simp only
        exact two_num W0 Pr p L W hlen h _ _ q0 q1 26 (by decide) a b x y ho1 ho0 h2 hm0 hm1
      · have q0 := Or.inl (b := o0.1 = 4) ((Pl.fits8 hk0).1 hf0)
        have q1 := Or.inl (b := o1.1 = 4) ((Pl.fits8 hk1).1 hf1)
        rw [if_neg (by decide), if_neg (by rw [(Pl.fits8 hk0).1 hf0, (Pl.fits8 hk1).1 hf1]; decide)]
        obtain q0' := (Pl.fits8 hk0).1 hf0
        obtain q1' := (Pl.fits8 hk1).1 hf1
        have e0 := hm0
        have e1 := hm1
        obtain ⟨x, ex, _, _⟩ := Pl.mayO_num hm0 q0
        obtain ⟨y, ey, _, _⟩ := Pl.mayO_num hm1 q1
        generalize o0.1 = k0 at ex q0 hf0 q0'
        generalize o0.2.2.1 = a at ex
        generalize o1.1 = k1 at ey q1 hf1 q1'
        generalize o1.2.2.1 = b at ey
        subst ex
        subst ey
        try simp only
        subst q0'
        subst q1'
        rw [if_pos (by decide)]
        by_cases hb : b = 0
        · rw [if_pos hb]; exact two_15_zero W0 Pr p L W hlen h a b x y ho1 ho0 h2 hm0 hm1 hb
        · rw [if_neg hb]; exact two_15 W0 Pr p L W hlen h a b x y ho1 ho0 h2 hm0 hm1 hb
      · have q0 := Or.inl (b := o0.1 = 4) ((Pl.fits8 hk0).1 hf0)
        have q1 := Or.inl (b := o1.1 = 4) ((Pl.fits8 hk1).1 hf1)
        rw [if_neg (by decide), if_neg (by rw [(Pl.fits8 hk0).1 hf0, (Pl.fits8 hk1).1 hf1]; decide)]
        obtain q0' := (Pl.fits8 hk0).1 hf0
        obtain q1' := (Pl.fits8 hk1).1 hf1
        have e0 := hm0
        have e1 := hm1
        obtain ⟨x, ex, _, _⟩ := Pl.mayO_num hm0 q0
        obtain ⟨y, ey, _, _⟩ := Pl.mayO_num hm1 q1
        generalize o0.1 = k0 at ex q0 hf0 q0'
        generalize o0.2.2.1 = a at ex
        generalize o1.1 = k1 at ey q1 hf1 q1'
        generalize o1.2.2.1 = b at ey
        subst ex
        subst ey
        try simp only
        subst q0'
        subst q1'
        rw [if_pos (by decide)]
        by_cases hb : b = 0
        · rw [if_pos hb]; exact two_16_zero W0 Pr p L W hlen h a b x y ho1 ho0 h2 hm0 hm1 hb
        · rw [if_neg hb]; exact two_16 W0 Pr p L W hlen h a b x y ho1 ho0 h2 hm0 hm1 hb
      · have q0 := Or.inl (b := o0.1 = 4) ((Pl.fits8 hk0).1 hf0)
        have q1 := Or.inl (b := o1.1 = 4) ((Pl.fits8 hk1).1 hf1)
        rw [if_neg (by decide), if_neg (by rw [(Pl.fits8 hk0).1 hf0, (Pl.fits8 hk1).1 hf1]; decide)]
        obtain q0' := (Pl.fits8 hk0).1 hf0
        obtain q1' := (Pl.fits8 hk1).1 hf1
        have e0 := hm0
        have e1 := hm1
        obtain ⟨x, ex, _, _⟩ := Pl.mayO_num hm0 q0
        obtain ⟨y, ey, _, _⟩ := Pl.mayO_num hm1 q1
        generalize o0.1 = k0 at ex q0 hf0 q0'
        generalize o0.2.2.1 = a at ex
        generalize o1.1 = k1 at ey q1 hf1 q1'
        generalize o1.2.2.1 = b at ey
        subst ex
        subst ey
        try simp only
        subst q0'
        subst q1'
        rw [if_neg (by decide)]
        first | rw [if_pos rfl] | rw [if_pos trivial]
        by_cases hb : b < 0
        · rw [if_pos hb]; exact two_31_down W0 Pr p L W hlen h a b x y ho1 ho0 h2 hm0 hm1 hb
        · rw [if_neg hb]
          by_cases hb2 : 31 < b
          · rw [if_pos hb2]
            by_cases ha : a = 0
            · rw [if_pos ha]; subst ha; exact two_31_none W0 Pr p L W hlen h b x y ho1 ho0 h2 hm0 hm1 hb2
            · rw [if_neg ha]; exact two_31_far W0 Pr p L W hlen h a b x y ho1 ho0 h2 hm0 hm1 hb2 ha
          · rw [if_neg hb2]; exact two_31_up W0 Pr p L W hlen h a b x y ho1 ho0 h2 hm0 hm1 ⟨by omega, by omega⟩
      · have q0 := (Pl.fits12 hk0).1 hf0
        have q1 := (Pl.fits12 hk1).1 hf1
        rw [if_neg (by decide)]
        rcases q0 with q0 | q0 <;> rcases q1 with q1 | q1
        · rw [if_neg (by rw [q0, q1]; decide), if_neg (by decide), if_neg (by decide), if_pos q0]
          obtain ⟨x, ex⟩ := Pl.bool_form hm0 q0
          obtain ⟨y, ey⟩ := Pl.bool_form hm1 q1
          generalize o0.2.2.1 = a at ex
          generalize o1.2.2.1 = b at ey
          subst ex
          subst ey
          rw [show Pl.vbits 27 a b = bits .and .i64 a b from rfl]
          cases hv : (bits .and .i64 a b == 1)
          · exact two_27_22_false W0 Pr p L W hlen h a b x y ho1 ho0 h2 hm0 hm1 hv
          · exact two_27_22_true W0 Pr p L W hlen h a b x y ho1 ho0 h2 hm0 hm1 hv
        · rw [if_pos (by rw [q0, q1]; decide)]
          obtain ⟨x, ex⟩ := Pl.bool_form hm0 q0
          obtain ⟨y, ey, _, _⟩ := Pl.mayO_num hm1 (.inl q1)
          generalize o0.2.2.1 = a at ex
          generalize o1.2.2.1 = b at ey
          rw [q1] at ey
          subst ex
          subst ey
          exact two_27_23 W0 Pr p L W hlen h a b x y ho1 ho0 h2 hm0 hm1
        · rw [if_pos (by rw [q0, q1]; decide)]
          obtain ⟨x, ex, _, _⟩ := Pl.mayO_num hm0 (.inl q0)
          obtain ⟨y, ey⟩ := Pl.bool_form hm1 q1
          generalize o0.2.2.1 = a at ex
          generalize o1.2.2.1 = b at ey
          rw [q0] at ex
          subst ex
          subst ey
          exact two_27_32 W0 Pr p L W hlen h a b x y ho1 ho0 h2 hm0 hm1
        · rw [if_neg (by rw [q0, q1]; decide), if_neg (by decide), if_neg (by decide), if_neg (by omega)]
          obtain ⟨x, ex, _, _⟩ := Pl.mayO_num hm0 (.inl q0)
          obtain ⟨y, ey, _, _⟩ := Pl.mayO_num hm1 (.inl q1)
          generalize o0.2.2.1 = a at ex
          generalize o1.2.2.1 = b at ey
          rw [q0] at ex
          rw [q1] at ey
          subst ex
          subst ey
          exact two_27_33 W0 Pr p L W hlen h a b x y ho1 ho0 h2 hm0 hm1
      · have q0 := (Pl.fits12 hk0).1 hf0
        have q1 := (Pl.fits12 hk1).1 hf1
        rw [if_neg (by decide)]
        rcases q0 with q0 | q0 <;> rcases q1 with q1 | q1
        · rw [if_neg (by rw [q0, q1]; decide), if_neg (by decide), if_neg (by decide), if_pos q0]
          obtain ⟨x, ex⟩ := Pl.bool_form hm0 q0
          obtain ⟨y, ey⟩ := Pl.bool_form hm1 q1
          generalize o0.2.2.1 = a at ex
          generalize o1.2.2.1 = b at ey
          subst ex
          subst ey
          rw [show Pl.vbits 28 a b = bits .or .i64 a b from rfl]
          cases hv : (bits .or .i64 a b == 1)
          · exact two_28_22_false W0 Pr p L W hlen h a b x y ho1 ho0 h2 hm0 hm1 hv
          · exact two_28_22_true W0 Pr p L W hlen h a b x y ho1 ho0 h2 hm0 hm1 hv
        · rw [if_pos (by rw [q0, q1]; decide)]
          obtain ⟨x, ex⟩ := Pl.bool_form hm0 q0
          obtain ⟨y, ey, _, _⟩ := Pl.mayO_num hm1 (.inl q1)
          generalize o0.2.2.1 = a at ex
          generalize o1.2.2.1 = b at ey
          rw [q1] at ey
          subst ex
          subst ey
          exact two_28_23 W0 Pr p L W hlen h a b x y ho1 ho0 h2 hm0 hm1
        · rw [if_pos (by rw [q0, q1]; decide)]
          obtain ⟨x, ex, _, _⟩ := Pl.mayO_num hm0 (.inl q0)
          obtain ⟨y, ey⟩ := Pl.bool_form hm1 q1
          generalize o0.2.2.1 = a at ex
          generalize o1.2.2.1 = b at ey
          rw [q0] at ex
          subst ex
          subst ey
          exact two_28_32 W0 Pr p L W hlen h a b x y ho1 ho0 h2 hm0 hm1
        · rw [if_neg (by rw [q0, q1]; decide), if_neg (by decide), if_neg (by decide), if_neg (by omega)]
          obtain ⟨x, ex, _, _⟩ := Pl.mayO_num hm0 (.inl q0)
          obtain ⟨y, ey, _, _⟩ := Pl.mayO_num hm1 (.inl q1)
          generalize o0.2.2.1 = a at ex
          generalize o1.2.2.1 = b at ey
          rw [q0] at ex
          rw [q1] at ey
          subst ex
          subst ey
          exact two_28_33 W0 Pr p L W hlen h a b x y ho1 ho0 h2 hm0 hm1
      · have q0 := (Pl.fits12 hk0).1 hf0
        have q1 := (Pl.fits12 hk1).1 hf1
        rw [if_neg (by decide)]
        rcases q0 with q0 | q0 <;> rcases q1 with q1 | q1
        · rw [if_neg (by rw [q0, q1]; decide), if_neg (by decide), if_neg (by decide), if_pos q0]
          obtain ⟨x, ex⟩ := Pl.bool_form hm0 q0
          obtain ⟨y, ey⟩ := Pl.bool_form hm1 q1
          generalize o0.2.2.1 = a at ex
          generalize o1.2.2.1 = b at ey
          subst ex
          subst ey
          rw [show Pl.vbits 29 a b = bits .xor .i64 a b from rfl]
          cases hv : (bits .xor .i64 a b == 1)
          · exact two_29_22_false W0 Pr p L W hlen h a b x y ho1 ho0 h2 hm0 hm1 hv
          · exact two_29_22_true W0 Pr p L W hlen h a b x y ho1 ho0 h2 hm0 hm1 hv
        · rw [if_pos (by rw [q0, q1]; decide)]
          obtain ⟨x, ex⟩ := Pl.bool_form hm0 q0
          obtain ⟨y, ey, _, _⟩ := Pl.mayO_num hm1 (.inl q1)
          generalize o0.2.2.1 = a at ex
          generalize o1.2.2.1 = b at ey
          rw [q1] at ey
          subst ex
          subst ey
          exact two_29_23 W0 Pr p L W hlen h a b x y ho1 ho0 h2 hm0 hm1
        · rw [if_pos (by rw [q0, q1]; decide)]
          obtain ⟨x, ex, _, _⟩ := Pl.mayO_num hm0 (.inl q0)
          obtain ⟨y, ey⟩ := Pl.bool_form hm1 q1
          generalize o0.2.2.1 = a at ex
          generalize o1.2.2.1 = b at ey
          rw [q0] at ex
          subst ex
          subst ey
          exact two_29_32 W0 Pr p L W hlen h a b x y ho1 ho0 h2 hm0 hm1
        · rw [if_neg (by rw [q0, q1]; decide), if_neg (by decide), if_neg (by decide), if_neg (by omega)]
          obtain ⟨x, ex, _, _⟩ := Pl.mayO_num hm0 (.inl q0)
          obtain ⟨y, ey, _, _⟩ := Pl.mayO_num hm1 (.inl q1)
          generalize o0.2.2.1 = a at ex
          generalize o1.2.2.1 = b at ey
          rw [q0] at ex
          rw [q1] at ey
          subst ex
          subst ey
          exact two_29_33 W0 Pr p L W hlen h a b x y ho1 ho0 h2 hm0 hm1
    · rw [if_neg (fun q => hf0 q.2)]
      have hff : Pl.fits (Pl.kinds2 n) o0.1 = false := by simpa using hf0
      rcases hn with rfl | rfl | rfl | rfl | rfl | rfl | rfl | rfl | rfl | rfl | rfl
      · exact two_bad0_24 W0 Pr p L W hlen h o0 o1 ho1 ho0 hm0 hm1 hf1 hff 11 (by decide)
      · exact two_bad0_24 W0 Pr p L W hlen h o0 o1 ho1 ho0 hm0 hm1 hf1 hff 12 (by decide)
      · exact two_bad0_24 W0 Pr p L W hlen h o0 o1 ho1 ho0 hm0 hm1 hf1 hff 13 (by decide)
      · exact two_bad0_24 W0 Pr p L W hlen h o0 o1 ho1 ho0 hm0 hm1 hf1 hff 14 (by decide)
      · exact two_bad0_24 W0 Pr p L W hlen h o0 o1 ho1 ho0 hm0 hm1 hf1 hff 26 (by decide)
      · exact two_bad0_8 W0 Pr p L W hlen h o0 o1 ho1 ho0 hm0 hm1 hf1 hff 15 (by decide)
      · exact two_bad0_8 W0 Pr p L W hlen h o0 o1 ho1 ho0 hm0 hm1 hf1 hff 16 (by decide)
      · exact two_bad0_8 W0 Pr p L W hlen h o0 o1 ho1 ho0 hm0 hm1 hf1 hff 31 (by decide)
      · exact two_bad0_12 W0 Pr p L W hlen h o0 o1 ho1 ho0 hm0 hm1 hf1 hff 27 (by decide)
      · exact two_bad0_12 W0 Pr p L W hlen h o0 o1 ho1 ho0 hm0 hm1 hf1 hff 28 (by decide)
      · exact two_bad0_12 W0 Pr p L W hlen h o0 o1 ho1 ho0 hm0 hm1 hf1 hff 29 (by decide)
  · rw [if_neg (fun q => hf1 q.1)]
    have hff : Pl.fits (Pl.kinds2 n) o1.1 = false := by simpa using hf1
    rcases hn with rfl | rfl | rfl | rfl | rfl | rfl | rfl | rfl | rfl | rfl | rfl
    · exact two_bad1_24 W0 Pr p L W hlen h o0 o1 ho1 ho0 hm0 hm1 hff 11 (by decide)
    · exact two_bad1_24 W0 Pr p L W hlen h o0 o1 ho1 ho0 hm0 hm1 hff 12 (by decide)
    · exact two_bad1_24 W0 Pr p L W hlen h o0 o1 ho1 ho0 hm0 hm1 hff 13 (by decide)
    · exact two_bad1_24 W0 Pr p L W hlen h o0 o1 ho1 ho0 hm0 hm1 hff 14 (by decide)
    · exact two_bad1_24 W0 Pr p L W hlen h o0 o1 ho1 ho0 hm0 hm1 hff 26 (by decide)
    · exact two_bad1_8 W0 Pr p L W hlen h o0 o1 ho1 ho0 hm0 hm1 hff 15 (by decide)
    · exact two_bad1_8 W0 Pr p L W hlen h o0 o1 ho1 ho0 hm0 hm1 hff 16 (by decide)
    · exact two_bad1_8 W0 Pr p L W hlen h o0 o1 ho1 ho0 hm0 hm1 hff 31 (by decide)
    · exact two_bad1_12 W0 Pr p L W hlen h o0 o1 ho1 ho0 hm0 hm1 hff 27 (by decide)
    · exact two_bad1_12 W0 Pr p L W hlen h o0 o1 ho1 ho0 hm0 hm1 hff 28 (by decide)
    · exact two_bad1_12 W0 Pr p L W hlen h o0 o1 ho1 ho0 hm0 hm1 hff 29 (by decide)
theorem round_any (n : Int) (hn : n = 1 ∨ n = 2 ∨ n = 3 ∨ n = 4 ∨ n = 5 ∨ n = 6 ∨ n = 7 ∨ n = 8 ∨ n = 9 ∨ n = 10) :
    Calls Tryz.prog 19 #[.pointer (some ⟨p, 0, none⟩), .int .i64 n] W fun e w' => e = .returned (.int .i64 (Pl.roundR L n).1) ∧ Stk W0 Pr p (Pl.roundR L n).2 w' ∧ FrS W0 Pr W w' := by
  have hl := (List.length_reverse : L.reverse.length = L.length)
  unfold Pl.roundR
  rcases hn with rfl | rfl | rfl | rfl | rfl | rfl | rfl | rfl | rfl | rfl
  · rw [if_pos rfl]
    cases hL : L.reverse with
    | nil =>
      rw [hL] at hl
      have : L = [] := List.eq_nil_of_length_eq_zero hl.symm
      rw [if_pos this]
      exact round_1_under W0 Pr p L W h (by rw [this]; decide)
    | cons o r =>
      rw [hL] at hl
      simp at hl
      rw [if_neg (fun e => by rw [e] at hl; simp at hl)]
      obtain ⟨k, x, n, a, l, s⟩ := o
      exact round_1 W0 Pr p L W hlen h k n a l x s (by rw [hL]; rfl) (hall _ (Pl.mem_rev (j := 0) (by rw [hL]; rfl))) (by omega)
  · rw [if_neg (by decide), if_pos rfl]
    match hL : L.reverse with
    | [] => rw [hL] at hl; simp at hl; exact round_2_under W0 Pr p L W h (by omega)
    | [o] => rw [hL] at hl; simp at hl; exact round_2_under W0 Pr p L W h (by omega)
    | (k1, x1, n1, a1, l1, s1) :: (k0, x0, n0, a0, l0, s0) :: r =>
      rw [hL] at hl
      simp at hl
      have ho1 : L.reverse[0]? = some (k1, x1, n1, a1, l1, s1) := by rw [hL]; rfl
      have ho0 : L.reverse[1]? = some (k0, x0, n0, a0, l0, s0) := by rw [hL]; rfl
      exact round_2 W0 Pr p L W hlen h k0 n0 a0 l0 x0 s0 k1 n1 a1 l1 x1 s1 ho1 ho0 (hall _ (Pl.mem_rev ho0)) (hall _ (Pl.mem_rev ho1)) (by omega)
  · rw [if_neg (by decide), if_neg (by decide), if_pos rfl]
    match hL : L.reverse with
    | [] => rw [hL] at hl; simp at hl; exact round_3_under W0 Pr p L W h (by omega)
    | (k, x, n, a, l, s) :: r =>
      rw [hL] at hl
      simp at hl
      have ho : L.reverse[0]? = some (k, x, n, a, l, s) := by rw [hL]; rfl
      exact round_3 W0 Pr p L W hlen h k n a l x s ho (hall _ (Pl.mem_rev ho)) (by omega)
  · rw [if_neg (by decide), if_neg (by decide), if_neg (by decide), if_pos rfl]
    cases hL : L.reverse with
    | nil => rw [hL] at hl; simp at hl; exact round_4_under W0 Pr p L W h (by omega)
    | cons o r =>
      have hl2 := hl
      rw [hL] at hl2
      simp at hl2
      have ho : L.reverse[0]? = some o := by rw [hL]; rfl
      have hm := hall _ (Pl.mem_rev ho)
      simp only
      rw [← hL]
      by_cases hk : o.1 = 3
      · rw [if_pos hk]
        obtain ⟨x, ex, _, _⟩ := Pl.mayO_num hm (.inl hk)
        generalize o.2.2.1 = v at ex ⊢
        rw [hk] at ex
        subst ex
        by_cases hv : v < 0
        · rw [if_pos hv]
          exact round_4_low W0 Pr p L W hlen h v x ho hm hv
        · rw [if_neg hv]
          cases hq : L.reverse[(v + 1).toNat]? with
          | none => exact round_4_none W0 Pr p L W hlen h v x ho hm (by omega) hq
          | some q =>
            obtain ⟨k0, x0, n0, a0, l0, s0⟩ := q
            exact round_4 W0 Pr p L W hlen h v x ho hm (by omega) (by omega) k0 n0 a0 l0 x0 s0 hq (hall _ (Pl.mem_rev hq))
      · rw [if_neg hk]
        exact round_4_bad W0 Pr p L W hlen h o ho hm (by rw [← Bool.not_eq_true, Pl.fits8 (Pl.mayO_kind hm)]; exact hk)
  · rw [if_neg (by decide), if_neg (by decide), if_neg (by decide), if_neg (by decide), if_pos rfl]
    match hL : L.reverse with
    | [] => rw [hL] at hl; simp at hl; exact round_5_under W0 Pr p L W h (by omega)
    | [o] => rw [hL] at hl; simp at hl; exact round_5_under W0 Pr p L W h (by omega)
    | o1 :: o0 :: r =>
      rw [hL] at hl
      simp at hl
      have ho1 : L.reverse[0]? = some o1 := by rw [hL]; rfl
      have ho0 : L.reverse[1]? = some o0 := by rw [hL]; rfl
      have hm0 := hall _ (Pl.mem_rev ho0)
      have hm1 := hall _ (Pl.mem_rev ho1)
      by_cases hk1 : o1.1 = 3
      · by_cases hk0 : o0.1 = 3
        · simp only [if_pos (And.intro hk1 hk0)]
          obtain ⟨x, ex, _, _⟩ := Pl.mayO_num hm0 (.inl hk0)
          obtain ⟨y, ey, _, _⟩ := Pl.mayO_num hm1 (.inl hk1)
          generalize o0.2.2.1 = a at ex ⊢
          generalize o1.2.2.1 = b at ey ⊢
          rw [hk0] at ex
          rw [hk1] at ey
          subst ex
          subst ey
          by_cases ha : a < 0
          · rw [if_pos ha]
            exact round_5_low W0 Pr p L W hlen h a b x y ho1 ho0 hm0 hm1 ha
          · rw [if_neg ha]
            by_cases h2 : (L.length : Int) - 2 < a
            · rw [if_pos h2]
              exact round_5_under2 W0 Pr p L W hlen h a b x y ho1 ho0 hm0 hm1 (by omega) h2
            · rw [if_neg h2]
              exact round_5 W0 Pr p L W hlen h a b x y ho1 ho0 hm0 hm1 (by omega) (by omega) (by omega)
        · simp only [if_neg (fun q : o1.1 = 3 ∧ o0.1 = 3 => hk0 q.2)]
          exact round_5_bad0 W0 Pr p L W hlen h o0 o1 ho1 ho0 hm0 hm1 ((Pl.fits8 (Pl.mayO_kind hm1)).2 hk1) (by rw [← Bool.not_eq_true, Pl.fits8 (Pl.mayO_kind hm0)]; exact hk0)
      · simp only [if_neg (fun q : o1.1 = 3 ∧ o0.1 = 3 => hk1 q.1)]
        exact round_5_bad1 W0 Pr p L W hlen h o0 o1 ho1 ho0 hm0 hm1 (by rw [← Bool.not_eq_true, Pl.fits8 (Pl.mayO_kind hm1)]; exact hk1)
  · rw [if_neg (by decide), if_neg (by decide), if_neg (by decide), if_neg (by decide), if_neg (by decide), if_pos rfl]
    exact round_6 W0 Pr p L W h
  · rw [if_neg (by decide), if_neg (by decide), if_neg (by decide), if_neg (by decide), if_neg (by decide), if_neg (by decide), if_pos rfl]
    exact round_7 W0 Pr p L W hlen h
  · rw [if_neg (by decide), if_neg (by decide), if_neg (by decide), if_neg (by decide), if_neg (by decide), if_neg (by decide), if_neg (by decide), if_pos rfl]
    exact round_8 W0 Pr p L W hlen h
  · rw [if_neg (by decide), if_neg (by decide), if_neg (by decide), if_neg (by decide), if_neg (by decide), if_neg (by decide), if_neg (by decide), if_neg (by decide)]
    cases hq : L.reverse.findIdx? (fun q => q.1 == 6) with
    | none => exact round_9_none W0 Pr p L W hlen h hq
    | some i => exact round_9 W0 Pr p L W hlen h i hq
  · rw [if_neg (by decide), if_neg (by decide), if_neg (by decide), if_neg (by decide), if_neg (by decide), if_neg (by decide), if_neg (by decide), if_neg (by decide)]
    cases hq : L.reverse.findIdx? (fun q => q.1 == 6) with
    | none => exact round_10_none W0 Pr p L W hlen h hq
    | some i => exact round_10 W0 Pr p L W hlen h i hq
end
end Go.Proofs.YtfmmomdmemcbbaaGreat
