/- The reference's logic, operators of one number, moves and ma -/
import Derived.Test.YtfmmomdmemcbbaaGreatZc
import Derived.Test.YtfmmomdmemcbbaaGreatZ5
import Derived.Test.YtfmmomdmemcbbaaGreatZ5b
import Derived.Test.YtfmmomdmemcbbaaGreatZ7
import Derived.Test.YtfmmomdmemcbbaaGreatZ9b
import Derived.Test.YtfmmomdmemcbbaaGreatZa
namespace Go.Proofs.YtfmmomdmemcbbaaGreat
set_option linter.unusedVariables false
set_option linter.unusedSimpArgs false
open Go.RowKit
theorem RPost.to {base p : Nat} {W : World} {R R' : Int × List Pl.Ob} (h1 : R.1 = R'.1) (h2 : R.1 = 0 → R.2 = R'.2) {e : Ending} {w' : World} (h : RPost base p W R e w') : RPost base p W R' e w' :=
  ⟨h1 ▸ h.1, fun q => h2 (h1.trans q) ▸ h.2.1 (h1.trans q), h.2.2⟩
theorem give_back {L : List Pl.Ob} {J : Nat} {o : Pl.Ob} (hn : L.length = J + 1) (h0 : L[J + 0]? = some o) (hlen : L.length ≤ 200) : Pl.giveR L 1 [o] = (0, L) := by
  unfold Pl.giveR
  rw [if_pos (by simp; omega), show L.length - 1 = J by omega, ← last_one hn h0]
theorem small_form {o : Pl.Ob} (hm : Pl.mayO o) (hk : o.1 = 2 ∨ o.1 = 3) : ∃ x, o = (o.1, x, o.2.2.1, 0, 0, ⟨#[]⟩) := by
  rcases hk with hk | hk
  · obtain ⟨x, e⟩ := Pl.bool_form hm hk
    exact ⟨x, by rw [hk]; exact e⟩
  · obtain ⟨x, e, _⟩ := Pl.mayO_num hm (.inl hk)
    exact ⟨x, e⟩
section
variable (base p : Nat) (L : List Pl.Ob) (W : World) (hlen : L.length ≤ 200) (h : RS base p L W) (hb : base ≤ W.heap.size) (hall : ∀ o ∈ L, Pl.mayO o)
include hlen h hb hall
theorem rlogic_any (NM : ByteArray) (n : Int) (hN : (n = 27 ∧ NM = ⟨#[97, 110, 100]⟩) ∨ (n = 28 ∧ NM = ⟨#[111, 114]⟩) ∨ (n = 29 ∧ NM = ⟨#[120, 111, 114]⟩)) :
    Calls Tryz.prog 64 #[.pointer (some ⟨p, 0, none⟩), .string NM] W fun e w' => RPost base p W (Pl.twoR L n) e w' := by
  have h4 : n = 27 ∨ n = 28 ∨ n = 29 := by omega
  have hk2 : Pl.kinds2 n = 12 := by rcases h4 with rfl | rfl | rfl <;> rfl
  have hN9 : NM = ⟨#[97, 110, 100]⟩ ∨ NM = ⟨#[111, 114]⟩ ∨ NM = ⟨#[120, 111, 114]⟩ := hN.imp And.right (Or.imp And.right And.right)
  rcases Pl.twoR_cases L n with ⟨h0, hR⟩ | ⟨o0, o1, ho1, ho0, h2, hR⟩ <;> rw [hR] <;> clear hR
  · exact rlogic_under base p L W h NM hN9 h0
  rw [hk2]
  have hm0 := hall o0 (Pl.mem_rev ho0)
  have hm1 := hall o1 (Pl.mem_rev ho1)
  have kk0 := Pl.mayO_kind hm0
  have kk1 := Pl.mayO_kind hm1
  obtain ⟨J, hn, h0, h1⟩ := rev_two ho1 ho0
  by_cases hf1 : Pl.fits 12 o1.1 = true
  case neg =>
    rw [if_neg (fun q => hf1 q.1)]
    exact rlogic_bad base p L W hlen h NM hN9 o0 o1 J hn h0 h1 (by rw [(Pl.rfits_is kk1).2.1]; simpa using hf1)
  by_cases hf0 : Pl.fits 12 o0.1 = true
  case neg =>
    rw [if_neg (fun q => hf0 q.2)]
    exact rlogic_bad0 base p L W hlen h NM hN9 o0 o1 J hn h0 h1 (by rw [(Pl.rfits_is kk1).2.1]; exact hf1) (by rw [(Pl.rfits_is kk0).2.1]; simpa using hf0)
  rw [if_pos ⟨hf1, hf0⟩]
  have q0 := (Pl.fits12 kk0).1 hf0
  have q1 := (Pl.fits12 kk1).1 hf1
  obtain ⟨x, ex⟩ := small_form hm0 q0
  obtain ⟨y, ey⟩ := small_form hm1 q1
  generalize o0.1 = k0 at *
  generalize o0.2.2.1 = a at *
  generalize o1.1 = k1 at *
  generalize o1.2.2.1 = b at *
  subst ex
  subst ey
  unfold Pl.twoI
  rw [if_neg (by omega)]
  by_cases hk : k0 = k1
  case neg =>
    rw [if_pos hk]
    exact rlogic_differ base p L W hlen h NM hN9 k0 k1 q0 q1 hk a b x y J hn h0 h1
  subst hk
  rw [if_neg (by simp), if_neg (by omega), if_neg (by omega)]
  have hv : (NM = ⟨#[97, 110, 100]⟩ ∧ bits .and .i64 a b = Pl.vbits n a b) ∨ (NM = ⟨#[111, 114]⟩ ∧ bits .or .i64 a b = Pl.vbits n a b) ∨ (NM = ⟨#[120, 111, 114]⟩ ∧ bits .xor .i64 a b = Pl.vbits n a b) := by
    rcases hN with ⟨rfl, r⟩ | ⟨rfl, r⟩ | ⟨rfl, r⟩
    · exact .inl ⟨r, rfl⟩
    · exact .inr (.inl ⟨r, rfl⟩)
    · exact .inr (.inr ⟨r, rfl⟩)
  show Calls _ _ _ _ fun e w' => RPost base p W (if k0 = 2 then Pl.giveR L 2 [Pl.truth (Pl.vbits n a b == 1)] else Pl.wholeR L 2 (Pl.vbits n a b)) e w'
  generalize Pl.vbits n a b = v at hv ⊢
  rcases q0 with rfl | rfl
  · rw [if_pos rfl]
    cases ht : (v == 1) with
    | true => exact rlogic_bools_true base p L W hlen h hb NM a b x y J hn h0 h1 v hv ht
    | false => exact rlogic_bools_false base p L W hlen h hb NM a b x y J hn h0 h1 v hv ht
  · rw [if_neg (by decide)]
    exact rlogic_ints base p L W hlen h hb NM a b x y J hn h0 h1 v hv
theorem rnot_any :
    Calls Tryz.prog 64 #[.pointer (some ⟨p, 0, none⟩), .string ⟨#[110, 111, 116]⟩] W fun e w' => RPost base p W (Pl.oneR L 30) e w' := by
  unfold Pl.oneR
  cases hL : L.reverse with
  | nil =>
    have hl := congrArg List.length hL
    rw [List.length_reverse] at hl
    exact rnot_under base p L W h (by simp at hl; simp [hl])
  | cons o r =>
    have ho : L.reverse[0]? = some o := by rw [hL]; rfl
    have hm := hall o (Pl.mem_rev ho)
    have kk := Pl.mayO_kind hm
    obtain ⟨J, hn, h0⟩ := rev_one ho
    simp only
    rw [show Pl.kinds1 30 = 12 from rfl]
    by_cases hf : Pl.fits 12 o.1 = true
    case neg =>
      rw [if_neg hf]
      exact rnot_bad base p L W hlen h o J hn h0 (by rw [(Pl.rfits_is kk).2.1]; simpa using hf)
    rw [if_pos hf]
    unfold Pl.oneI
    rw [if_pos rfl]
    have q0 := (Pl.fits12 kk).1 hf
    obtain ⟨x, ex⟩ := small_form hm q0
    have ii : o.1 = 3 → Pl.inInt o.2.2.1 := fun q => (Pl.mayO_num hm (.inl q)).choose_spec.2.1 q
    generalize o.1 = k0 at *
    generalize o.2.2.1 = a at *
    subst ex
    show Calls _ _ _ _ fun e w' => RPost base p W (if k0 = 2 then Pl.giveR L 1 [Pl.truth (a == 0)] else Pl.wholeR L 1 (-a - 1)) e w'
    rcases q0 with rfl | rfl
    · rw [if_pos rfl]
      cases ht : (a == 0) with
      | true => exact rnot_bool_true base p L W hlen h hb a x J hn h0 ht
      | false => exact rnot_bool_false base p L W hlen h hb a x J hn h0 ht
    · rw [if_neg (by decide)]
      exact rnot_int base p L W hlen h hb a x J hn h0 (ii rfl)
theorem rone_any (NM : ByteArray) (n : Int) (hN : (n = 17 ∧ NM = ⟨#[110, 101, 103]⟩) ∨ (n = 18 ∧ NM = ⟨#[97, 98, 115]⟩) ∨ (n = 19 ∧ NM = ⟨#[99, 101, 105, 108, 105, 110, 103]⟩) ∨ (n = 20 ∧ NM = ⟨#[102, 108, 111, 111, 114]⟩) ∨ (n = 21 ∧ NM = ⟨#[114, 111, 117, 110, 100]⟩) ∨ (n = 22 ∧ NM = ⟨#[116, 114, 117, 110, 99, 97, 116, 101]⟩) ∨ (n = 23 ∧ NM = ⟨#[115, 113, 114, 116]⟩) ∨ (n = 24 ∧ NM = ⟨#[115, 105, 110]⟩) ∨ (n = 25 ∧ NM = ⟨#[99, 111, 115]⟩)) :
    Calls Tryz.prog 65 #[.pointer (some ⟨p, 0, none⟩), .string NM] W fun e w' => RPost base p W (Pl.oneR L n) e w' := by
  have h4 : 17 ≤ n ∧ n ≤ 25 := by omega
  unfold Pl.oneR
  cases hL : L.reverse with
  | nil =>
    have hl := congrArg List.length hL
    rw [List.length_reverse] at hl
    exact rone_under base p L W h NM (by simp at hl; simp [hl])
  | cons o r =>
    have ho : L.reverse[0]? = some o := by rw [hL]; rfl
    have hm := hall o (Pl.mem_rev ho)
    have kk := Pl.mayO_kind hm
    obtain ⟨J, hn, h0⟩ := rev_one ho
    simp only
    rw [show Pl.kinds1 n = 24 from by unfold Pl.kinds1; rw [if_neg (by omega)]]
    by_cases hf : Pl.fits 24 o.1 = true
    case neg =>
      rw [if_neg hf]
      exact rone_bad base p L W hlen h NM o J hn h0 (by rw [(Pl.rfits_is kk).1]; simpa using hf)
    rw [if_pos hf]
    unfold Pl.oneI
    rw [if_neg (by omega)]
    have q0 := (Pl.fits24 kk).1 hf
    have fu := Pl.numv_fix hm q0
    obtain ⟨x, ex, i0, j0⟩ := Pl.mayO_num hm q0
    have ia : -2147483647 ≤ o.2.2.1 ∧ o.2.2.1 ≤ 2147483647 := by
      rcases q0 with q | q
      · exact i0 q
      · have := j0 q
        unfold Pl.inFix at this
        omega
    generalize o.1 = k0 at *
    generalize o.2.2.1 = a at *
    subst ex
    have gb := give_back hn h0 hlen
    obtain ⟨u, ou, hA⟩ : ∃ u ou, Pl.numv (k0, x, a, 0, 0, ⟨#[]⟩) = (u, ou) := ⟨_, _, rfl⟩
    rw [hA] at fu
    try simp only
    rcases hN with ⟨rfl, rfl⟩ | ⟨rfl, rfl⟩ | ⟨rfl, hNM⟩ | ⟨rfl, hNM⟩ | ⟨rfl, hNM⟩ | ⟨rfl, hNM⟩ | ⟨rfl, rfl⟩ | ⟨rfl, rfl⟩ | ⟨rfl, rfl⟩
    · rw [if_pos (by decide), if_neg (by simp)]
      exact rone_neg base p L W hlen h hb k0 q0 a x J hn h0 ia
    · rw [if_pos (by decide)]
      by_cases hz : 0 ≤ a
      · rw [if_pos ⟨rfl, hz⟩, ← gb]
        exact rone_abs base p L W hlen h hb k0 q0 a x J hn h0 hz
      · rw [if_neg (fun q => hz q.2)]
        exact rone_abs_neg base p L W hlen h hb k0 q0 a x J hn h0 ia (by omega)
    · rw [if_neg (by decide), if_pos (by decide)]
      rcases q0 with rfl | rfl
      · rw [if_pos rfl, ← gb]
        exact rone_whole base p L W hlen h hb NM a x J hn h0 (.inl hNM)
      · rw [if_neg (by decide)]
        exact rone_fixes base p L W hlen h hb NM 19 a x J hn h0 (.inl ⟨rfl, hNM⟩)
    · rw [if_neg (by decide), if_pos (by decide)]
      rcases q0 with rfl | rfl
      · rw [if_pos rfl, ← gb]
        exact rone_whole base p L W hlen h hb NM a x J hn h0 (.inr (.inl hNM))
      · rw [if_neg (by decide)]
        exact rone_fixes base p L W hlen h hb NM 20 a x J hn h0 (.inr (.inl ⟨rfl, hNM⟩))
    · rw [if_neg (by decide), if_pos (by decide)]
      rcases q0 with rfl | rfl
      · rw [if_pos rfl, ← gb]
        exact rone_whole base p L W hlen h hb NM a x J hn h0 (.inr (.inr (.inl hNM)))
      · rw [if_neg (by decide)]
        exact rone_fixes base p L W hlen h hb NM 21 a x J hn h0 (.inr (.inr (.inl ⟨rfl, hNM⟩)))
    · rw [if_neg (by decide), if_pos (by decide)]
      rcases q0 with rfl | rfl
      · rw [if_pos rfl, ← gb]
        exact rone_whole base p L W hlen h hb NM a x J hn h0 (.inr (.inr (.inr (hNM))))
      · rw [if_neg (by decide)]
        exact rone_fixes base p L W hlen h hb NM 22 a x J hn h0 (.inr (.inr (.inr (⟨rfl, hNM⟩))))
    · rw [if_neg (by decide), if_neg (by decide), hA]
      cases ou with
      | false =>
        rw [if_pos rfl]
        exact rone_num base p L W hlen h hb _ k0 q0 a x J hn h0 hm (.inl rfl) u hA
      | true =>
        rw [if_neg (by simp)]
        show Calls _ _ _ _ fun e w' => RPost base p W (Pl.fixedR L 1 (Pl.f1b 23 u).1 (Pl.f1b 23 u).2) e w'
        unfold Pl.f1b
        rw [if_pos rfl]
        by_cases hz : 0 ≤ u
        · rw [if_pos hz]
          exact rone_sqrt base p L W hlen h hb k0 q0 a x J hn h0 hm u hA fu hz
        · rw [if_neg hz]
          exact rone_sqrt_no base p L W hlen h hb k0 q0 a x J hn h0 hm u hA fu (by omega)
    · rw [if_neg (by decide), if_neg (by decide), hA]
      cases ou with
      | false =>
        rw [if_pos rfl]
        exact rone_num base p L W hlen h hb _ k0 q0 a x J hn h0 hm (.inr (.inl rfl)) u hA
      | true =>
        rw [if_neg (by simp)]
        show Calls _ _ _ _ fun e w' => RPost base p W (Pl.fixedR L 1 (Pl.f1b 24 u).1 (Pl.f1b 24 u).2) e w'
        unfold Pl.f1b
        rw [if_neg (by decide), if_pos rfl]
        exact rone_sin base p L W hlen h hb k0 q0 a x J hn h0 hm u hA fu
    · rw [if_neg (by decide), if_neg (by decide), hA]
      cases ou with
      | false =>
        rw [if_pos rfl]
        exact rone_num base p L W hlen h hb _ k0 q0 a x J hn h0 hm (.inr (.inr (rfl))) u hA
      | true =>
        rw [if_neg (by simp)]
        show Calls _ _ _ _ fun e w' => RPost base p W (Pl.fixedR L 1 (Pl.f1b 25 u).1 (Pl.f1b 25 u).2) e w'
        unfold Pl.f1b
        rw [if_neg (by decide), if_neg (by decide)]
        exact rone_cos base p L W hlen h hb k0 q0 a x J hn h0 hm u hA fu
end
end Go.Proofs.YtfmmomdmemcbbaaGreat
