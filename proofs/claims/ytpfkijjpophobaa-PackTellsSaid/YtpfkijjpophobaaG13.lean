/- Words and bytes, there and back: of words and of rows; plain. -/
import Derived.Test.YtpfkijjpophobaaG12
namespace Go.Proofs.Ytpfkijjpophobaa
set_option linter.unusedVariables false
open Go.RowKit

theorem Pl.head_c (L : List UInt8) (a : Nat) (t : Pl.Tok) (hm : t.may = true) (B : List UInt8) (h : L.drop a = UInt8.ofNat t.k.toNat :: B) : (L[a]?.getD 0).toNat = t.k.toNat ∧ L.drop (a + 1) = B ∧ a < L.length := by
  obtain ⟨b0, b1, _⟩ := Pl.may_bd t hm
  obtain ⟨q1, q2, q3⟩ := drop_step h
  exact ⟨by rw [q1, Option.getD_some, ofNat_toNat _ (by omega)], q2, q3⟩
theorem Pl.fold_bd (n : Int) (h0 : -2147483647 ≤ n) (h1 : n ≤ 2147483647) : Pl.fold n < 34359738368 := by
  unfold Pl.fold
  split <;> omega
/-- a word's bytes read as it -/
theorem Pl.word7_put (L : List UInt8) (a : Nat) (t : Pl.Tok) (hm : t.may = true) (B : List UInt8) (h : L.drop a = t.bytes ++ B) : Pl.word7 L a = (0, (t.k, t.n, t.s), a + t.bytes.length) := by
  obtain ⟨b0, b1, b2, b3, b4, b5, b6⟩ := Pl.may_bd t hm
  have hkn : ((t.k.toNat : Nat) : Int) = t.k := by omega
  unfold Pl.Tok.bytes at h ⊢
  rw [List.cons_append] at h
  obtain ⟨q1, q2, q3⟩ := Pl.head_c L a t hm _ h
  unfold Pl.word7 Pl.wordB
  rw [q1, if_neg (by omega)]
  by_cases h1 : t.k = 1 ∨ t.k = 2
  · rw [if_pos h1] at q2 ⊢
    have hs : t.s = [] := b6.resolve_left (by omega)
    rw [Pl.take7_num L (a + 1) (Pl.fold t.n) B (Pl.fold_bd _ b2 b3) q2, if_pos (by omega)]
    simp only [Pl.unf_fold, hkn]
    rw [if_neg (by omega), if_neg (by have := hm; unfold Pl.Tok.may at this; rw [hs] at this; rw [this]; decide), hs, Int.toNat_natCast, List.length_cons]
    congr 2
    omega
  · rw [if_neg h1] at q2 ⊢
    rw [if_neg (by omega)]
    have hn : t.n = 0 := by omega
    by_cases h2 : 3 ≤ t.k ∧ t.k ≤ 6
    · rw [if_pos h2] at q2 ⊢
      rw [List.append_assoc] at q2
      have q4 := drop_app q2
      rw [Pl.take7_num L (a + 1) t.s.length _ (by omega) q2, if_pos (by omega)]
      simp only [Int.toNat_natCast, hkn]
      have hd : (L.drop (a + 1 + (Pl.num7 t.s.length).length)).take t.s.length = t.s := by rw [q4, List.take_left]
      have hl : a + 1 + (Pl.num7 t.s.length).length + t.s.length ≤ L.length := by
        have := congrArg List.length q4
        rw [List.length_drop, List.length_append] at this
        rcases Nat.eq_zero_or_pos t.s.length with h0 | h0
        · have h8 := congrArg List.length q2
          rw [List.length_drop, List.length_append, List.length_append] at h8
          omega
        · omega
      rw [hd, if_neg (by omega), if_neg (by omega), if_neg (by omega), if_neg (by have := hm; unfold Pl.Tok.may at this; rw [hn] at this; rw [this]; decide), hn, List.length_cons, List.length_append]
      congr 2
      omega
    · rw [if_neg h2] at q2 ⊢
      have hs : t.s = [] := b6.resolve_left h2
      rw [if_neg (by omega), hkn, hn, hs]
      rfl
/-- cut off within a word -/
theorem Pl.word7_cut (L : List UInt8) (a : Nat) (t : Pl.Tok) (hm : t.may = true) (P X : List UInt8) (hP : P ≠ []) (hX : X ≠ []) (hPX : t.bytes = P ++ X) (h : L.drop a = P) : (Pl.word7 L a).1 = 4 := by
  obtain ⟨b0, b1, b2, b3, b4, b5, b6⟩ := Pl.may_bd t hm
  rcases P with _ | ⟨b, P⟩
  · exact absurd rfl hP
  unfold Pl.Tok.bytes at hPX
  rw [List.cons_append] at hPX
  injection hPX with hb hPX
  rw [← hb] at h
  obtain ⟨q1, q2, q3⟩ := Pl.head_c L a t hm _ h
  unfold Pl.word7 Pl.wordB
  rw [q1, if_neg (by omega)]
  by_cases h1 : t.k = 1 ∨ t.k = 2
  · rw [if_pos h1] at hPX
    rw [Pl.take7_cut L (a + 1) (Pl.fold t.n) P X (Pl.fold_bd _ b2 b3) hX hPX q2, if_pos (by omega), if_pos (by decide)]
  · rw [if_neg h1] at hPX
    rw [if_neg (by omega)]
    by_cases h2 : 3 ≤ t.k ∧ t.k ≤ 6
    · rw [if_pos h2] at hPX
      rw [if_pos (by omega)]
      rcases List.append_eq_append_iff.1 hPX with ⟨Y, e1, e2⟩ | ⟨Y, e1, e2⟩
      · -- the number is whole
        rw [e1] at q2
        rw [Pl.take7_num L (a + 1) t.s.length Y (by omega) q2, if_neg (fun q => q rfl), if_neg (by show ¬ 4000 < (t.s.length : Int); omega), if_pos]
        have q4 := drop_app q2
        have h8 := congrArg List.length q4
        rw [List.length_drop] at h8
        have h9 := congrArg List.length q2
        rw [List.length_drop, List.length_append] at h9
        have hXl : 0 < X.length := List.length_pos_iff.2 hX
        have h7 := congrArg List.length e2
        rw [List.length_append] at h7
        show (L.length : Int) - ((a + 1 + (Pl.num7 t.s.length).length : Nat) : Int) < (t.s.length : Int)
        have hnl : 0 < (Pl.num7 t.s.length).length := by
          rw [Pl.num7_eq]
          split <;> simp
        omega
      · by_cases hY : Y = []
        · subst hY
          rw [List.append_nil] at e1
          rw [← e1] at q2
          rw [Pl.take7_num L (a + 1) t.s.length [] (by omega) (by rw [List.append_nil]; exact q2), if_neg (fun q => q rfl), if_neg (by show ¬ 4000 < (t.s.length : Int); omega), if_pos]
          rw [List.nil_append] at e2
          have hXl : 0 < t.s.length := by rw [← e2]; exact List.length_pos_iff.2 hX
          have h9 := congrArg List.length q2
          rw [List.length_drop] at h9
          show (L.length : Int) - ((a + 1 + (Pl.num7 t.s.length).length : Nat) : Int) < (t.s.length : Int)
          omega
        · rw [Pl.take7_cut L (a + 1) t.s.length P Y (by omega) hY e1 q2, if_pos (by decide)]
    · rw [if_neg h2] at hPX
      exact absurd (List.append_eq_nil_iff.1 hPX.symm).2 hX
/-- a word read has those bytes -/
theorem Pl.word7_back (L : List UInt8) (a : Nat) (ha : a < L.length) (h : (Pl.word7 L a).1 = 0) (at' : Int) :
    Pl.Tok.may ⟨(Pl.word7 L a).2.1.1, (Pl.word7 L a).2.1.2.1, (Pl.word7 L a).2.1.2.2, at'⟩ = true ∧
    L.drop a = Pl.Tok.bytes ⟨(Pl.word7 L a).2.1.1, (Pl.word7 L a).2.1.2.1, (Pl.word7 L a).2.1.2.2, at'⟩ ++ L.drop (Pl.word7 L a).2.2 := by
  have hc : L.drop a = L[a] :: L.drop (a + 1) := List.drop_eq_getElem_cons ha
  have hg : L[a]? = some L[a] := List.getElem?_eq_getElem ha
  have hbl := L[a].toNat_lt
  have hT := Pl.take7_back L (a + 1)
  have hbd := Pl.take7_bd L (a + 1) (by omega)
  unfold Pl.word7 at h ⊢
  rw [hg, Option.getD_some] at h ⊢
  generalize Pl.take7 L (a + 1) = T at *
  obtain ⟨b, hb⟩ : ∃ b, b = L[a] := ⟨_, rfl⟩
  rw [← hb] at h hc hbl ⊢
  have hbe : UInt8.ofNat ((b.toNat : Int)).toNat = b := by rw [Int.toNat_natCast, UInt8.ofNat_toNat]
  unfold Pl.wordB at h ⊢
  by_cases h1 : b.toNat < 1 ∨ 12 < b.toNat
  · rw [if_pos h1] at h; simp at h
  rw [if_neg h1] at h ⊢
  by_cases h2 : b.toNat ≤ 2
  · rw [if_pos h2] at h ⊢
    by_cases h3 : T.2.2 ≠ 0
    · rw [if_pos h3] at h; exact absurd h h3
    rw [if_neg h3] at h ⊢
    by_cases h4 : Pl.tokMay (b.toNat : Int) (Pl.unf T.1) [] = false
    · rw [if_pos h4] at h; simp at h
    rw [if_neg h4] at h ⊢
    obtain ⟨m, e1, e2, e3⟩ := hT (by omega)
    refine ⟨by simpa [Pl.Tok.may] using h4, ?_⟩
    show L.drop a = (UInt8.ofNat ((b.toNat : Int)).toNat :: (if (b.toNat : Int) = 1 ∨ (b.toNat : Int) = 2 then Pl.num7 (Pl.fold (Pl.unf T.1)) else _)) ++ L.drop T.2.1.toNat
    rw [hbe, if_pos (by omega), e1, Pl.fold_unf, e2, Int.toNat_natCast, List.cons_append, ← e3]
    exact hc
  rw [if_neg h2] at h ⊢
  by_cases h3 : b.toNat ≤ 6
  · rw [if_pos h3] at h ⊢
    by_cases h4 : T.2.2 ≠ 0
    · rw [if_pos h4] at h; exact absurd h h4
    rw [if_neg h4] at h ⊢
    by_cases h5 : 4000 < T.1
    · rw [if_pos h5] at h; simp at h
    rw [if_neg h5] at h ⊢
    by_cases h6 : (L.length : Int) - T.2.1 < T.1
    · rw [if_pos h6] at h; simp at h
    rw [if_neg h6] at h ⊢
    by_cases h7 : Pl.tokMay (b.toNat : Int) 0 ((L.drop T.2.1.toNat).take T.1.toNat) = false
    · rw [if_pos h7] at h; simp at h
    rw [if_neg h7] at h ⊢
    obtain ⟨m, e1, e2, e3⟩ := hT (by omega)
    refine ⟨by simpa [Pl.Tok.may] using h7, ?_⟩
    show L.drop a = (UInt8.ofNat ((b.toNat : Int)).toNat :: (if (b.toNat : Int) = 1 ∨ (b.toNat : Int) = 2 then _ else if 3 ≤ (b.toNat : Int) ∧ (b.toNat : Int) ≤ 6 then Pl.num7 ((L.drop T.2.1.toNat).take T.1.toNat).length ++ (L.drop T.2.1.toNat).take T.1.toNat else [])) ++ L.drop (T.2.1.toNat + T.1.toNat)
    have hlen : ((L.drop T.2.1.toNat).take T.1.toNat).length = m := by
      rw [List.length_take, List.length_drop]
      omega
    rw [hbe, if_neg (by omega), if_pos (by omega), hlen, List.cons_append, List.append_assoc, ← List.drop_drop, List.take_append_drop, e2, Int.toNat_natCast, ← e3]
    exact hc
  · rw [if_neg h3] at h ⊢
    refine ⟨?_, ?_⟩
    · show Pl.tokMay (b.toNat : Int) 0 [] = true
      unfold Pl.tokMay
      rw [if_neg (by omega), if_neg (by omega), if_neg (by omega), if_neg (by omega), if_neg (by omega), if_neg (by omega)]
      exact decide_eq_true ⟨by omega, by omega, rfl⟩
    · show L.drop a = (UInt8.ofNat ((b.toNat : Int)).toNat :: (if (b.toNat : Int) = 1 ∨ (b.toNat : Int) = 2 then _ else if 3 ≤ (b.toNat : Int) ∧ (b.toNat : Int) ≤ 6 then _ else [])) ++ L.drop (a + 1)
      rw [hbe, if_neg (by omega), if_neg (by omega)]
      exact hc
/-- the words as they are read: with their places -/
def Pl.lab : Nat → List Pl.Tok → List Pl.Tok
  | _, [] => []
  | a, t :: T => ⟨t.k, t.n, t.s, a⟩ :: Pl.lab (a + t.bytes.length) T
theorem Pl.bytes_pos (t : Pl.Tok) : 0 < t.bytes.length := by unfold Pl.Tok.bytes; simp
theorem Pl.toks_put (L : List UInt8) : ∀ (T : List Pl.Tok) (k a : Nat), (∀ t ∈ T, t.may = true) → T.length ≤ k → L.drop a = T.flatMap Pl.Tok.bytes → Pl.toks L k a = (Pl.lab a T, 0, 0)
  | [], k, a, _, _, h => by
    rw [Pl.toks_end L k a (List.drop_eq_nil_iff.1 h)]
    rfl
  | t :: T, 0, a, _, hk, _ => by simp at hk
  | t :: T, k + 1, a, hm, hk, h => by
    rw [List.flatMap_cons] at h
    have hw := Pl.word7_put L a t (hm t (by simp)) _ h
    have hlt : a < L.length := by
      have := congrArg List.length h
      rw [List.length_drop, List.length_append] at this
      have := Pl.bytes_pos t
      omega
    rw [Pl.toks_ok L k a hlt (by rw [hw]), hw]
    show (_ :: (Pl.toks L k (a + t.bytes.length)).1, (Pl.toks L k (a + t.bytes.length)).2) = _
    rw [Pl.toks_put L T k (a + t.bytes.length) (fun u hu => hm u (by simp [hu])) (by simpa using hk) (drop_app h)]
    rfl
theorem Pl.toks_cut (L : List UInt8) (t : Pl.Tok) (ht : t.may = true) (P X : List UInt8) (hP : P ≠ []) (hX : X ≠ []) (hPX : t.bytes = P ++ X) : ∀ (T : List Pl.Tok) (k a : Nat), (∀ u ∈ T, u.may = true) → T.length < k → L.drop a = T.flatMap Pl.Tok.bytes ++ P →
    (Pl.toks L k a).2 = (a + (T.flatMap Pl.Tok.bytes).length, 4)
  | _, 0, _, _, h, _ => by omega
  | [], k + 1, a, _, _, h => by
    have h' : L.drop a = P := h
    have hw := Pl.word7_cut L a t ht P X hP hX hPX h'
    have hlt : a < L.length := by
      have := congrArg List.length h'
      rw [List.length_drop] at this
      have := List.length_pos_iff.2 hP
      omega
    rw [Pl.toks_bad L k a hlt (by rw [hw]; decide), hw]
    simp
  | u :: T, k + 1, a, hm, hk, h => by
    rw [List.flatMap_cons, List.append_assoc] at h
    have hw := Pl.word7_put L a u (hm u (by simp)) _ h
    have hlt : a < L.length := by
      have := congrArg List.length h
      rw [List.length_drop, List.length_append] at this
      have := Pl.bytes_pos u
      omega
    rw [Pl.toks_ok L k a hlt (by rw [hw]), hw]
    show (Pl.toks L k (a + u.bytes.length)).2 = _
    rw [Pl.toks_cut L t ht P X hP hX hPX T k (a + u.bytes.length) (fun v hv => hm v (by simp [hv])) (by simpa using hk) (drop_app h), List.flatMap_cons, List.length_append, Nat.add_assoc]
theorem Pl.toks_back (L : List UInt8) : ∀ (k a : Nat), (Pl.toks L k a).2.2 = 0 → (∀ t ∈ (Pl.toks L k a).1, t.may = true) ∧ L.drop a = (Pl.toks L k a).1.flatMap Pl.Tok.bytes := fun k => by
  induction k with
  | zero =>
    intro a h
    by_cases hl : L.length ≤ a
    · rw [Pl.toks_end L 0 a hl]
      exact ⟨fun t ht => by simp at ht, List.drop_eq_nil_iff.2 hl⟩
    · rw [Pl.toks_room L a (by omega)] at h
      simp at h
  | succ k ih =>
    intro a h
    by_cases hl : L.length ≤ a
    · rw [Pl.toks_end L (k + 1) a hl]
      exact ⟨fun t ht => by simp at ht, List.drop_eq_nil_iff.2 hl⟩
    · by_cases he : (Pl.word7 L a).1 = 0
      · rw [Pl.toks_ok L k a (by omega) he] at h ⊢
        obtain ⟨h1, h2⟩ := ih _ h
        obtain ⟨w1, w2⟩ := Pl.word7_back L a (by omega) he (a : Int)
        refine ⟨fun t ht => ?_, ?_⟩
        · rcases List.mem_cons.1 ht with rfl | ht
          · exact w1
          · exact h1 t ht
        · rw [List.flatMap_cons, ← h2]
          exact w2
      · rw [Pl.toks_bad L k a (by omega) he] at h
        exact absurd h he
theorem Pl.lab_len : ∀ (T : List Pl.Tok) (a : Nat), (Pl.lab a T).length = T.length
  | [], _ => rfl
  | t :: T, a => by simp [Pl.lab, Pl.lab_len T]
theorem Pl.isHd_enc (B : List UInt8) : Pl.isHd (Pl.hd ++ B) = true := decide_eq_true (by show (Pl.hd ++ B).take Pl.hd.length = Pl.hd; rw [List.take_left])
theorem Pl.takeAll_enc (T : List Pl.Tok) (hm : ∀ t ∈ T, t.may = true) (hT : T.length ≤ 4000) (hL : (Pl.enc T).length ≤ 20000) : Pl.takeAll (Pl.enc T) = (Pl.lab 4 T, 0, 0) := by
  unfold Pl.takeAll
  rw [if_neg (by unfold Pl.enc; rw [Pl.isHd_enc]; decide), if_neg (by omega), Pl.toks_put (Pl.enc T) T 4000 4 hm hT (by unfold Pl.enc; exact drop_app (a := 0) (X := Pl.hd) rfl), if_pos rfl]
theorem Pl.takeAll_back (B : List UInt8) (h : (Pl.takeAll (Pl.hd ++ B)).2.2 = 0) : (∀ t ∈ (Pl.takeAll (Pl.hd ++ B)).1, t.may = true) ∧ Pl.enc (Pl.takeAll (Pl.hd ++ B)).1 = Pl.hd ++ B := by
  unfold Pl.takeAll at h ⊢
  rw [if_neg (by rw [Pl.isHd_enc]; decide)] at h ⊢
  by_cases hl : 20000 < (Pl.hd ++ B).length
  · rw [if_pos hl] at h; simp at h
  rw [if_neg hl] at h ⊢
  by_cases he : (Pl.toks (Pl.hd ++ B) 4000 4).2.2 = 0
  · rw [if_pos he] at h ⊢
    obtain ⟨h1, h2⟩ := Pl.toks_back _ 4000 4 he
    refine ⟨h1, ?_⟩
    unfold Pl.enc
    show Pl.hd ++ (Pl.toks (Pl.hd ++ B) 4000 4).1.flatMap Pl.Tok.bytes = _
    rw [← h2]
    rfl
  · rw [if_neg he] at h
    exact absurd h he
end Go.Proofs.Ytpfkijjpophobaa
