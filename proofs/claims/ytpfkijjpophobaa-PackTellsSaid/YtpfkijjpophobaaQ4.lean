/- Plain facts: what numtext.Read says of any text, by the text's parts. -/
import Derived.Test.YtpfkijjpophobaaQ3a
namespace Go.Proofs.Ytpfkijjpophobaa
set_option linter.unusedVariables false
open Go.RowKit

theorem Pl.dig_nil : Pl.dig [] := fun b h => by cases h
theorem Pl.dig_split (T : List UInt8) : ∃ D R, T = D ++ R ∧ Pl.dig D ∧ Pl.noD R := by
  induction T with
  | nil => exact ⟨[], [], rfl, Pl.dig_nil, Pl.noD_nil⟩
  | cons t r ih =>
    by_cases h : 48 ≤ t.toNat ∧ t.toNat ≤ 57
    · obtain ⟨D, R, rfl, hD, hR⟩ := ih
      refine ⟨t :: D, R, rfl, ?_, hR⟩
      intro b hb
      rcases List.mem_cons.1 hb with rfl | hb
      · exact h
      · exact hD b hb
    · exact ⟨[], t :: r, rfl, Pl.dig_nil, fun b r' e => by injection e with e1 e2; rw [← e1]; exact h⟩
theorem Pl.dig_append (A B : List UInt8) : Pl.dig (A ++ B) ↔ Pl.dig A ∧ Pl.dig B := by
  constructor
  · intro h
    exact ⟨fun b hb => h b (by simp [hb]), fun b hb => h b (by simp [hb])⟩
  · rintro ⟨h1, h2⟩ b hb
    rcases List.mem_append.1 hb with h | h
    · exact h1 b h
    · exact h2 b h
theorem Pl.dig_cons (b : UInt8) (R : List UInt8) (h : Pl.dig (b :: R)) : 48 ≤ b.toNat ∧ b.toNat ≤ 57 := h b (by simp)
theorem Pl.dig_not (c : UInt8) (hc : ¬ (48 ≤ c.toNat ∧ c.toNat ≤ 57)) (D : List UInt8) (h : Pl.dig D) : c ∉ D := fun hm => hc (h c hm)
/-- the sign ahead -/
def Pl.isS (S : List UInt8) : Prop := S = [] ∨ S = [43] ∨ S = [45]
theorem Pl.sign_split (l : List UInt8) : ∃ S T, l = S ++ T ∧ Pl.isS S ∧ (S = [] → ∀ b r, T = b :: r → b.toNat ≠ 43 ∧ b.toNat ≠ 45) := by
  cases l with
  | nil => exact ⟨[], [], rfl, .inl rfl, fun _ b r h => by cases h⟩
  | cons b r =>
    by_cases h3 : b = 43
    · exact ⟨[43], r, by rw [h3]; rfl, .inr (.inl rfl), fun h => by cases h⟩
    by_cases h5 : b = 45
    · exact ⟨[45], r, by rw [h5]; rfl, .inr (.inr rfl), fun h => by cases h⟩
    refine ⟨[], b :: r, rfl, .inl rfl, fun _ c r' e => ?_⟩
    injection e with e1 e2
    rw [← e1]
    exact ⟨fun q => h3 (UInt8.toNat_inj.1 q), fun q => h5 (UInt8.toNat_inj.1 q)⟩
theorem Pl.sign_of (S T : List UInt8) (hS : Pl.isS S) (h0 : S = [] → ∀ b r, T = b :: r → b.toNat ≠ 43 ∧ b.toNat ≠ 45) :
    Pl.sg (Pl.tx (S ++ T)) = S.length ∧ Pl.blw (Pl.tx (S ++ T)) = decide (S = [45]) := by
  unfold Pl.sg Pl.blw
  rcases hS with rfl | rfl | rfl
  · have h0 : Pl.bt (Pl.tx ([] ++ T)) 0 ≠ 43 ∧ Pl.bt (Pl.tx ([] ++ T)) 0 ≠ 45 := by
      rw [List.nil_append]
      cases T with
      | nil => decide
      | cons b r =>
        have := Pl.bt_at [] r b 0 rfl
        rw [List.nil_append] at this
        rw [this]
        exact h0 rfl b r rfl
    rw [if_neg (by omega)]
    exact ⟨rfl, decide_eq_false h0.2⟩
  · have := Pl.bt_at [] T 43 0 rfl
    rw [List.nil_append] at this
    rw [show [43] ++ T = 43 :: T from rfl, this]
    exact ⟨rfl, rfl⟩
  · have := Pl.bt_at [] T 45 0 rfl
    rw [List.nil_append] at this
    rw [show [45] ++ T = 45 :: T from rfl, this]
    exact ⟨rfl, rfl⟩
theorem Pl.read_parts (S D R : List UInt8) (hS : Pl.isS S) (h0 : S = [] → ∀ b r, D ++ R = b :: r → b.toNat ≠ 43 ∧ b.toNat ≠ 45) (hD : Pl.dig D) (hR : Pl.noD R) (hb : Pl.basedV (Pl.tx (S ++ (D ++ R))) = none) :
    Pl.read (Pl.tx (S ++ (D ++ R))) = Pl.readOf (Pl.tx (S ++ (D ++ R))) (decide (S = [45])) (S.length + D.length) D.length (min (Pl.nm D : Int) 2147483648) := by
  have hs := Pl.sign_of S (D ++ R) hS h0
  have hd := Pl.dgs_at S D R S.length rfl hD hR
  rw [List.append_assoc] at hd
  unfold Pl.read
  rw [hb]
  show Pl.readOf _ (Pl.blw _) _ _ _ = _
  rw [hs.1, hs.2, hd, List.length_map, Pl.dvl_nm _ (by omega) D hD]
/-- digits alone behind the sign -/
theorem Pl.readOf_end (S D : List UInt8) (b : Bool) (v : Int) : Pl.readOf (Pl.tx (S ++ (D ++ []))) b (S.length + D.length) D.length v = if D = [] then (0, 0, 3) else if 2147483647 < v then (0, 0, 2) else (1, Pl.sgd b v, 0) := by
  unfold Pl.readOf
  have e : S.length + D.length = (Pl.tx (S ++ (D ++ []))).size := by rw [Pl.tx_size]; simp
  by_cases h : D = []
  · rw [if_pos h, if_neg (by rw [h]; simp), if_pos (.inl e)]
  · rw [if_neg h, if_pos ⟨e, List.length_pos_iff.2 h⟩]
theorem Pl.readOf_other (S D R : List UInt8) (c : UInt8) (hc : c.toNat ≠ 46) (b : Bool) (v : Int) : Pl.readOf (Pl.tx (S ++ (D ++ c :: R))) b (S.length + D.length) D.length v = (0, 0, 3) := by
  unfold Pl.readOf
  have e2 := Pl.bt_at (S ++ D) R c (S.length + D.length) (by simp)
  rw [List.append_assoc] at e2
  rw [if_neg (by rw [Pl.tx_size]; simp), if_pos (.inr (by rw [e2]; exact hc))]
theorem Pl.readOf_point (S D E R : List UInt8) (hE : Pl.dig E) (hR : Pl.noD R) (b : Bool) (v : Int) : Pl.readOf (Pl.tx (S ++ (D ++ 46 :: (E ++ R)))) b (S.length + D.length) D.length v = Pl.readPart b D.length v (E.map UInt8.toNat) (decide (R = [])) := by
  unfold Pl.readOf
  have e2 := Pl.bt_at (S ++ D) (E ++ R) 46 (S.length + D.length) (by simp)
  rw [List.append_assoc] at e2
  have e3 := Pl.dgs_at (S ++ D ++ [46]) E R (S.length + D.length + 1) (by simp; omega) hE hR
  rw [show S ++ D ++ [46] ++ E ++ R = S ++ (D ++ 46 :: (E ++ R)) by simp] at e3
  rw [if_neg (by rw [Pl.tx_size]; simp), if_neg (by rw [e2, Pl.tx_size]; simp), e3]
  congr 1
  rw [Pl.tx_size]
  cases R with
  | nil => simp; omega
  | cons c r => simp; omega
theorem Pl.readPart_no (b : Bool) (n : Nat) (v : Int) (E : List Nat) : Pl.readPart b n v E false = (0, 0, 3) := by
  unfold Pl.readPart
  rw [if_pos (.inl rfl)]
/-- what is neither of the forms is none -/
theorem Pl.read_none (S T : List UInt8) (hS : Pl.isS S) (h0 : S = [] → ∀ b r, T = b :: r → b.toNat ≠ 43 ∧ b.toNat ≠ 45) (hb : Pl.basedV (Pl.tx (S ++ T)) = none)
    (h1 : T = [] ∨ ¬ Pl.dig T) (h2 : ∀ A B, T = A ++ 46 :: B → ¬ (Pl.dig A ∧ Pl.dig B)) : Pl.read (Pl.tx (S ++ T)) = (0, 0, 3) := by
  obtain ⟨D, R, rfl, hD, hR⟩ := Pl.dig_split T
  rw [Pl.read_parts S D R hS h0 hD hR hb]
  cases R with
  | nil =>
    rw [Pl.readOf_end]
    rw [List.append_nil] at h1
    rcases h1 with h | h
    · rw [if_pos h]
    · exact absurd hD h
  | cons c r =>
    by_cases hc : c.toNat = 46
    · obtain ⟨E, R', rfl, hE, hR'⟩ := Pl.dig_split r
      have hc' : c = 46 := UInt8.toNat_inj.1 hc
      subst hc'
      rw [Pl.readOf_point S D E R' hE hR']
      cases R' with
      | nil => exact absurd ⟨hD, by simpa using hE⟩ (h2 D (E ++ []) rfl)
      | cons x y => exact Pl.readPart_no _ _ _ _
    · exact Pl.readOf_other S D r c hc _ _
/-- where a '#' stands, and no base is told -/
theorem Pl.read_hash2 (l : List UInt8) (h : (35 : UInt8) ∈ l) (hb : Pl.basedV (Pl.tx l) = none) : Pl.read (Pl.tx l) = (0, 0, 3) := by
  obtain ⟨S, T, rfl, hS, h0⟩ := Pl.sign_split l
  have hT : (35 : UInt8) ∈ T := by
    rcases List.mem_append.1 h with h | h
    · rcases hS with rfl | rfl | rfl
      · cases h
      · simp at h
      · simp at h
    · exact h
  refine Pl.read_none S T hS h0 hb (.inr (fun q => Pl.dig_not 35 (by decide) T q hT)) ?_
  rintro A B rfl ⟨hA, hB⟩
  rcases List.mem_append.1 hT with h | h
  · exact Pl.dig_not 35 (by decide) A hA h
  · rcases List.mem_cons.1 h with h | h
    · cases h
    · exact Pl.dig_not 35 (by decide) B hB h
theorem Pl.based_no35 (l : List UInt8) (h : (35 : UInt8) ∉ l) : Pl.basedV (Pl.tx l) = none := by
  refine Pl.basedV_none _ ?_
  obtain ⟨D, R, rfl, hD, hR⟩ := Pl.dig_split l
  refine Pl.based_not D R hD hR (fun b r e q => h ?_)
  have : b = 35 := UInt8.toNat_inj.1 q
  rw [e, this]
  simp
theorem Pl.bvl_none (base : Int) (l : List UInt8) : ∀ v, (∃ b ∈ l, Pl.badL base b) → Pl.bvl base v (l.map UInt8.toNat) = none := by
  induction l with
  | nil => rintro v ⟨b, hb, _⟩; cases hb
  | cons x r ih =>
    rintro v ⟨b, hb, q⟩
    rw [List.map_cons]
    unfold Pl.bvl
    by_cases hx : Pl.badL base x
    · rw [if_pos (show Pl.cv ((x.toNat : Nat) : Int) < 0 ∨ base ≤ Pl.cv ((x.toNat : Nat) : Int) from hx)]
    · have hx' : ¬ (Pl.cv ((x.toNat : Nat) : Int) < 0 ∨ base ≤ Pl.cv ((x.toNat : Nat) : Int)) := hx
      rw [if_neg hx']
      rcases List.mem_cons.1 hb with rfl | hb
      · exact absurd q hx
      · exact ih _ ⟨b, hb, q⟩
theorem Pl.bvl_some (base : Int) (hB : 2 ≤ base ∧ base ≤ 36) (l : List UInt8) : ∀ v, 0 ≤ v → (¬ ∃ b ∈ l, Pl.badL base b) → Pl.bvl base (min v 2147483648) (l.map UInt8.toNat) = some (min (Pl.rav base v l) 2147483648) := by
  induction l with
  | nil => intro v _ _; rfl
  | cons x r ih =>
    intro v h0 hn
    have hx : ¬ Pl.badL base x := fun q => hn ⟨x, by simp, q⟩
    have hx' : ¬ (Pl.cv ((x.toNat : Nat) : Int) < 0 ∨ base ≤ Pl.cv ((x.toNat : Nat) : Int)) := hx
    rw [List.map_cons, Pl.rav_cons]
    unfold Pl.bvl
    rw [if_neg hx', ← ih _ (by have : 0 ≤ v * base := Int.mul_nonneg h0 (by omega); omega) (fun ⟨b, hb, q⟩ => hn ⟨b, by simp [hb], q⟩)]
    congr 1
    obtain ⟨d, hd⟩ : ∃ d, d = Pl.cv (x.toNat : Int) := ⟨_, rfl⟩
    rw [← hd] at hx' ⊢
    have m0 : 0 ≤ v * base := Int.mul_nonneg h0 (by omega)
    by_cases hv : v ≤ 2147483648
    · rw [Int.min_eq_left hv]
      omega
    · rw [show min v 2147483648 = 2147483648 by omega]
      have : 2147483648 * base ≤ v * base := Int.mul_le_mul_of_nonneg_right (by omega) (by omega)
      omega
/-- a text with a '#' -/
theorem Pl.read_based (A B : List UInt8) (hA : (35 : UInt8) ∉ A) : Pl.read (Pl.tx (A ++ 35 :: B)) = Pl.rbased A B := by
  have hmem : (35 : UInt8) ∈ A ++ 35 :: B := by simp
  unfold Pl.rbased
  by_cases hg : 1 ≤ A.length ∧ A.length ≤ 2 ∧ Pl.allD A = true ∧ (A[0]?.getD 0).toNat ≠ 48 ∧ B ≠ []
  · rw [if_neg (fun q => q hg)]
    obtain ⟨g1, g2, g3, g4, g5⟩ := hg
    have hD := (Pl.allD_iff A).1 g3
    have e := Pl.dgs_at [] A (35 :: B) 0 rfl hD (fun b r e => by injection e with e1 e2; rw [← e1]; decide)
    rw [List.nil_append] at e
    have hlt := Pl.nm_lt A hD
    have hlt2 : Pl.nm A < 100 := Nat.lt_of_lt_of_le hlt (Nat.pow_le_pow_right (n := 10) (by omega) g2)
    have hv : Pl.dvl 1000 0 (Pl.dgs (Pl.tx (A ++ 35 :: B)) 0) = (Pl.nm A : Int) := by rw [e, Pl.dvl_nm _ (by omega) A hD]; omega
    have hb0 : Pl.bt (Pl.tx (A ++ 35 :: B)) 0 ≠ 48 := by
      rw [Pl.bt_tx, List.getElem?_append_left (by omega)]
      exact g4
    by_cases hb : (Pl.nm A : Int) < 2 ∨ 36 < (Pl.nm A : Int)
    · rw [if_pos hb]
      refine Pl.read_hash2 _ hmem (Pl.basedV_none _ ?_)
      rintro ⟨b1, b2, b3, b4, b5, _⟩
      rw [hv] at b4 b5
      omega
    · rw [if_neg hb]
      have hif : Pl.basedIf (Pl.tx (A ++ 35 :: B)) := by
        refine ⟨?_, ?_, hb0, ?_, ?_, ?_, ?_⟩
        · rw [e, List.length_map]; exact g1
        · rw [e, List.length_map]; exact g2
        · rw [hv]; omega
        · rw [hv]; omega
        · rw [e, List.length_map, Pl.tx_size, List.length_append, List.length_cons]
          have := List.length_pos_iff.2 g5
          omega
        · rw [e, List.length_map, Pl.bt_at A B 35 A.length rfl]
          rfl
      have hbv : Pl.basedV (Pl.tx (A ++ 35 :: B)) = Pl.bvl (Pl.nm A) 0 (B.map UInt8.toNat) := by
        unfold Pl.basedV
        rw [if_pos hif, hv, e, List.length_map]
        congr 1
        unfold Pl.bts
        rw [Pl.tx_list, show A ++ 35 :: B = (A ++ [35]) ++ B by simp, List.drop_left' (by simp)]
      by_cases hbad : ∃ b ∈ B, Pl.badL (Pl.nm A) b
      · rw [if_pos hbad]
        exact Pl.read_hash2 _ hmem (by rw [hbv]; exact Pl.bvl_none _ B 0 hbad)
      · rw [if_neg hbad]
        have hs := Pl.bvl_some (Pl.nm A) (by omega) B 0 (by omega) hbad
        rw [show min (0 : Int) 2147483648 = 0 by omega] at hs
        unfold Pl.read
        rw [hbv, hs]
        show (if 2147483647 < min (Pl.rav (Pl.nm A) 0 B) 2147483648 then _ else _) = _
        by_cases hr : 2147483647 < Pl.rav (Pl.nm A) 0 B
        · rw [if_pos hr, if_pos (by omega)]
        · rw [if_neg hr, if_neg (by omega), show min (Pl.rav (Pl.nm A) 0 B) 2147483648 = Pl.rav (Pl.nm A) 0 B by omega]
  · rw [if_pos hg]
    refine Pl.read_hash2 _ hmem (Pl.basedV_none _ ?_)
    intro hif
    obtain ⟨D, R, hAR, hD, hR⟩ := Pl.dig_split A
    have hRR : Pl.noD (R ++ 35 :: B) := by
      cases R with
      | nil => exact fun b r e => by injection e with e1 e2; rw [← e1]; decide
      | cons x y => exact fun b r e => by injection e with e1 e2; rw [← e1]; exact hR x y rfl
    have e := Pl.dgs_at [] D (R ++ 35 :: B) 0 rfl hD hRR
    rw [List.nil_append, ← List.append_assoc, ← hAR] at e
    obtain ⟨b1, b2, b3, b4, b5, b6, b7⟩ := hif
    rw [e, List.length_map] at b1 b2 b6 b7
    cases R with
    | nil =>
      rw [List.append_nil] at hAR
      subst hAR
      refine hg ⟨b1, b2, (Pl.allD_iff A).2 hD, ?_, ?_⟩
      · rw [Pl.bt_tx, List.getElem?_append_left (by omega)] at b3
        exact b3
      · rintro rfl
        rw [Pl.tx_size] at b6
        simp at b6
    | cons x y =>
      rw [hAR, List.append_assoc] at b7
      have := Pl.bt_at D (y ++ 35 :: B) x D.length rfl
      rw [show D ++ x :: (y ++ 35 :: B) = D ++ (x :: y ++ 35 :: B) by simp] at this
      rw [this] at b7
      have hx : x = 35 := UInt8.toNat_inj.1 b7
      exact hA (by rw [hAR, hx]; simp)
/-- a text with no '#', of digits alone behind its sign or not -/
def Pl.rwhole (b : Bool) (T : List UInt8) : Int × Int × Int :=
  if T = [] ∨ Pl.allD T = false then (0, 0, 3) else if 2147483647 < Pl.rav 10 0 T then (0, 0, 2) else (1, Pl.sgd b (Pl.rav 10 0 T), 0)
theorem Pl.allD_not (T : List UInt8) : Pl.allD T = false ↔ ¬ Pl.dig T := by
  rw [← Pl.allD_iff, Bool.not_eq_true]
theorem Pl.read_unpointed (S T : List UInt8) (hS : Pl.isS S) (h0 : S = [] → ∀ b r, T = b :: r → b.toNat ≠ 43 ∧ b.toNat ≠ 45) (h35 : (35 : UInt8) ∉ S ++ T) (h46 : (46 : UInt8) ∉ T) :
    Pl.read (Pl.tx (S ++ T)) = Pl.rwhole (decide (S = [45])) T := by
  have hb := Pl.based_no35 _ h35
  unfold Pl.rwhole
  by_cases h : T = [] ∨ Pl.allD T = false
  · rw [if_pos h]
    refine Pl.read_none S T hS h0 hb ?_ ?_
    · rcases h with h | h
      · exact .inl h
      · exact .inr ((Pl.allD_not T).1 h)
    · rintro A B rfl _
      exact h46 (by simp)
  · rw [if_neg h]
    have hD : Pl.dig T := Classical.not_not.1 (fun q => h (.inr ((Pl.allD_not T).2 q)))
    have := Pl.read_parts S T [] hS (by rw [List.append_nil]; exact h0) hD Pl.noD_nil (by rw [List.append_nil]; exact hb)
    rw [Pl.readOf_end, List.append_nil] at this
    rw [this, if_neg (fun q => h (.inl q)), Pl.rav_nm T hD]
    by_cases hv : 2147483647 < (Pl.nm T : Int)
    · rw [if_pos (by omega), if_pos (by omega)]
    · rw [if_neg (by omega), if_neg (by omega), show min (Pl.nm T : Int) 2147483648 = Pl.nm T by omega, show min (Pl.nm T : Int) 1099511627776 = Pl.nm T by omega]
def Pl.rpointed (A B : List UInt8) : Int × Int :=
  if 12 < B.length then (0, 2)
  else if 1073741823 < Pl.rav 10 0 A * 65536 + Pl.nst (Pl.rav 10 0 B * 65536) ((10 ^ B.length : Nat) : Int) then (0, 2)
  else (Pl.rav 10 0 A * 65536 + Pl.nst (Pl.rav 10 0 B * 65536) ((10 ^ B.length : Nat) : Int), 0)
def Pl.rpart (b : Bool) (A B : List UInt8) : Int × Int × Int :=
  if Pl.allD A = false ∨ Pl.allD B = false ∨ A.length + B.length = 0 then (0, 0, 3)
  else if (Pl.rpointed A B).2 = 0 then (2, Pl.sgd b (Pl.rpointed A B).1, 0) else (0, 0, (Pl.rpointed A B).2)
theorem Pl.read_pointed (S A B : List UInt8) (hS : Pl.isS S) (h0 : S = [] → ∀ b r, A ++ 46 :: B = b :: r → b.toNat ≠ 43 ∧ b.toNat ≠ 45) (h35 : (35 : UInt8) ∉ S ++ (A ++ 46 :: B)) (h46 : (46 : UInt8) ∉ A) :
    Pl.read (Pl.tx (S ++ (A ++ 46 :: B))) = Pl.rpart (decide (S = [45])) A B := by
  have hb := Pl.based_no35 _ h35
  unfold Pl.rpart
  by_cases h : Pl.dig A ∧ Pl.dig B
  · obtain ⟨hA, hB⟩ := h
    rw [Pl.read_parts S A (46 :: B) hS h0 hA (fun b r e => by injection e with e1 e2; rw [← e1]; decide) hb]
    have h1 := Pl.readOf_point S A B [] hB Pl.noD_nil (decide (S = [45])) (min (Pl.nm A : Int) 2147483648)
    rw [List.append_nil] at h1
    rw [h1, (Pl.allD_iff A).2 hA, (Pl.allD_iff B).2 hB]
    unfold Pl.readPart
    rw [List.length_map]
    by_cases hl : A.length + B.length = 0
    · rw [if_pos (.inr hl), if_pos (.inr (.inr hl))]
    · have hw : ¬ (decide (([] : List UInt8) = []) = false ∨ A.length + B.length = 0) := by
        rintro (q | q)
        · cases q
        · exact hl q
      have hw2 : ¬ (true = false ∨ true = false ∨ A.length + B.length = 0) := by
        rintro (q | q | q)
        · cases q
        · cases q
        · exact hl q
      rw [if_neg hw, if_neg hw2]
      unfold Pl.rpointed
      by_cases h12 : 12 < B.length
      · rw [if_pos (.inl h12), if_pos h12]
        rfl
      · have hnb : Pl.nm B < 10 ^ 12 := Nat.lt_of_lt_of_le (Pl.nm_lt B hB) (Nat.pow_le_pow_right (by omega) (by omega))
        rw [if_neg h12, Pl.rav_nm A hA, Pl.rav_nm B hB, Pl.dvl_nm _ (by omega) B hB, show min (Pl.nm B : Int) 1099511627776 = Pl.nm B by omega, show min (Pl.nm B : Int) 1000000000000 = Pl.nm B by omega]
        have hns := (Pl.nst_le ((Pl.nm B : Int) * 65536) ((10 ^ B.length : Nat) : Int) (by omega) (by have := Nat.pow_pos (n := B.length) (show 0 < 10 by omega); omega)).1
        obtain ⟨m, hm⟩ : ∃ m, m = Pl.nst ((Pl.nm B : Int) * 65536) ((10 ^ B.length : Nat) : Int) := ⟨_, rfl⟩
        rw [← hm] at hns ⊢
        by_cases hv : 16383 < (Pl.nm A : Int)
        · rw [if_pos (show 12 < B.length ∨ 16383 < min (Pl.nm A : Int) 2147483648 by omega), if_pos (show 1073741823 < min (Pl.nm A : Int) 1099511627776 * 65536 + m by omega)]
          rfl
        · rw [if_neg (by omega), show min (Pl.nm A : Int) 2147483648 = Pl.nm A by omega, show min (Pl.nm A : Int) 1099511627776 = Pl.nm A by omega]
          by_cases hw : 1073741823 < (Pl.nm A : Int) * 65536 + m
          · rw [if_pos hw, if_pos hw]
            rfl
          · rw [if_neg hw, if_neg hw]
            rfl
  · have hh : Pl.allD A = false ∨ Pl.allD B = false ∨ A.length + B.length = 0 := by
      by_cases hA : Pl.dig A
      · exact .inr (.inl ((Pl.allD_not B).2 (fun q => h ⟨hA, q⟩)))
      · exact .inl ((Pl.allD_not A).2 hA)
    rw [if_pos hh]
    refine Pl.read_none S _ hS h0 hb (.inr (fun q => Pl.dig_not 46 (by decide) _ q (by simp))) ?_
    rintro A' B' e ⟨hA', hB'⟩
    have h46' : (46 : UInt8) ∉ A' := Pl.dig_not 46 (by decide) A' hA'
    have hAA : A = A' ∧ B = B' := by
      clear hh hb h35 h0 h
      induction A generalizing A' with
      | nil =>
        cases A' with
        | nil => injection e with _ e; exact ⟨rfl, e⟩
        | cons x y => injection e with e1 _; rw [← e1] at h46'; exact absurd (by simp) h46'
      | cons a r ih =>
        cases A' with
        | nil => injection e with e1 _; rw [e1] at h46; exact absurd (by simp) h46
        | cons x y =>
          injection e with e1 e2
          have hy : Pl.dig y := fun b hb => hA' b (by simp [hb])
          obtain ⟨h1, h2⟩ := ih (fun q => h46 (by simp [q])) y e2 hy (fun q => h46' (by simp [q]))
          exact ⟨by rw [e1, h1], h2⟩
    exact h ⟨by rw [hAA.1]; exact hA', by rw [hAA.2]; exact hB'⟩
theorem Pl.rpointed_bd (A B : List UInt8) (hA : Pl.dig A) (hB : Pl.dig B) : 0 ≤ (Pl.rpointed A B).1 ∧ (Pl.rpointed A B).1 ≤ 1073741823 ∧ ((Pl.rpointed A B).2 = 0 ∨ (Pl.rpointed A B).2 = 2) := by
  have bA := (Pl.rav_bd 10 0 A (by omega) (Pl.dig_cv A hA) (by omega) (by omega)).1
  have bB := (Pl.rav_bd 10 0 B (by omega) (Pl.dig_cv B hB) (by omega) (by omega)).1
  have hn := (Pl.nst_le (Pl.rav 10 0 B * 65536) ((10 ^ B.length : Nat) : Int) (by omega) (by have := Nat.pow_pos (n := B.length) (show 0 < 10 by omega); omega)).1
  unfold Pl.rpointed
  split
  · exact ⟨by omega, by omega, .inr rfl⟩
  · split
    · exact ⟨by omega, by omega, .inr rfl⟩
    · rename_i h
      exact ⟨by show 0 ≤ _ * 65536 + _; omega, by show _ * 65536 + _ ≤ 1073741823; omega, .inl rfl⟩
end Go.Proofs.Ytpfkijjpophobaa
