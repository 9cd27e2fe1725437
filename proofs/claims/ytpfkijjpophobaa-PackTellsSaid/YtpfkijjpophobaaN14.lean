/- Plain facts: what numtext.Read says of texts of digits. -/
import Derived.Test.YtpfkijjpophobaaN13
namespace Go.Proofs.Ytpfkijjpophobaa
set_option linter.unusedVariables false
open Go.RowKit

theorem Pl.tx_size (l : List UInt8) : (Pl.tx l).size = l.length := by simp [Pl.tx, ByteArray.size]
theorem Pl.tx_list (l : List UInt8) : (Pl.tx l).data.toList = l := by simp [Pl.tx]
theorem Pl.bt_tx (l : List UInt8) (i : Nat) : Pl.bt (Pl.tx l) i = (l[i]?.getD 0).toNat := by unfold Pl.bt; rw [Pl.tx_list]
def Pl.isD (b : Nat) : Bool := decide (48 ≤ b ∧ b ≤ 57)
theorem Pl.dgs_tx (l : List UInt8) (i : Nat) : Pl.dgs (Pl.tx l) i = ((l.drop i).map UInt8.toNat).takeWhile Pl.isD := by
  unfold Pl.dgs
  rw [Pl.tx_list]
  rfl
/-- digits alone -/
def Pl.dig (D : List UInt8) : Prop := ∀ b ∈ D, 48 ≤ b.toNat ∧ b.toNat ≤ 57
def Pl.noD (R : List UInt8) : Prop := ∀ b r, R = b :: r → ¬ (48 ≤ b.toNat ∧ b.toNat ≤ 57)
theorem Pl.noD_nil : Pl.noD [] := fun b r h => by cases h
theorem Pl.tw_dig : ∀ (D R : List UInt8), Pl.dig D → Pl.noD R → ((D ++ R).map UInt8.toNat).takeWhile Pl.isD = D.map UInt8.toNat
  | [], [], _, _ => rfl
  | [], b :: r, _, hR => by
    have : Pl.isD b.toNat = false := decide_eq_false (hR b r rfl)
    simp [this]
  | d :: D, R, hD, hR => by
    have h1 : Pl.isD d.toNat = true := decide_eq_true (hD d (by simp))
    have h2 := Pl.tw_dig D R (fun b hb => hD b (by simp [hb])) hR
    simp only [List.cons_append, List.map_cons, List.takeWhile_cons, h1, if_true]
    rw [h2]
/-- the digits that stand behind P -/
theorem Pl.dgs_at (P D R : List UInt8) (i : Nat) (hi : i = P.length) (hD : Pl.dig D) (hR : Pl.noD R) : Pl.dgs (Pl.tx (P ++ D ++ R)) i = D.map UInt8.toNat := by
  rw [Pl.dgs_tx, hi, List.append_assoc, List.drop_left, Pl.tw_dig D R hD hR]
theorem Pl.bt_at (P R : List UInt8) (b : UInt8) (i : Nat) (hi : i = P.length) : Pl.bt (Pl.tx (P ++ b :: R)) i = b.toNat := by
  rw [Pl.bt_tx, hi, List.getElem?_append_right (Nat.le_refl _), Nat.sub_self]
  rfl

/-- the number that digits are -/
def Pl.num (v : Nat) (l : List Nat) : Nat := l.foldl (fun v b => v * 10 + (b - 48)) v
theorem Pl.num_append (v : Nat) (a b : List Nat) : Pl.num v (a ++ b) = Pl.num (Pl.num v a) b := List.foldl_append
theorem Pl.num_cons (v : Nat) (b : Nat) (r : List Nat) : Pl.num v (b :: r) = Pl.num (v * 10 + (b - 48)) r := List.foldl_cons ..
theorem Pl.num_nil (v : Nat) : Pl.num v [] = v := rfl
theorem Pl.dvl_cons (most v : Int) (b : Nat) (r : List Nat) : Pl.dvl most v (b :: r) = Pl.dvl most (min (v * 10 + ((b : Int) - 48)) most) r := rfl
theorem Pl.dvl_nil (most v : Int) : Pl.dvl most v [] = v := rfl
theorem Pl.dvl_num (most : Int) (hm : 0 ≤ most) (l : List Nat) : ∀ (v : Nat), (∀ b ∈ l, 48 ≤ b) → Pl.dvl most (min (v : Int) most) l = min (Pl.num v l : Int) most := by
  induction l with
  | nil =>
    intro v _
    rw [Pl.dvl_nil, Pl.num_nil]
  | cons b r ih =>
    intro v h
    have hb := h b (by simp)
    rw [Pl.dvl_cons, Pl.num_cons, ← ih (v * 10 + (b - 48)) (fun c hc => h c (by simp [hc]))]
    congr 1
    omega
theorem Pl.dvl_is (most : Int) (hm : 0 ≤ most) (l : List Nat) (h : ∀ b ∈ l, 48 ≤ b) : Pl.dvl most 0 l = min (Pl.num 0 l : Int) most := by
  have := Pl.dvl_num most hm l 0 h
  rwa [show min ((0 : Nat) : Int) most = 0 from by omega] at this
/-- of bytes -/
def Pl.nm (D : List UInt8) : Nat := Pl.num 0 (D.map UInt8.toNat)
theorem Pl.dvl_nm (most : Int) (hm : 0 ≤ most) (D : List UInt8) (hD : Pl.dig D) : Pl.dvl most 0 (D.map UInt8.toNat) = min (Pl.nm D : Int) most :=
  Pl.dvl_is most hm _ (fun b hb => by
    obtain ⟨d, hd, rfl⟩ := List.mem_map.1 hb
    exact (hD d hd).1)
theorem Pl.digit_nat (x : Nat) (hx : x < 10) : (UInt8.ofNat (48 + x)).toNat = 48 + x := by
  rw [UInt8.toNat_ofNat']
  exact Nat.mod_eq_of_lt (by omega)
theorem Pl.digs_dig : ∀ (f n : Nat), Pl.dig (Pl.digs f n)
  | 0, _ => fun b hb => by cases hb
  | f + 1, n => fun b hb => by
    unfold Pl.digs at hb
    rcases List.mem_append.1 hb with h | h
    · split at h
      · cases h
      · exact Pl.digs_dig f (n / 10) b h
    · rw [List.mem_singleton.1 h, Pl.digit_nat _ (by omega)]
      omega
theorem Pl.dec_dig (n : Nat) : Pl.dig (Pl.dec n) := Pl.digs_dig 20 n
theorem Pl.digs_nm : ∀ (f n : Nat), n < 10 ^ f → 1 ≤ f → Pl.nm (Pl.digs f n) = n
  | 0, _, _, h => by omega
  | f + 1, n, h, _ => by
    unfold Pl.nm Pl.digs
    rw [List.map_append, Pl.num_append]
    have e : Pl.num 0 ((if n < 10 then [] else Pl.digs f (n / 10)).map UInt8.toNat) = n / 10 := by
      split
      · rename_i hn
        rw [List.map_nil, Pl.num_nil]
        omega
      · rename_i hn
        have h1 : n / 10 < 10 ^ f := by rw [Nat.pow_succ] at h; omega
        have h3 : 1 ≤ f := by
          rcases Nat.eq_zero_or_pos f with rfl | h3
          · simp at h1; omega
          · exact h3
        exact Pl.digs_nm f (n / 10) h1 h3
    rw [e]
    rw [List.map_cons, List.map_nil, Pl.num_cons, Pl.num_nil, Pl.digit_nat _ (by omega)]
    omega
theorem Pl.dec_nm (n : Nat) (hn : n < 10 ^ 20) : Pl.nm (Pl.dec n) = n := Pl.digs_nm 20 n hn (by omega)
theorem Pl.dec_ne (n : Nat) : Pl.dec n ≠ [] := by
  unfold Pl.dec Pl.digs
  simp
theorem Pl.dec_short (n k : Nat) (hk : 1 ≤ k) (hn : n < 10 ^ k) (hb : n < 10 ^ 20) : (Pl.dec n).length ≤ k := by
  unfold Pl.dec
  rw [Pl.digs_fuel 20 k n hb hn (by omega) hk]
  exact Pl.digs_len k n
theorem Pl.pad_len (k : Nat) (D : List UInt8) (h : D.length ≤ k) : (Pl.pad k D).length = k := by
  unfold Pl.pad
  rw [List.length_append, List.length_replicate]
  omega
theorem Pl.pad_dig (k : Nat) (D : List UInt8) (h : Pl.dig D) : Pl.dig (Pl.pad k D) := by
  intro b hb
  unfold Pl.pad at hb
  rcases List.mem_append.1 hb with h1 | h1
  · rw [(List.mem_replicate.1 h1).2]
    decide
  · exact h b h1
theorem Pl.num_zeros : ∀ (j : Nat), Pl.num 0 ((List.replicate j (48 : UInt8)).map UInt8.toNat) = 0
  | 0 => rfl
  | j + 1 => by
    rw [List.replicate_succ, List.map_cons, Pl.num_cons]
    exact Pl.num_zeros j
theorem Pl.pad_nm (k : Nat) (D : List UInt8) : Pl.nm (Pl.pad k D) = Pl.nm D := by
  unfold Pl.nm Pl.pad
  rw [List.map_append, Pl.num_append, Pl.num_zeros]

/-- no base is told where the digits ahead are not followed by a '#' -/
theorem Pl.basedV_none (s : ByteArray) (h : ¬ Pl.basedIf s) : Pl.basedV s = none := by unfold Pl.basedV; rw [if_neg h]
theorem Pl.based_not (D R : List UInt8) (hD : Pl.dig D) (hR : Pl.noD R) (h35 : ∀ b r, R = b :: r → b.toNat ≠ 35) : ¬ Pl.basedIf (Pl.tx (D ++ R)) := by
  rintro ⟨b1, b2, b3, b4, b5, b6, b7⟩
  have e := Pl.dgs_at [] D R 0 rfl hD hR
  rw [List.nil_append] at e
  rw [e, List.length_map] at b6 b7
  rw [Pl.tx_size, List.length_append] at b6
  cases R with
  | nil => simp at b6; omega
  | cons b r =>
    rw [Pl.bt_at D r b D.length rfl] at b7
    exact h35 b r rfl b7
theorem Pl.based_not_sign (b : UInt8) (R : List UInt8) (hb : ¬ (48 ≤ b.toNat ∧ b.toNat ≤ 57)) : ¬ Pl.basedIf (Pl.tx (b :: R)) := by
  rintro ⟨b1, _⟩
  have e := Pl.dgs_at [] [] (b :: R) 0 rfl (fun _ h => by cases h) (fun c r h => by injection h with h1 h2; rw [← h1]; exact hb)
  rw [List.nil_append, List.nil_append] at e
  rw [e] at b1
  simp at b1

/-- a sign, digits, and what is no digit -/
theorem Pl.read_text (S D R : List UInt8) (hS : S = [] ∨ S = [43] ∨ S = [45]) (hD : Pl.dig D) (hR : Pl.noD R) (h35 : ∀ b r, R = b :: r → b.toNat ≠ 35 ∧ b.toNat ≠ 43 ∧ b.toNat ≠ 45) :
    Pl.read (Pl.tx (S ++ D ++ R)) = Pl.readOf (Pl.tx (S ++ D ++ R)) (decide (S = [45])) (S.length + D.length) D.length (min (Pl.nm D : Int) 2147483648) := by
  have hb : Pl.basedV (Pl.tx (S ++ D ++ R)) = none := by
    refine Pl.basedV_none _ ?_
    rcases hS with rfl | rfl | rfl
    · rw [List.nil_append]
      exact Pl.based_not D R hD hR (fun b r h => (h35 b r h).1)
    · exact Pl.based_not_sign 43 (D ++ R) (by decide)
    · exact Pl.based_not_sign 45 (D ++ R) (by decide)
  have hs : Pl.sg (Pl.tx (S ++ D ++ R)) = S.length ∧ Pl.blw (Pl.tx (S ++ D ++ R)) = decide (S = [45]) := by
    unfold Pl.sg Pl.blw
    rcases hS with rfl | rfl | rfl
    · have h0 : Pl.bt (Pl.tx ([] ++ D ++ R)) 0 ≠ 43 ∧ Pl.bt (Pl.tx ([] ++ D ++ R)) 0 ≠ 45 := by
        rw [List.nil_append]
        cases D with
        | nil =>
          cases R with
          | nil => decide
          | cons b r =>
            have := Pl.bt_at [] r b 0 rfl
            rw [List.nil_append] at this
            rw [List.nil_append, this]
            exact ⟨(h35 b r rfl).2.1, (h35 b r rfl).2.2⟩
        | cons d D' =>
          have := Pl.bt_at [] (D' ++ R) d 0 rfl
          rw [List.nil_append] at this
          rw [List.cons_append, this]
          have := hD d (by simp)
          omega
      rw [if_neg (by omega)]
      exact ⟨rfl, decide_eq_false h0.2⟩
    · have := Pl.bt_at [] (D ++ R) 43 0 rfl
      rw [List.nil_append] at this
      rw [show [43] ++ D ++ R = 43 :: (D ++ R) from rfl, this]
      exact ⟨rfl, rfl⟩
    · have := Pl.bt_at [] (D ++ R) 45 0 rfl
      rw [List.nil_append] at this
      rw [show [45] ++ D ++ R = 45 :: (D ++ R) from rfl, this]
      exact ⟨rfl, rfl⟩
  have hd := Pl.dgs_at S D R S.length rfl hD hR
  unfold Pl.read
  rw [hb]
  show Pl.readOf _ (Pl.blw _) _ _ _ = _
  rw [hs.1, hs.2, hd, List.length_map, Pl.dvl_nm _ (by omega) D hD]

/-- a whole number -/
theorem Pl.read_whole (S D : List UInt8) (hS : S = [] ∨ S = [43] ∨ S = [45]) (hD : Pl.dig D) (hne : D ≠ []) :
    Pl.read (Pl.tx (S ++ D)) = if 2147483647 < Pl.nm D then (0, 0, 2) else (1, Pl.sgd (decide (S = [45])) (Pl.nm D), 0) := by
  have h := Pl.read_text S D [] hS hD Pl.noD_nil (fun b r h => by cases h)
  rw [List.append_nil] at h
  rw [h]
  have hl : 0 < D.length := List.length_pos_iff.2 hne
  unfold Pl.readOf
  rw [Pl.tx_size, List.length_append, if_pos ⟨rfl, hl⟩]
  by_cases hv : 2147483647 < Pl.nm D
  · rw [if_pos (by omega), if_pos hv]
  · rw [if_neg (by omega), if_neg hv, show min (Pl.nm D : Int) 2147483648 = (Pl.nm D : Int) from by omega]
/-- a number with a point -/
theorem Pl.read_point (S D E : List UInt8) (hS : S = [] ∨ S = [43] ∨ S = [45]) (hD : Pl.dig D) (hE : Pl.dig E) :
    Pl.read (Pl.tx (S ++ D ++ [46] ++ E)) = Pl.readPart (decide (S = [45])) D.length (min (Pl.nm D : Int) 2147483648) (E.map UInt8.toNat) true := by
  have h := Pl.read_text S D (46 :: E) hS hD (fun b r h => by injection h with h1 h2; rw [← h1]; decide) (fun b r h => by injection h with h1 h2; rw [← h1]; decide)
  have e : S ++ D ++ [46] ++ E = S ++ D ++ 46 :: E := by simp
  rw [e, h]
  unfold Pl.readOf
  have e2 := Pl.bt_at (S ++ D) E 46 (S.length + D.length) (by simp)
  have e3 := Pl.dgs_at (S ++ D ++ [46]) E [] (S.length + D.length + 1) (by simp; omega) hE Pl.noD_nil
  rw [List.append_nil, e] at e3
  rw [if_neg (by rw [Pl.tx_size]; simp), if_neg (by rw [e2, Pl.tx_size]; simp), e3]
  congr 1
  rw [Pl.tx_size]
  simp
  omega
end Go.Proofs.Ytpfkijjpophobaa
