/- Letters to a base, plain; a piece of a text. -/
import Derived.Test.YtpfkijjpophobaaN16
namespace Go.Proofs.Ytpfkijjpophobaa
set_option linter.unusedVariables false
open Go.RowKit

/-- a piece of a text -/
theorem slice_tx (l : List UInt8) (i j : Nat) (hij : i ≤ j) (hj : j ≤ l.length) (W : World) :
    (Instr.slice 9 (.string (Pl.tx l)) (some (.int .i64 (i : Int))) (some (.int .i64 (j : Int))) none).run Try.prog W = .ok (.string (Pl.tx ((l.drop i).take (j - i)))) W := by
  rw [run_slice_string_if (P := Try.prog) W 9 (Pl.tx l) .i64 .i64 (i : Int) (j : Int) Try.underlying9]
  rw [if_pos (by rw [Pl.tx_size]; omega), if_pos (by omega), Int.toNat_natCast, Int.toNat_natCast]
  congr 2
  apply ByteArray.ext
  rw [ByteArray.data_extract]
  unfold Pl.tx
  simp
def Pl.lo : List UInt8 := [48, 49, 50, 51, 52, 53, 54, 55, 56, 57, 97, 98, 99, 100, 101, 102, 103, 104, 105, 106, 107, 108, 109, 110, 111, 112, 113, 114, 115, 116, 117, 118, 119, 120, 121, 122]
def Pl.hi : List UInt8 := [48, 49, 50, 51, 52, 53, 54, 55, 56, 57, 65, 66, 67, 68, 69, 70, 71, 72, 73, 74, 75, 76, 77, 78, 79, 80, 81, 82, 83, 84, 85, 86, 87, 88, 89, 90]
def Pl.lett (g : Bool) : List UInt8 := if g then Pl.hi else Pl.lo
/-- a digit's letter -/
def Pl.dch (g : Bool) (d : Nat) : UInt8 := (Pl.lett g)[d]?.getD 0
theorem Pl.lett_len (g : Bool) : (Pl.lett g).length = 36 := by cases g <;> rfl
theorem letter_at (g : Bool) (d : Nat) (hd : d < 36) (W : World) :
    (Instr.slice 9 (.string (Pl.tx (Pl.lett g))) (some (.int .i64 (d : Int))) (some (.int .i64 ((d : Int) + 1))) none).run Try.prog W = .ok (.string (Pl.tx [Pl.dch g d])) W := by
  have h := slice_tx (Pl.lett g) d (d + 1) (by omega) (by rw [Pl.lett_len]; omega) W
  rw [show ((d + 1 : Nat) : Int) = (d : Int) + 1 by omega] at h
  rw [h]
  congr 3
  rw [Nat.add_sub_cancel_left, List.drop_eq_getElem_cons (by rw [Pl.lett_len]; exact hd)]
  unfold Pl.dch
  rw [List.getElem?_eq_getElem (by rw [Pl.lett_len]; exact hd)]
  rfl
theorem Pl.cv_dch (g : Bool) (d : Nat) (hd : d < 36) : Pl.cv ((Pl.dch g d).toNat : Int) = (d : Int) := by
  have h : ∀ g : Bool, (List.range 36).all (fun d => decide (Pl.cv ((Pl.dch g d).toNat : Int) = (d : Int))) = true := by intro g; cases g <;> decide
  have := List.all_eq_true.1 (h g) d (List.mem_range.2 hd)
  exact of_decide_eq_true this
/-- the number that digits to a base are -/
def Pl.bval (b v : Nat) (L : List Nat) : Nat := L.foldl (fun v d => v * b + d) v
theorem Pl.bval_cons (b v d : Nat) (L : List Nat) : Pl.bval b v (d :: L) = Pl.bval b (v * b + d) L := List.foldl_cons ..
theorem Pl.bval_nil (b v : Nat) : Pl.bval b v [] = v := rfl
theorem Pl.bval_le (b : Nat) (hb : 1 ≤ b) (L : List Nat) : ∀ v, v ≤ Pl.bval b v L := by
  induction L with
  | nil => intro v; exact Nat.le_refl _
  | cons d r ih =>
    intro v
    rw [Pl.bval_cons]
    have h1 := ih (v * b + d)
    have h2 : v ≤ v * b := Nat.le_mul_of_pos_right v (by omega)
    omega
theorem Pl.bvl_cons (B v : Int) (c : Nat) (r : List Nat) : Pl.bvl B v (c :: r) = if Pl.cv c < 0 ∨ B ≤ Pl.cv c then none else Pl.bvl B (min (v * B + Pl.cv c) 2147483648) r := rfl
theorem Pl.bvl_nil (B v : Int) : Pl.bvl B v [] = some v := rfl
theorem Pl.bvl_bval (g : Bool) (b : Nat) (hb : 1 ≤ b) (hb36 : b ≤ 36) (L : List Nat) : ∀ v : Nat, (∀ d ∈ L, d < b) → Pl.bval b v L ≤ 2147483648 →
    Pl.bvl (b : Int) (v : Int) ((L.map (Pl.dch g)).map UInt8.toNat) = some (Pl.bval b v L : Int) := by
  induction L with
  | nil => intro v _ _; rfl
  | cons d r ih =>
    intro v hd hv
    have hdb := hd d (by simp)
    have hc := Pl.cv_dch g d (by omega)
    rw [Pl.bval_cons] at hv ⊢
    have hle := Pl.bval_le b hb r (v * b + d)
    rw [List.map_cons, List.map_cons, Pl.bvl_cons, hc, if_neg (by omega)]
    have e : min ((v : Int) * (b : Int) + (d : Int)) 2147483648 = ((v * b + d : Nat) : Int) := by
      rw [Int.natCast_add, Int.natCast_mul]
      have : (v : Int) * (b : Int) + (d : Int) ≤ 2147483648 := by
        rw [← Int.natCast_mul, ← Int.natCast_add]
        omega
      omega
    rw [e]
    exact ih (v * b + d) (fun x hx => hd x (by simp [hx])) hv
theorem Pl.bvl_dash (B : Int) (l : List Nat) : ∀ v, Pl.bvl B v (l ++ [45]) = none := by
  induction l with
  | nil => intro v; rw [List.nil_append, Pl.bvl_cons, if_pos (.inl (by decide))]
  | cons c r ih =>
    intro v
    rw [List.cons_append, Pl.bvl_cons]
    split
    · rfl
    · exact ih _
theorem Pl.bts_at (P R : List UInt8) (i : Nat) (hi : i = P.length) : Pl.bts (Pl.tx (P ++ R)) i = R.map UInt8.toNat := by
  unfold Pl.bts
  rw [Pl.tx_list, hi, List.drop_left]
theorem Pl.noD_hash (S : List UInt8) : Pl.noD (35 :: S) := fun b r h => by injection h with h1 h2; rw [← h1]; decide
theorem Pl.dgs_hash (D S : List UInt8) (hD : Pl.dig D) : Pl.dgs (Pl.tx (D ++ 35 :: S)) 0 = D.map UInt8.toNat := by
  have := Pl.dgs_at [] D (35 :: S) 0 rfl hD (Pl.noD_hash S)
  rwa [List.nil_append] at this
/-- a base, as it is written -/
theorem Pl.base_dec (b : Nat) (h2 : 2 ≤ b) (h36 : b ≤ 36) : 1 ≤ (Pl.dec b).length ∧ (Pl.dec b).length ≤ 2 ∧ ((Pl.dec b)[0]?.getD 0).toNat ≠ 48 := by
  have h : (List.range 37).all (fun b => decide (b < 2 ∨ (1 ≤ (Pl.dec b).length ∧ (Pl.dec b).length ≤ 2 ∧ ((Pl.dec b)[0]?.getD 0).toNat ≠ 48))) = true := by decide +kernel
  have := of_decide_eq_true (List.all_eq_true.1 h b (List.mem_range.2 (by omega)))
  omega
theorem Pl.basedIf_hash (b : Nat) (h2 : 2 ≤ b) (h36 : b ≤ 36) (S : List UInt8) (hS : S ≠ []) : Pl.basedIf (Pl.tx (Pl.dec b ++ 35 :: S)) := by
  obtain ⟨l1, l2, l3⟩ := Pl.base_dec b h2 h36
  have hd := Pl.dgs_hash (Pl.dec b) S (Pl.dec_dig b)
  have hl : 0 < S.length := List.length_pos_iff.2 hS
  unfold Pl.basedIf
  rw [hd, List.length_map, Pl.dvl_nm _ (by omega) _ (Pl.dec_dig b), Pl.dec_nm b (by omega), Pl.tx_size, Pl.bt_at (Pl.dec b) S 35 _ rfl, Pl.bt_tx, List.getElem?_append_left (by omega)]
  refine ⟨l1, l2, l3, by omega, by omega, ?_, rfl⟩
  rw [List.length_append, List.length_cons]
  omega
theorem Pl.basedV_hash (b : Nat) (h2 : 2 ≤ b) (h36 : b ≤ 36) (S : List UInt8) (hS : S ≠ []) : Pl.basedV (Pl.tx (Pl.dec b ++ 35 :: S)) = Pl.bvl (b : Int) 0 (S.map UInt8.toNat) := by
  unfold Pl.basedV
  rw [if_pos (Pl.basedIf_hash b h2 h36 S hS), Pl.dgs_hash _ _ (Pl.dec_dig b), List.length_map, Pl.dvl_nm _ (by omega) _ (Pl.dec_dig b), Pl.dec_nm b (by omega)]
  have e : Pl.dec b ++ 35 :: S = (Pl.dec b ++ [35]) ++ S := by simp
  rw [e, Pl.bts_at (Pl.dec b ++ [35]) S _ (by simp), show min (b : Int) 1000 = (b : Int) by omega]
theorem Pl.read_base (b : Nat) (h2 : 2 ≤ b) (h36 : b ≤ 36) (S : List UInt8) (hS : S ≠ []) (v : Nat) (hv : Pl.bvl (b : Int) 0 (S.map UInt8.toNat) = some (v : Int)) (hb : v ≤ 2147483647) : Pl.read (Pl.tx (Pl.dec b ++ 35 :: S)) = (1, (v : Int), 0) := by
  unfold Pl.read
  rw [Pl.basedV_hash b h2 h36 S hS, hv]
  show (if 2147483647 < (v : Int) then (0, 0, 2) else (1, (v : Int), 0)) = ((1, (v : Int), 0) : Int × Int × Int)
  rw [if_neg (by omega)]
/-- digits and a '#', but no number to a base -/
theorem Pl.read_hash (D S : List UInt8) (hD : Pl.dig D) (hb : Pl.basedV (Pl.tx (D ++ 35 :: S)) = none) : Pl.read (Pl.tx (D ++ 35 :: S)) = (0, 0, 3) := by
  unfold Pl.read
  rw [hb]
  have h0 : Pl.bt (Pl.tx (D ++ 35 :: S)) 0 ≠ 43 ∧ Pl.bt (Pl.tx (D ++ 35 :: S)) 0 ≠ 45 := by
    cases D with
    | nil =>
      have := Pl.bt_at [] S 35 0 rfl
      rw [List.nil_append] at this
      rw [List.nil_append, this]
      decide
    | cons d D' =>
      have := Pl.bt_at [] (D' ++ 35 :: S) d 0 rfl
      rw [List.nil_append] at this
      rw [List.cons_append, this]
      have := hD d (by simp)
      omega
  have hs : Pl.sg (Pl.tx (D ++ 35 :: S)) = 0 := by unfold Pl.sg; rw [if_neg (by omega)]
  show Pl.readOf _ _ _ _ _ = _
  rw [hs, Pl.dgs_hash D S hD, List.length_map, Nat.zero_add]
  unfold Pl.readOf
  rw [if_neg (by rw [Pl.tx_size, List.length_append, List.length_cons]; omega), if_pos (.inr (by rw [Pl.bt_at D S 35 _ rfl]; decide))]
theorem Pl.read_dash (b : Nat) (h2 : 2 ≤ b) (h36 : b ≤ 36) (S : List UInt8) : Pl.read (Pl.tx (Pl.dec b ++ 35 :: (S ++ [45]))) = (0, 0, 3) := by
  refine Pl.read_hash _ _ (Pl.dec_dig b) ?_
  rw [Pl.basedV_hash b h2 h36 _ (by simp), List.map_append]
  exact Pl.bvl_dash _ _ _
theorem Pl.read_nought (b : Nat) (S : List UInt8) : Pl.read (Pl.tx ((48 :: Pl.dec b) ++ 35 :: S)) = (0, 0, 3) := by
  refine Pl.read_hash _ _ (fun c hc => ?_) ?_
  · rcases List.mem_cons.1 hc with rfl | h
    · decide
    · exact Pl.dec_dig b c h
  · refine Pl.basedV_none _ (fun h => ?_)
    have := Pl.bt_at [] (Pl.dec b ++ 35 :: S) 48 0 rfl
    rw [List.nil_append] at this
    exact h.2.2.1 (by rw [List.cons_append, this]; rfl)
end Go.Proofs.Ytpfkijjpophobaa
