/- Rows of words; pack.Put, plain. -/
import Derived.Test.YtpfkijjpophobaaG9
namespace Go.Proofs.Ytpfkijjpophobaa
set_option linter.unusedVariables false
open Go.RowKit

def Pl.flatT (T : List Pl.Tok) : List Value := T.flatMap Pl.Tok.cs
theorem Pl.flatT_get : ∀ (L : List Pl.Tok) (j : Nat) (o : Pl.Tok), L[j]? = some o → ∀ r, r < 4 → (Pl.flatT L)[j * 4 + r]? = (Pl.Tok.cs o)[r]?
  | [], j, o, h, _, _ => by simp at h
  | q :: L, 0, o, h, r, hr => by
    simp at h
    subst h
    simp only [Pl.flatT, List.flatMap_cons, Nat.zero_mul, Nat.zero_add]
    rw [List.getElem?_append_left (by simp [Pl.Tok.cs]; exact hr)]
  | q :: L, j + 1, o, h, r, hr => by
    have := Pl.flatT_get L j o (by simpa using h) r hr
    simp only [Pl.flatT, List.flatMap_cons] at this ⊢
    rw [List.getElem?_append_right (by simp [Pl.Tok.cs]; omega), ← this]
    congr 1
    simp [Pl.Tok.cs]; omega
theorem Pl.flatT_len (T : List Pl.Tok) : (Pl.flatT T).length = T.length * 4 := by
  induction T with
  | nil => rfl
  | cons t T ih => simp only [Pl.flatT, List.flatMap_cons] at ih ⊢; rw [List.length_append, ih]; simp [Pl.Tok.cs]; omega
/-- a row of words that lies anywhere -/
def RdT (v : Value) (T : List Pl.Tok) (W : World) : Prop :=
  ∃ ao cap, v = .slice ao T.length cap ∧ T.length ≤ cap ∧ (T = [] ∨ ∃ g o, ao = some ⟨g, o, none⟩ ∧ g < W.heap.size ∧ ∀ j u, (Pl.flatT T)[j]? = some u → W.cell? ⟨g, o + j, none⟩ = some u)
theorem RdT.fr0 {W W' : World} {v : Value} {T : List Pl.Tok} (h : RdT v T W) (k : Fr (fun _ => False) W W') : RdT v T W' := by
  obtain ⟨ao, cap, rfl, hc, h⟩ := h
  refine ⟨ao, cap, rfl, hc, ?_⟩
  rcases h with h | ⟨g, o, rfl, hg, h⟩
  · exact .inl h
  · exact .inr ⟨g, o, rfl, Nat.lt_of_lt_of_le hg k.2.2.1, fun j u hu => (k.cell (a := ⟨g, o + j, none⟩) hg (fun f => f)).trans (h j u hu)⟩
theorem own_rdT {base : Nat} {v : Value} {T : List Pl.Tok} {W : World} (c : W.ownsRow base 48 4 v T.length (Pl.flatT T)) : RdT v T W := by
  have hl := own_lt c
  rcases c.2 with ⟨rfl, h0⟩ | ⟨g, cap, cur, rfl, hb, hg, hc, r⟩
  · exact ⟨none, 0, by rw [h0], by omega, .inl (List.eq_nil_of_length_eq_zero h0)⟩
  · refine ⟨_, cap, rfl, hc, .inr ⟨g, 0, rfl, hl g rfl, fun j u hu => ?_⟩⟩
    have hj := (List.getElem?_eq_some_iff.1 hu).1
    rw [Pl.flatT_len] at hj
    rw [Nat.zero_add, c.cellAt _ hj, hu]
theorem RdT.at {W : World} {v : Value} {T : List Pl.Tok} (h : RdT v T W) (j : Nat) (t : Pl.Tok) (hj : T[j]? = some t) : ∃ g o cap, v = .slice (some ⟨g, o, none⟩) T.length cap ∧ g < W.heap.size ∧
    W.cell? ⟨g, o + j * 4, none⟩ = some (.int .i64 t.k) ∧ W.cell? ⟨g, o + j * 4 + 1, none⟩ = some (.int .i64 t.n) ∧ W.cell? ⟨g, o + j * 4 + 2, none⟩ = some (.string (Pl.tx t.s)) ∧ W.cell? ⟨g, o + j * 4 + 3, none⟩ = some (.int .i64 t.a) := by
  have hl : j < T.length := (List.getElem?_eq_some_iff.1 hj).1
  obtain ⟨ao, cap, rfl, hc, h | ⟨g, o, rfl, hg, h⟩⟩ := h
  · rw [h] at hl; simp at hl
  · refine ⟨g, o, cap, rfl, hg, ?_, ?_, ?_, ?_⟩
    · exact h (j * 4) _ ((Pl.flatT_get T j t hj 0 (by omega)).trans rfl)
    · rw [Nat.add_assoc]; exact h (j * 4 + 1) _ ((Pl.flatT_get T j t hj 1 (by omega)).trans rfl)
    · rw [Nat.add_assoc]; exact h (j * 4 + 2) _ ((Pl.flatT_get T j t hj 2 (by omega)).trans rfl)
    · rw [Nat.add_assoc]; exact h (j * 4 + 3) _ ((Pl.flatT_get T j t hj 3 (by omega)).trans rfl)
def Pl.Tok.may (t : Pl.Tok) : Bool := Pl.tokMay t.k t.n t.s
/-- in the machine's bounds -/
def Pl.Tok.ok (t : Pl.Tok) : Prop := -9223372036854775808 ≤ t.k ∧ t.k ≤ 9223372036854775807 ∧ t.s.length ≤ 9223372036854775807
def Pl.fold (n : Int) : Nat := if 0 ≤ n then (2 * n).toNat else (-2 * n - 1).toNat
/-- a word's bytes -/
def Pl.Tok.bytes (t : Pl.Tok) : List UInt8 := UInt8.ofNat t.k.toNat :: (if t.k = 1 ∨ t.k = 2 then Pl.num7 (Pl.fold t.n) else if 3 ≤ t.k ∧ t.k ≤ 6 then Pl.num7 t.s.length ++ t.s else [])
def Pl.enc (T : List Pl.Tok) : List UInt8 := Pl.hd ++ T.flatMap Pl.Tok.bytes
/-- what pack.Put answers -/
def Pl.putAll (T : List Pl.Tok) : List UInt8 × Int :=
  if T.all Pl.Tok.may = false then ([], 1) else if 20000 < (Pl.enc T).length then ([], 5) else (Pl.enc T, 0)
theorem Pl.num7_len : ∀ (n : Nat), (Pl.num7 n).length ≤ n + 1 := fun n => by
  induction n using Nat.strongRecOn with
  | _ n ih =>
    rw [Pl.num7_eq]
    split
    · simp
    · have := ih (n / 128) (by omega)
      simp only [List.length_cons]
      omega
theorem Pl.may_bd (t : Pl.Tok) (h : t.may = true) : 1 ≤ t.k ∧ t.k ≤ 12 ∧ -2147483647 ≤ t.n ∧ t.n ≤ 2147483647 ∧ t.s.length ≤ 4000 ∧ (t.k = 1 ∨ t.k = 2 ∨ t.n = 0) ∧ (3 ≤ t.k ∧ t.k ≤ 6 ∨ t.s = []) := by
  unfold Pl.Tok.may Pl.tokMay at h
  split at h
  · have := of_decide_eq_true h; rw [this.1]; exact ⟨by omega, by omega, by omega, by omega, by simp, by omega, .inr rfl⟩
  · split at h
    · have := of_decide_eq_true h; rw [this.1]; exact ⟨by omega, by omega, by omega, by omega, by simp, by omega, .inr rfl⟩
    · split at h
      · cases h
      · split at h
        · have := of_decide_eq_true h; exact ⟨by omega, by omega, by omega, by omega, by omega, by omega, .inl (by omega)⟩
        · split at h
          · have := of_decide_eq_true h; exact ⟨by omega, by omega, by omega, by omega, by omega, by omega, .inl (by omega)⟩
          · split at h
            · have := of_decide_eq_true h; exact ⟨by omega, by omega, by omega, by omega, by omega, by omega, .inl (by omega)⟩
            · have := of_decide_eq_true h; rw [this.2.2]; exact ⟨by omega, by omega, by omega, by omega, by simp, by omega, .inr rfl⟩
theorem Pl.enc_take (T : List Pl.Tok) (i : Nat) (t : Pl.Tok) (h : T[i]? = some t) : Pl.enc (T.take (i + 1)) = Pl.enc (T.take i) ++ t.bytes := by
  unfold Pl.enc
  rw [List.take_add_one, h, List.flatMap_append, List.append_assoc]
  simp
theorem Pl.enc_mono (T : List Pl.Tok) (i : Nat) : (Pl.enc (T.take i)).length ≤ (Pl.enc T).length := by
  unfold Pl.enc
  rw [List.length_append, List.length_append]
  have : (T.flatMap Pl.Tok.bytes) = (T.take i).flatMap Pl.Tok.bytes ++ (T.drop i).flatMap Pl.Tok.bytes := by rw [← List.flatMap_append, List.take_append_drop]
  rw [this, List.length_append]
  omega
end Go.Proofs.Ytpfkijjpophobaa
