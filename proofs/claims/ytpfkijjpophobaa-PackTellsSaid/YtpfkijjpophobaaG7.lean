/- Slices of bytes; pack.word: the walk. -/
import Derived.Test.YtpfkijjpophobaaG6
namespace Go.Proofs.Ytpfkijjpophobaa
set_option linter.unusedVariables false
open Go.RowKit

theorem Try.elem30 : Try.prog.elem 30 = 5 := by kernel_rfl
theorem slice30 {v : Value} {L : List UInt8} {W : World} (h : RdB v L W) (lo hi : Nat) (h1 : lo ≤ hi) (h2 : hi ≤ L.length) :
    ∃ v2, (∀ Z, (Instr.slice 30 v (some (.int .i64 (lo : Int))) (some (.int .i64 (hi : Int))) none).run Try.prog Z = .ok v2 Z) ∧ RdB v2 ((L.drop lo).take (hi - lo)) W := by
  obtain ⟨ao, cap, rfl, hc, h⟩ := h
  obtain ⟨i, hi0, hz0, hz1, hz2⟩ := info_parts Try.byteInfo
  refine ⟨sliced ao lo hi cap 1, fun Z => ?_, ?_⟩
  · rw [run_slice_lh (P := Try.prog) Z 30 ao L.length cap (by rw [Try.elem30]; exact Try.underlying30) .i64 .i64 (lo : Int) (hi : Int) (by omega) (by omega) (by omega), Try.elem30]
    simp [sizeOf, typeInfo, hi0, hz1, Result.andThen]
  · have hl : ((L.drop lo).take (hi - lo)).length = hi - lo := by rw [List.length_take, List.length_drop]; omega
    unfold sliced
    refine ⟨_, cap - lo, by rw [hl], by rw [hl]; omega, ?_⟩
    rcases h with rfl | ⟨g, o, rfl, hg, h⟩
    · exact .inl (by simp)
    · by_cases hz : hi - lo = 0
      · exact .inl (by rw [hz]; rfl)
      · refine .inr ⟨g, o + lo, ?_, hg, fun j b hb => ?_⟩
        · rw [if_neg (by omega)]
          simp [Addr.add_lit]
        · have hj : j < hi - lo := by
            have := (List.getElem?_eq_some_iff.1 hb).1
            omega
          rw [List.getElem?_take, if_pos hj, List.getElem?_drop] at hb
          rw [Nat.add_assoc]
          exact h (lo + j) b hb
theorem conv30 {v : Value} {L : List UInt8} {W : World} (h : RdB v L W) : (convert 30 9 v).run Try.prog W = .ok (.string (Pl.tx L)) W := by
  obtain ⟨ao, cap, rfl, hc, h⟩ := h
  have hzero : L = [] → (convert 30 9 (.slice ao L.length cap)).run Try.prog W = .ok (.string (Pl.tx L)) W := fun e => by
    rw [e, show ([] : List UInt8).length = 0 from rfl, run_convert_bytes_string (P := Try.prog) W 30 9 5 ao 0 cap Try.underlying30 Try.underlying5 Try.underlying9]
    cases ao <;> simp [Conv.bytesToString, loadCells] <;> rfl
  rcases h with e | ⟨g, o, rfl, hg, h⟩
  · exact hzero e
  · exact run_convert_bytes_back (P := Try.prog) W 30 9 5 ⟨g, o, none⟩ cap L Try.underlying30 Try.underlying5 Try.underlying9 (fun j hj => by
      rw [Addr.add_lit]
      exact h j L[j] (List.getElem?_eq_getElem hj))
theorem Pl.tk_bd (L : List UInt8) : ∀ (k i a n : Nat), k + i = 5 → a ≤ L.length → n < 128 ^ i → (Pl.tk L k i a n).2.2 = 0 → 0 ≤ (Pl.tk L k i a n).1 ∧ (Pl.tk L k i a n).1 < 34359738368 ∧ (a : Int) < (Pl.tk L k i a n).2.1 ∧ (Pl.tk L k i a n).2.1 ≤ L.length
  | 0, _, _, _, _, _, _, h => by cases h
  | k + 1, i, a, n, hk, ha, hn, h => by
    cases hb : L[a]? with
    | none => rw [Pl.tk_none L k i a n hb] at h; cases h
    | some b =>
      have hal : a < L.length := (List.getElem?_eq_some_iff.1 hb).1
      have hp : 128 ^ i ≤ 128 ^ 4 := Nat.pow_le_pow_right (by omega) (by omega)
      have hnn : n + b.toNat % 128 * 128 ^ i < 128 ^ (i + 1) := by
        have hm : b.toNat % 128 * 128 ^ i ≤ 127 * 128 ^ i := Nat.mul_le_mul_right _ (by omega)
        rw [Nat.pow_succ]
        omega
      have hp5 : 128 ^ (i + 1) ≤ 128 ^ 5 := Nat.pow_le_pow_right (by omega) (by omega)
      rw [Pl.tk_some L k i a n b hb] at h ⊢
      split
      · rename_i h0; rw [if_pos h0] at h; cases h
      · rename_i h0
        rw [if_neg h0] at h
        split
        · exact ⟨by show 0 ≤ ((n + b.toNat % 128 * 128 ^ i : Nat) : Int); omega, by show ((n + b.toNat % 128 * 128 ^ i : Nat) : Int) < _; omega, by show (a : Int) < ((a + 1 : Nat) : Int); omega, by show ((a + 1 : Nat) : Int) ≤ _; omega⟩
        · rename_i h1
          rw [if_neg h1] at h
          have := Pl.tk_bd L k (i + 1) (a + 1) (n + b.toNat % 128 * 128 ^ i) (by omega) (by omega) hnn h
          omega
theorem Pl.take7_bd (L : List UInt8) (a : Nat) (ha : a ≤ L.length) (h : (Pl.take7 L a).2.2 = 0) : 0 ≤ (Pl.take7 L a).1 ∧ (Pl.take7 L a).1 < 34359738368 ∧ (a : Int) < (Pl.take7 L a).2.1 ∧ (Pl.take7 L a).2.1 ≤ L.length :=
  Pl.tk_bd L 5 0 a 0 rfl ha (by decide) h
/-- a number told twice over -/
def Pl.unf (n : Int) : Int := if n % 2 = 1 then -(n + 1) / 2 else n / 2
/-- a word read: error, the word, the place behind it; of its first byte, and of the number behind it -/
def Pl.wordB (L : List UInt8) (a c : Nat) (T : Int × Int × Int) : Int × (Int × Int × List UInt8) × Nat :=
  if c < 1 ∨ 12 < c then (3, (0, 0, []), 0)
  else if c ≤ 2 then
    (if T.2.2 ≠ 0 then (T.2.2, (0, 0, []), 0)
     else if Pl.tokMay c (Pl.unf T.1) [] = false then (3, (0, 0, []), 0) else (0, (c, Pl.unf T.1, []), T.2.1.toNat))
  else if c ≤ 6 then
    (if T.2.2 ≠ 0 then (T.2.2, (0, 0, []), 0)
     else if 4000 < T.1 then (3, (0, 0, []), 0)
     else if (L.length : Int) - T.2.1 < T.1 then (4, (0, 0, []), 0)
     else if Pl.tokMay c 0 ((L.drop T.2.1.toNat).take T.1.toNat) = false then (3, (0, 0, []), 0)
     else (0, (c, 0, (L.drop T.2.1.toNat).take T.1.toNat), T.2.1.toNat + T.1.toNat))
  else (0, (c, 0, []), a + 1)
def Pl.word7 (L : List UInt8) (a : Nat) : Int × (Int × Int × List UInt8) × Nat := Pl.wordB L a (L[a]?.getD 0).toNat (Pl.take7 L (a + 1))
/-- what pack.word answers -/
def WordOut (R : Int × (Int × Int × List UInt8) × Nat) (a : Nat) (W : World) : Ending → World → Prop := fun e w' =>
  ∃ k n s nx, e = .returned (.tuple #[Pl.tokv k n s (a : Int), .int .i64 nx, .int .i64 R.1]) ∧ (R.1 = 0 → Pl.tokv k n s (a : Int) = Pl.tokv R.2.1.1 R.2.1.2.1 R.2.1.2.2 (a : Int) ∧ nx = (R.2.2 : Int)) ∧ Fr (fun _ => False) W w'
/-- a word that lies in a block of its own -/
def TokB (p : Nat) (k n : Int) (S : ByteArray) (a : Int) (Z : World) : Prop :=
  Z.cell? ⟨p, 0, none⟩ = some (.int .i64 k) ∧ Z.cell? ⟨p, 1, none⟩ = some (.int .i64 n) ∧ Z.cell? ⟨p, 2, none⟩ = some (.string S) ∧ Z.cell? ⟨p, 3, none⟩ = some (.int .i64 a) ∧ ∀ j, Z.frozen? ⟨p, j, none⟩ = false
theorem TokB.new (W : World) (k n : Int) (S : ByteArray) (a : Int) : TokB W.heap.size k n S a (W.alloc (.cells #[.int .i64 k, .int .i64 n, .string S, .int .i64 a] 48)) :=
  ⟨by simp [go_sem], by simp [go_sem], by simp [go_sem], by simp [go_sem], fun j => by rw [frozen?_alloc_cells]; simp [World.frozen?]⟩
theorem TokB.fr {p : Nat} {k n : Int} {S : ByteArray} {a : Int} {P : Nat → Prop} {Z Z' : World} (h : TokB p k n S a Z) (f : Fr P Z Z') (hp : ¬ P p) : TokB p k n S a Z' := by
  obtain ⟨h0, h1, h2, h3, h4⟩ := h
  have hb := block_lt_of_cell h0
  exact ⟨(f.cell (a := ⟨p, 0, none⟩) hb hp).trans h0, (f.cell (a := ⟨p, 1, none⟩) hb hp).trans h1, (f.cell (a := ⟨p, 2, none⟩) hb hp).trans h2, (f.cell (a := ⟨p, 3, none⟩) hb hp).trans h3, fun j => (f.frozen (a := ⟨p, j, none⟩) hb hp).trans (h4 j)⟩
theorem TokB.putN {p : Nat} {k n n' : Int} {S : ByteArray} {a : Int} {Z : World} (h : TokB p k n S a Z) : TokB p k n' S a (Z.setCell ⟨p, 1, none⟩ (.int .i64 n')) := by
  obtain ⟨h0, h1, h2, h3, h4⟩ := h
  refine ⟨?_, World.cell?_setCell_same' _ _ _ (by rw [h1]; rfl), ?_, ?_, fun j => by simpa using h4 j⟩
  · rw [World.cell?_setCell_other _ _ _ _ (by simp)]; exact h0
  · rw [World.cell?_setCell_other _ _ _ _ (by simp)]; exact h2
  · rw [World.cell?_setCell_other _ _ _ _ (by simp)]; exact h3
theorem TokB.putS {p : Nat} {k n : Int} {S S' : ByteArray} {a : Int} {Z : World} (h : TokB p k n S a Z) : TokB p k n S' a (Z.setCell ⟨p, 2, none⟩ (.string S')) := by
  obtain ⟨h0, h1, h2, h3, h4⟩ := h
  refine ⟨?_, ?_, World.cell?_setCell_same' _ _ _ (by rw [h2]; rfl), ?_, fun j => by simpa using h4 j⟩
  · rw [World.cell?_setCell_other _ _ _ _ (by simp)]; exact h0
  · rw [World.cell?_setCell_other _ _ _ _ (by simp)]; exact h1
  · rw [World.cell?_setCell_other _ _ _ _ (by simp)]; exact h3
/-- written whole -/
def Pl.four (p : Nat) (k n : Int) (S : ByteArray) (a : Int) (Z : World) : World := (((Z.setCell ⟨p, 0, none⟩ (.int .i64 k)).setCell ⟨p, 1, none⟩ (.int .i64 n)).setCell ⟨p, 2, none⟩ (.string S)).setCell ⟨p, 3, none⟩ (.int .i64 a)
theorem TokB.four {p : Nat} {k n k' n' : Int} {S S' : ByteArray} {a a' : Int} {Z : World} (h : TokB p k' n' S' a' Z) : TokB p k n S a (Pl.four p k n S a Z) ∧ Fr (fun q => q = p) Z (Pl.four p k n S a Z) := by
  have h1 : TokB p k n' S' a' (Z.setCell ⟨p, 0, none⟩ (.int .i64 k)) := by
    obtain ⟨h0, h1, h2, h3, h4⟩ := h
    refine ⟨World.cell?_setCell_same' _ _ _ (by rw [h0]; rfl), ?_, ?_, ?_, fun j => by simpa using h4 j⟩
    · rw [World.cell?_setCell_other _ _ _ _ (by simp)]; exact h1
    · rw [World.cell?_setCell_other _ _ _ _ (by simp)]; exact h2
    · rw [World.cell?_setCell_other _ _ _ _ (by simp)]; exact h3
  have h2 : TokB p k n S a' _ := (h1.putN (n' := n)).putS (S' := S)
  refine ⟨?_, ?_⟩
  · obtain ⟨h0, h1, h2, h3, h4⟩ := h2
    refine ⟨?_, ?_, ?_, World.cell?_setCell_same' _ _ _ (by rw [h3]; rfl), fun j => by simpa [Pl.four] using h4 j⟩
    · unfold Pl.four; rw [World.cell?_setCell_other _ _ _ _ (by simp)]; exact h0
    · unfold Pl.four; rw [World.cell?_setCell_other _ _ _ _ (by simp)]; exact h1
    · unfold Pl.four; rw [World.cell?_setCell_other _ _ _ _ (by simp)]; exact h2
  · exact (((Fr.setCell (fun q => q = p) Z ⟨p, 0, none⟩ _ rfl).trans (Fr.setCell (fun q => q = p) _ ⟨p, 1, none⟩ _ rfl)).trans (Fr.setCell (fun q => q = p) _ ⟨p, 2, none⟩ _ rfl)).trans (Fr.setCell (fun q => q = p) _ ⟨p, 3, none⟩ _ rfl)
/-- from the block's birth on -/
theorem fr_born {W Z Z' : World} {p : Nat} (h : Fr (fun _ => False) W Z) (k : Fr (fun q => q = p) Z Z') (hp : W.heap.size ≤ p) : Fr (fun _ => False) W Z' := h.trans' k (fun i q => .inr (by omega))
set_option maxHeartbeats 4000000 in
set_option maxRecDepth 100000 in
theorem word_any (v : Value) (L : List UInt8) (a : Nat) (ha : a < L.length) (hL : L.length < 1000000) (W : World) (hv : RdB v L W) :
    Calls Try.prog 56 #[v, .int .i64 (a : Int)] W (WordOut (Pl.word7 L a) a W) := by
  have hb : L[a]? = some L[a] := List.getElem?_eq_getElem ha
  obtain ⟨ao, cap, rfl, hcap, hrd⟩ := id hv
  obtain ⟨g, o, rfl, hg, hcell⟩ := hrd.resolve_left (fun q => by rw [q] at ha; simp at ha)
  have c0 := byte_cell (hcell a _ hb)
  have c255 := L[a].toNat_lt
  have hbd := Pl.take7_bd L (a + 1) (by omega)
  have CT := fun Z (hz : RdB (.slice (some ⟨g, o, none⟩) L.length cap) L Z) => take_any _ L (a + 1) (by omega) hL Z hz
  obtain ⟨R, hR⟩ : ∃ R, R = Pl.word7 L a := ⟨_, rfl⟩
  rw [← hR]
  unfold Pl.word7 at hR
  rw [hb] at hR
  obtain ⟨T, hT⟩ : ∃ T, T = Pl.take7 L (a + 1) := ⟨_, rfl⟩
  rw [← hT] at hR CT hbd
  obtain ⟨n, nx, e⟩ := T
  change ∀ Z (hz : RdB (.slice (some ⟨g, o, none⟩) L.length cap) L Z), Calls Try.prog 72 #[.slice (some ⟨g, o, none⟩) L.length cap, .int .i64 ((a + 1 : Nat) : Int)] Z fun x w' => x = .returned (.tuple #[.int .i64 n, .int .i64 nx, .int .i64 e]) ∧ Grown Z w' at CT
  change e = 0 → 0 ≤ n ∧ n < 34359738368 ∧ ((a + 1 : Nat) : Int) < nx ∧ nx ≤ L.length at hbd
  obtain ⟨M, hM⟩ : ∃ M, M = L.length := ⟨_, rfl⟩
  obtain ⟨c, hc⟩ : ∃ c, c = L[a].toNat := ⟨_, rfl⟩
  change R = Pl.wordB L a L[a].toNat (n, nx, e) at hR
  rw [← hc] at hR c0 c255
  have HV := Lib.hid hv
  rw [← hM] at ha hcap hL CT hbd ⊢
  have CTH := Lib.hid CT
  have HM := Lib.hid hM
  have HR := Lib.hid hR
  have HBD := Lib.hid hbd
  have haI : (a : Int) < (M : Int) := by omega
  clear hcell hrd hv hR hc hb hM hT hbd CT
  have WIN : ∀ (E : Int) (k n : Int) (s : List UInt8) (nxx : Int) (Z : World), R.1 = E → (E = 0 → Pl.tokv k n s (a : Int) = Pl.tokv R.2.1.1 R.2.1.2.1 R.2.1.2.2 (a : Int) ∧ nxx = (R.2.2 : Int)) → Fr (fun _ => False) W Z → WordOut R a W (.returned (.tuple #[Pl.tokv k n s (a : Int), .int .i64 nxx, .int .i64 E])) Z := fun E k n s nxx Z h1 h2 h3 => ⟨k, n, s, nxx, by rw [h1], fun h => h2 (by rw [← h1]; exact h), h3⟩
  have WINH := Lib.hid WIN
  clear WIN
  have cases : (c < 1 ∨ 12 < c) ∨ (7 ≤ c ∧ c ≤ 12) ∨ (c = 1 ∨ c = 2) ∨ (3 ≤ c ∧ c ≤ 6) := by omega
  rcases cases with hcc | hcc | hcc | hcc
  · have hR0 : R.1 = 3 := by rw [HR.out]; unfold Pl.wordB; rw [if_pos hcc]
    have HR0 := Lib.hid hR0
    clear HR HM CTH HBD HV hR0
    have hcI : (c : Int) < 1 ∨ (¬ (c : Int) < 1 ∧ 12 < (c : Int)) := by omega
    clear hcc
    rcases hcI with h | ⟨h, h'⟩
    all_goals
      go_enter Try.func56, Try.ntmps56
      go_wp2_with fail
      refine bodyPost_ret (v := .tuple #[Pl.tokv c 0 [] a, .int .i64 0, .int .i64 3]) (by simp [results, Try.results56, go_sem, Pl.tokv]; rfl) rfl (WINH.out 3 _ _ _ 0 _ HR0.out (fun q => by omega) (Fr.alloc _ _ _))
  · obtain ⟨h7, h12⟩ := hcc
    have hR0 : R = (0, ((c : Int), 0, []), a + 1) := by rw [HR.out]; unfold Pl.wordB; rw [if_neg (by omega), if_neg (by omega), if_neg (by omega)]
    have HR0 := Lib.hid hR0
    obtain ⟨v2, hs2, hr2⟩ := slice30 HV.out (a + 1) (a + 1) (by omega) (by have := HM.out; omega)
    rw [← HM.out, show ((a + 1 : Nat) : Int) = (a : Int) + 1 by omega] at hs2
    rw [Nat.sub_self, List.take_zero] at hr2
    have kc : ∀ Z, Fr (fun _ => False) W Z → (convert 30 9 v2).run Try.prog Z = .ok (.string ⟨#[]⟩) Z := fun Z hz => conv30 (L := []) (hr2.fr0 hz)
    have kc1 := kc _ (Fr.alloc (fun _ => False) W (.cells #[.int .i64 (c : Int), .int .i64 0, .string ⟨#[]⟩, .int .i64 (a : Int)] 48))
    have NB := fun Z => numbered_any (c : Int) Z
    rw [decide_eq_false (show ¬ ((c : Int) = 1 ∨ (c : Int) = 2) by omega)] at NB
    have LB := fun Z => lettered_any (c : Int) Z
    rw [decide_eq_false (show ¬ (3 ≤ (c : Int) ∧ (c : Int) ≤ 6) by omega)] at LB
    have MB := fun Z => tmay_any (c : Int) 0 [] (a : Int) (by omega) (by omega) (by decide) Z
    rw [show Pl.tokMay (c : Int) 0 [] = true by
      unfold Pl.tokMay
      rw [if_neg (by omega), if_neg (by omega), if_neg (by omega), if_neg (by omega), if_neg (by omega), if_neg (by omega)]
      exact decide_eq_true ⟨by omega, by omega, rfl⟩] at MB
    unfold Pl.tokv at MB
    rw [show Pl.tx [] = ⟨#[]⟩ from rfl] at MB
    have NBH := Lib.hid NB
    have LBH := Lib.hid LB
    have MBH := Lib.hid MB
    have hcI : 7 ≤ (c : Int) := by omega
    have hcJ : (c : Int) ≤ 12 := by omega
    have hsub : (M : Int) - ((a : Int) + 1) = (M : Int) - ((a : Int) + 1) := rfl
    clear NB LB MB HR HM CTH HBD hR0 hr2 kc hsub
    go_enter Try.func56, Try.ntmps56
    go_wp2_with fail
    refine (NBH.out _).mono ?_
    rintro x w2 ⟨rfl, rfl⟩
    go_wp2_with fail
    refine (LBH.out _).mono ?_
    rintro x w2 ⟨rfl, rfl⟩
    go_wp2_with fail
    refine (NBH.out _).mono ?_
    rintro x w2 ⟨rfl, rfl⟩
    go_wp2_with fail
    refine (MBH.out _).mono ?_
    rintro x w2 ⟨rfl, f2⟩
    obtain ⟨t0, t1, t2, t3, t4⟩ := (TokB.new W (c : Int) 0 ⟨#[]⟩ (a : Int)).fr f2 (fun f => f)
    have F2 := Lib.hid ((Fr.alloc (fun _ => False) W _).trans f2)
    have t40 := t4 0
    have t41 := t4 1
    have t42 := t4 2
    have t43 := t4 3
    obtain ⟨q4, f4⟩ := TokB.four (k := (c : Int)) (n := 0) (S := ⟨#[]⟩) (a := (a : Int)) ⟨t0, t1, t2, t3, t4⟩
    unfold Pl.four at q4 f4
    clear f2 MBH NBH LBH t4
    go_wp2_with fail
    revert q4 f4
    generalize ((((w2.setCell { block := W.heap.size, off := 0 } (Value.int IntKind.i64 (c : Int))).setCell { block := W.heap.size, off := 1 } (Value.int IntKind.i64 0)).setCell { block := W.heap.size, off := 2 } (Value.string { data := #[] })).setCell { block := W.heap.size, off := 3 } (Value.int IntKind.i64 (a : Int))) = Z'
    rintro ⟨z0, z1, z2, z3, z4⟩ f4
    refine bodyPost_ret (v := .tuple #[Pl.tokv c 0 [] a, .int .i64 ((a : Int) + 1), .int .i64 0]) (by simp [results, Try.results56, go_sem, Pl.tokv, z0, z1, z2, z3]; rfl) rfl (WINH.out 0 _ _ _ _ _ (by rw [HR0.out]) (fun q => ⟨by rw [HR0.out], by rw [HR0.out]; rfl⟩) (fr_born F2.out f4 (Nat.le_refl _)))
  · have ha1 : a + 1 ≤ M := by omega
    have NB := fun Z => numbered_any (c : Int) Z
    rw [decide_eq_true (show (c : Int) = 1 ∨ (c : Int) = 2 by omega)] at NB
    have NBH := Lib.hid NB
    have hcI : 1 ≤ (c : Int) := by omega
    have hcJ : (c : Int) ≤ 12 := by omega
    have HCC := Lib.hid hcc
    have CT1 : ∀ Z, Fr (fun _ => False) W Z → Calls Try.prog 72 #[.slice (some ⟨g, o, none⟩) M cap, .int .i64 ((a : Int) + 1)] Z fun x w' => x = .returned (.tuple #[.int .i64 n, .int .i64 nx, .int .i64 e]) ∧ Grown Z w' := fun Z hz => by
      have := CTH.out Z (by have := HV.out.fr0 hz; rw [← HM.out] at this; exact this)
      rw [show ((a + 1 : Nat) : Int) = (a : Int) + 1 by omega] at this
      exact this
    have CT1H := Lib.hid CT1
    clear NB CT1 CTH hcc
    by_cases he : e = 0
    · subst he
      obtain ⟨n0, n1, x0, x1⟩ := HBD.out rfl
      obtain ⟨U, hU⟩ : ∃ U, U = Pl.unf n := ⟨_, rfl⟩
      have u0 : -34359738368 ≤ U ∧ U ≤ 34359738368 := by rw [hU]; unfold Pl.unf; split <;> omega
      have MB := fun Z => tmay_any (c : Int) U [] (a : Int) (by omega) (by omega) (by decide) Z
      obtain ⟨m, hm⟩ : ∃ m, m = Pl.tokMay (c : Int) U [] := ⟨_, rfl⟩
      rw [← hm] at MB
      unfold Pl.tokv at MB
      rw [show Pl.tx [] = ⟨#[]⟩ from rfl] at MB
      have MBH := Lib.hid MB
      have hR1 : R = if m = false then (3, (0, 0, []), 0) else (0, ((c : Int), U, []), nx.toNat) := by
        rw [HR.out, hm, hU]; unfold Pl.wordB
        rw [if_neg (by have := HCC.out; omega), if_pos (by have := HCC.out; omega), if_neg (show ¬ (0 : Int) ≠ 0 by omega)]
      have HR1 := Lib.hid hR1
      have HX := Lib.hid (show 0 ≤ nx by omega)
      clear MB hm HR HBD hR1 x0 x1 HM
      have key : (n % 2 = 1 ∧ (-n).tdiv 2 - 1 = U) ∨ (¬ n % 2 = 1 ∧ n / 2 = U) := by
        rw [hU]; unfold Pl.unf
        rw [Int.neg_tdiv, Int.tdiv_eq_ediv_of_nonneg n0]
        split <;> omega
      clear hU
      rcases key with ⟨k1, k2⟩ | ⟨k1, k2⟩
      · have k1b : (n % 2 == 1) = true := by rw [k1]; rfl
        go_enter Try.func56, Try.ntmps56
        go_wp2_with fail
        refine (NBH.out _).mono ?_
        rintro x w2 ⟨rfl, rfl⟩
        go_wp2_with fail
        refine (CT1H.out _ (Fr.alloc _ _ _)).mono ?_
        rintro x w2 ⟨rfl, g2⟩
        have f2 := Fr.of_grown (fun _ => False) g2
        obtain ⟨t0, t1, t2, t3, t4⟩ := (TokB.new W (c : Int) 0 ⟨#[]⟩ (a : Int)).fr f2 (fun f => f)
        have F2 := Lib.hid ((Fr.alloc (fun _ => False) W _).trans f2)
        have T4 := Lib.hid (⟨t0, t1, t2, t3, t4⟩ : TokB W.heap.size (c : Int) 0 ⟨#[]⟩ (a : Int) w2)
        have t40 := t4 0
        have t41 := t4 1
        have t42 := t4 2
        have t43 := t4 3
        clear g2 f2 t4
        go_wp2_with fail
        refine (NBH.out _).mono ?_
        rintro x w3 ⟨rfl, rfl⟩
        go_wp2_with fail
        rw [show wrap64 (wrap64 (-n.tdiv 2) - 1) = U by
          rw [← k2, Int.neg_tdiv, Int.tdiv_eq_ediv_of_nonneg n0]
          unfold wrap64
          omega]
        have q5 := TokB.putN (n' := U) (TokB.putN (n' := n / 2) T4.out)
        have f5 := (Fr.setCell (fun q => q = W.heap.size) w2 ⟨W.heap.size, 1, none⟩ (.int .i64 (n / 2)) rfl).trans (Fr.setCell (fun q => q = W.heap.size) _ ⟨W.heap.size, 1, none⟩ (.int .i64 U) rfl)
        clear t0 t1 t2 t3 t40 t41 t42 t43
        revert q5 f5
        generalize ((w2.setCell { block := W.heap.size, off := 1 } (Value.int IntKind.i64 (n / 2))).setCell { block := W.heap.size, off := 1 } (Value.int IntKind.i64 U)) = w5
        intro q5 f5
        have F5 := Lib.hid (fr_born F2.out f5 (Nat.le_refl _))
        have Q5 := Lib.hid q5
        clear q5 f5
        refine (MBH.out _).mono ?_
        rintro x w6 ⟨rfl, f6⟩
        obtain ⟨t0, t1, t2, t3, t4⟩ := Q5.out.fr f6 (fun f => f)
        have F6 := Lib.hid (F5.out.trans f6)
        have t40 := t4 0
        have t41 := t4 1
        have t42 := t4 2
        have t43 := t4 3
        obtain ⟨q4, f4⟩ := TokB.four (k := (c : Int)) (n := U) (S := ⟨#[]⟩) (a := (a : Int)) ⟨t0, t1, t2, t3, t4⟩
        unfold Pl.four at q4 f4
        clear f6 t4
        rcases m with _ | _
        · go_wp2_with fail
          revert q4 f4
          generalize ((((w6.setCell { block := W.heap.size, off := 0 } (Value.int IntKind.i64 (c : Int))).setCell { block := W.heap.size, off := 1 } (Value.int IntKind.i64 U)).setCell { block := W.heap.size, off := 2 } (Value.string { data := #[] })).setCell { block := W.heap.size, off := 3 } (Value.int IntKind.i64 (a : Int))) = Z'
          rintro ⟨z0, z1, z2, z3, z4⟩ f4
          refine bodyPost_ret (v := .tuple #[Pl.tokv c U [] a, .int .i64 0, .int .i64 3]) (by simp [results, Try.results56, go_sem, Pl.tokv, z0, z1, z2, z3]; rfl) rfl (WINH.out 3 _ _ _ _ _ (by rw [HR1.out]; rfl) (fun q => by omega) (fr_born F6.out f4 (Nat.le_refl _)))
        · go_wp2_with fail
          revert q4 f4
          generalize ((((w6.setCell { block := W.heap.size, off := 0 } (Value.int IntKind.i64 (c : Int))).setCell { block := W.heap.size, off := 1 } (Value.int IntKind.i64 U)).setCell { block := W.heap.size, off := 2 } (Value.string { data := #[] })).setCell { block := W.heap.size, off := 3 } (Value.int IntKind.i64 (a : Int))) = Z'
          rintro ⟨z0, z1, z2, z3, z4⟩ f4
          refine bodyPost_ret (v := .tuple #[Pl.tokv c U [] a, .int .i64 nx, .int .i64 0]) (by simp [results, Try.results56, go_sem, Pl.tokv, z0, z1, z2, z3]; rfl) rfl (WINH.out 0 _ _ _ _ _ (by rw [HR1.out]; rfl) (fun q => ⟨by rw [HR1.out]; rfl, by rw [HR1.out]; exact (Int.toNat_of_nonneg HX.out).symm⟩) (fr_born F6.out f4 (Nat.le_refl _)))
      · have k1b : (n % 2 == 1) = false := beq_eq_false_iff_ne.2 k1
        go_enter Try.func56, Try.ntmps56
        go_wp2_with fail
        refine (NBH.out _).mono ?_
        rintro x w2 ⟨rfl, rfl⟩
        go_wp2_with fail
        refine (CT1H.out _ (Fr.alloc _ _ _)).mono ?_
        rintro x w2 ⟨rfl, g2⟩
        have f2 := Fr.of_grown (fun _ => False) g2
        obtain ⟨t0, t1, t2, t3, t4⟩ := (TokB.new W (c : Int) 0 ⟨#[]⟩ (a : Int)).fr f2 (fun f => f)
        have F2 := Lib.hid ((Fr.alloc (fun _ => False) W _).trans f2)
        have T4 := Lib.hid (⟨t0, t1, t2, t3, t4⟩ : TokB W.heap.size (c : Int) 0 ⟨#[]⟩ (a : Int) w2)
        have t40 := t4 0
        have t41 := t4 1
        have t42 := t4 2
        have t43 := t4 3
        clear g2 f2 t4
        go_wp2_with fail
        refine (NBH.out _).mono ?_
        rintro x w3 ⟨rfl, rfl⟩
        go_wp2_with fail
        rw [k2]
        have q5 := TokB.putN (n' := U) T4.out
        have f5 := Fr.setCell (fun q => q = W.heap.size) w2 ⟨W.heap.size, 1, none⟩ (.int .i64 U) rfl
        clear t0 t1 t2 t3 t40 t41 t42 t43
        revert q5 f5
        generalize (w2.setCell { block := W.heap.size, off := 1 } (Value.int IntKind.i64 U)) = w5
        intro q5 f5
        have F5 := Lib.hid (fr_born F2.out f5 (Nat.le_refl _))
        have Q5 := Lib.hid q5
        clear q5 f5
        refine (MBH.out _).mono ?_
        rintro x w6 ⟨rfl, f6⟩
        obtain ⟨t0, t1, t2, t3, t4⟩ := Q5.out.fr f6 (fun f => f)
        have F6 := Lib.hid (F5.out.trans f6)
        have t40 := t4 0
        have t41 := t4 1
        have t42 := t4 2
        have t43 := t4 3
        obtain ⟨q4, f4⟩ := TokB.four (k := (c : Int)) (n := U) (S := ⟨#[]⟩) (a := (a : Int)) ⟨t0, t1, t2, t3, t4⟩
        unfold Pl.four at q4 f4
        clear f6 t4
        rcases m with _ | _
        · go_wp2_with fail
          revert q4 f4
          generalize ((((w6.setCell { block := W.heap.size, off := 0 } (Value.int IntKind.i64 (c : Int))).setCell { block := W.heap.size, off := 1 } (Value.int IntKind.i64 U)).setCell { block := W.heap.size, off := 2 } (Value.string { data := #[] })).setCell { block := W.heap.size, off := 3 } (Value.int IntKind.i64 (a : Int))) = Z'
          rintro ⟨z0, z1, z2, z3, z4⟩ f4
          refine bodyPost_ret (v := .tuple #[Pl.tokv c U [] a, .int .i64 0, .int .i64 3]) (by simp [results, Try.results56, go_sem, Pl.tokv, z0, z1, z2, z3]; rfl) rfl (WINH.out 3 _ _ _ _ _ (by rw [HR1.out]; rfl) (fun q => by omega) (fr_born F6.out f4 (Nat.le_refl _)))
        · go_wp2_with fail
          revert q4 f4
          generalize ((((w6.setCell { block := W.heap.size, off := 0 } (Value.int IntKind.i64 (c : Int))).setCell { block := W.heap.size, off := 1 } (Value.int IntKind.i64 U)).setCell { block := W.heap.size, off := 2 } (Value.string { data := #[] })).setCell { block := W.heap.size, off := 3 } (Value.int IntKind.i64 (a : Int))) = Z'
          rintro ⟨z0, z1, z2, z3, z4⟩ f4
          refine bodyPost_ret (v := .tuple #[Pl.tokv c U [] a, .int .i64 nx, .int .i64 0]) (by simp [results, Try.results56, go_sem, Pl.tokv, z0, z1, z2, z3]; rfl) rfl (WINH.out 0 _ _ _ _ _ (by rw [HR1.out]; rfl) (fun q => ⟨by rw [HR1.out]; rfl, by rw [HR1.out]; exact (Int.toNat_of_nonneg HX.out).symm⟩) (fr_born F6.out f4 (Nat.le_refl _)))
    · have hR1 : R.1 = e := by
        rw [HR.out]; unfold Pl.wordB
        rw [if_neg (by have := HCC.out; omega), if_pos (by have := HCC.out; omega), if_pos he]
      have HR1 := Lib.hid hR1
      have heb : (e != 0) = true := bne_iff_ne.2 he
      have HE := Lib.hid he
      clear he HR HBD hR1 HM
      go_enter Try.func56, Try.ntmps56
      go_wp2_with fail
      refine (NBH.out _).mono ?_
      rintro x w2 ⟨rfl, rfl⟩
      go_wp2_with fail
      refine (CT1H.out _ (Fr.alloc _ _ _)).mono ?_
      rintro x w2 ⟨rfl, g2⟩
      have f2 := Fr.of_grown (fun _ => False) g2
      obtain ⟨t0, t1, t2, t3, t4⟩ := (TokB.new W (c : Int) 0 ⟨#[]⟩ (a : Int)).fr f2 (fun f => f)
      have F2 := Lib.hid ((Fr.alloc (fun _ => False) W _).trans f2)
      have t40 := t4 0
      have t41 := t4 1
      have t42 := t4 2
      have t43 := t4 3
      obtain ⟨q4, f4⟩ := TokB.four (k := (c : Int)) (n := 0) (S := ⟨#[]⟩) (a := (a : Int)) ⟨t0, t1, t2, t3, t4⟩
      unfold Pl.four at q4 f4
      clear g2 f2 t4
      go_wp2_with fail
      revert q4 f4
      generalize ((((w2.setCell { block := W.heap.size, off := 0 } (Value.int IntKind.i64 (c : Int))).setCell { block := W.heap.size, off := 1 } (Value.int IntKind.i64 0)).setCell { block := W.heap.size, off := 2 } (Value.string { data := #[] })).setCell { block := W.heap.size, off := 3 } (Value.int IntKind.i64 (a : Int))) = Z'
      rintro ⟨z0, z1, z2, z3, z4⟩ f4
      refine bodyPost_ret (v := .tuple #[Pl.tokv c 0 [] a, .int .i64 0, .int .i64 e]) (by simp [results, Try.results56, go_sem, Pl.tokv, z0, z1, z2, z3]; rfl) rfl (WINH.out e _ _ _ _ _ HR1.out (fun q => absurd q HE.out) (fr_born F2.out f4 (Nat.le_refl _)))
  · have ha1 : a + 1 ≤ M := by omega
    have NB := fun Z => numbered_any (c : Int) Z
    rw [decide_eq_false (show ¬ ((c : Int) = 1 ∨ (c : Int) = 2) by omega)] at NB
    have NBH := Lib.hid NB
    have LB := fun Z => lettered_any (c : Int) Z
    rw [decide_eq_true (show 3 ≤ (c : Int) ∧ (c : Int) ≤ 6 by omega)] at LB
    have LBH := Lib.hid LB
    have hcI : 1 ≤ (c : Int) := by omega
    have hcJ : (c : Int) ≤ 12 := by omega
    have HCC := Lib.hid hcc
    have CT1 : ∀ Z, Fr (fun _ => False) W Z → Calls Try.prog 72 #[.slice (some ⟨g, o, none⟩) M cap, .int .i64 ((a : Int) + 1)] Z fun x w' => x = .returned (.tuple #[.int .i64 n, .int .i64 nx, .int .i64 e]) ∧ Grown Z w' := fun Z hz => by
      have := CTH.out Z (by have := HV.out.fr0 hz; rw [← HM.out] at this; exact this)
      rw [show ((a + 1 : Nat) : Int) = (a : Int) + 1 by omega] at this
      exact this
    have CT1H := Lib.hid CT1
    clear NB LB CT1 CTH hcc
    by_cases he : e = 0
    · subst he
      obtain ⟨n0, n1, x0, x1⟩ := HBD.out rfl
      have hR0 := HR.out
      unfold Pl.wordB at hR0
      rw [if_neg (by have := HCC.out; omega), if_neg (by have := HCC.out; omega), if_pos (by have := HCC.out; omega), if_neg (show ¬ (0 : Int) ≠ 0 by omega)] at hR0
      change R = if 4000 < n then ((3 : Int), ((0 : Int), (0 : Int), ([] : List UInt8)), (0 : Nat)) else if (L.length : Int) - nx < n then (4, (0, 0, []), 0) else if Pl.tokMay c 0 ((L.drop nx.toNat).take n.toNat) = false then (3, (0, 0, []), 0) else (0, ((c : Int), 0, (L.drop nx.toNat).take n.toNat), nx.toNat + n.toNat) at hR0
      rw [← HM.out] at hR0
      have x2 : 0 ≤ nx := by omega
      have HX := Lib.hid (show 0 ≤ nx ∧ 0 ≤ n from ⟨x2, n0⟩)
      clear HR x0
      by_cases h4 : 4000 < n
      · rw [if_pos h4] at hR0
        have HR1 := Lib.hid hR0
        clear hR0 HM HBD
        go_enter Try.func56, Try.ntmps56
        go_wp2_with fail
        refine (NBH.out _).mono ?_
        rintro x w2 ⟨rfl, rfl⟩
        go_wp2_with fail
        refine (LBH.out _).mono ?_
        rintro x w2 ⟨rfl, rfl⟩
        go_wp2_with fail
        refine (CT1H.out _ (Fr.alloc _ _ _)).mono ?_
        rintro x w2 ⟨rfl, g2⟩
        have f2 := Fr.of_grown (fun _ => False) g2
        obtain ⟨t0, t1, t2, t3, t4⟩ := (TokB.new W (c : Int) 0 ⟨#[]⟩ (a : Int)).fr f2 (fun f => f)
        have F2 := Lib.hid ((Fr.alloc (fun _ => False) W _).trans f2)
        have T4 := Lib.hid (⟨t0, t1, t2, t3, t4⟩ : TokB W.heap.size (c : Int) 0 ⟨#[]⟩ (a : Int) w2)
        have t40 := t4 0
        have t41 := t4 1
        have t42 := t4 2
        have t43 := t4 3
        clear g2 f2 t4
        go_wp2_with fail
        refine (NBH.out _).mono ?_
        rintro x w3 ⟨rfl, rfl⟩
        obtain ⟨t0, t1, t2, t3, t4⟩ := T4.out
        have FF := F2
        obtain ⟨q4, f4⟩ := TokB.four (k := (c : Int)) (n := 0) (S := { data := #[] }) (a := (a : Int)) ⟨t0, t1, t2, t3, t4⟩
        unfold Pl.four at q4 f4
        clear t4
        go_wp2_with fail
        revert q4 f4
        generalize ((((w2.setCell { block := W.heap.size, off := 0 } (Value.int IntKind.i64 (c : Int))).setCell { block := W.heap.size, off := 1 } (Value.int IntKind.i64 0)).setCell { block := W.heap.size, off := 2 } (Value.string { data := #[] })).setCell { block := W.heap.size, off := 3 } (Value.int IntKind.i64 (a : Int))) = Z'
        rintro ⟨z0, z1, z2, z3, z4⟩ f4
        refine bodyPost_ret (v := .tuple #[Pl.tokv c 0 [] a, .int .i64 0, .int .i64 3]) (by simp [results, Try.results56, go_sem, Pl.tokv, z0, z1, z2, z3]; rfl) rfl (WINH.out 3 _ _ _ _ _ (by rw [HR1.out]) (fun q => by omega) (fr_born FF.out f4 (Nat.le_refl _)))
      rw [if_neg h4] at hR0
      by_cases h5 : (M : Int) - nx < n
      · rw [if_pos h5] at hR0
        have HR1 := Lib.hid hR0
        clear hR0 HM HBD
        go_enter Try.func56, Try.ntmps56
        go_wp2_with fail
        refine (NBH.out _).mono ?_
        rintro x w2 ⟨rfl, rfl⟩
        go_wp2_with fail
        refine (LBH.out _).mono ?_
        rintro x w2 ⟨rfl, rfl⟩
        go_wp2_with fail
        refine (CT1H.out _ (Fr.alloc _ _ _)).mono ?_
        rintro x w2 ⟨rfl, g2⟩
        have f2 := Fr.of_grown (fun _ => False) g2
        obtain ⟨t0, t1, t2, t3, t4⟩ := (TokB.new W (c : Int) 0 ⟨#[]⟩ (a : Int)).fr f2 (fun f => f)
        have F2 := Lib.hid ((Fr.alloc (fun _ => False) W _).trans f2)
        have T4 := Lib.hid (⟨t0, t1, t2, t3, t4⟩ : TokB W.heap.size (c : Int) 0 ⟨#[]⟩ (a : Int) w2)
        have t40 := t4 0
        have t41 := t4 1
        have t42 := t4 2
        have t43 := t4 3
        clear g2 f2 t4
        go_wp2_with fail
        refine (NBH.out _).mono ?_
        rintro x w3 ⟨rfl, rfl⟩
        obtain ⟨t0, t1, t2, t3, t4⟩ := T4.out
        have FF := F2
        obtain ⟨q4, f4⟩ := TokB.four (k := (c : Int)) (n := 0) (S := { data := #[] }) (a := (a : Int)) ⟨t0, t1, t2, t3, t4⟩
        unfold Pl.four at q4 f4
        clear t4
        go_wp2_with fail
        revert q4 f4
        generalize ((((w2.setCell { block := W.heap.size, off := 0 } (Value.int IntKind.i64 (c : Int))).setCell { block := W.heap.size, off := 1 } (Value.int IntKind.i64 0)).setCell { block := W.heap.size, off := 2 } (Value.string { data := #[] })).setCell { block := W.heap.size, off := 3 } (Value.int IntKind.i64 (a : Int))) = Z'
        rintro ⟨z0, z1, z2, z3, z4⟩ f4
        refine bodyPost_ret (v := .tuple #[Pl.tokv c 0 [] a, .int .i64 0, .int .i64 4]) (by simp [results, Try.results56, go_sem, Pl.tokv, z0, z1, z2, z3]; rfl) rfl (WINH.out 4 _ _ _ _ _ (by rw [HR1.out]) (fun q => by omega) (fr_born FF.out f4 (Nat.le_refl _)))
      rw [if_neg h5] at hR0
      obtain ⟨v2, hs2, hr2⟩ := slice30 HV.out nx.toNat (nx.toNat + n.toNat) (by omega) (by have := HM.out; omega)
      rw [← HM.out, show ((nx.toNat + n.toNat : Nat) : Int) = nx + n by omega, show ((nx.toNat : Nat) : Int) = nx by omega] at hs2
      rw [show nx.toNat + n.toNat - nx.toNat = n.toNat by omega] at hr2
      obtain ⟨D, hD⟩ : ∃ D, D = (L.drop nx.toNat).take n.toNat := ⟨_, rfl⟩
      rw [← hD] at hr2 hR0
      have hDl : D.length ≤ 4000 := by rw [hD, List.length_take]; omega
      have HR2 := Lib.hid hr2
      have kc : ∀ Z, Fr (fun _ => False) W Z → (convert 30 9 v2).run Try.prog Z = .ok (.string (Pl.tx D)) Z := fun Z hz => conv30 (HR2.out.fr0 hz)
      have KC := Lib.hid kc
      have MB := fun Z => tmay_any (c : Int) 0 D (a : Int) (by omega) (by omega) (by have : (Pl.tx D).size = D.length := by { simp [Pl.tx, ByteArray.size] }; omega) Z
      obtain ⟨m, hm⟩ : ∃ m, m = Pl.tokMay (c : Int) 0 D := ⟨_, rfl⟩
      rw [← hm] at MB hR0
      unfold Pl.tokv at MB
      have MBH := Lib.hid MB
      have HR1 := Lib.hid hR0
      clear hR0 HM HBD hr2 kc MB hm hD hDl
      go_enter Try.func56, Try.ntmps56
      go_wp2_with fail
      refine (NBH.out _).mono ?_
      rintro x w2 ⟨rfl, rfl⟩
      go_wp2_with fail
      refine (LBH.out _).mono ?_
      rintro x w2 ⟨rfl, rfl⟩
      go_wp2_with fail
      refine (CT1H.out _ (Fr.alloc _ _ _)).mono ?_
      rintro x w2 ⟨rfl, g2⟩
      have f2 := Fr.of_grown (fun _ => False) g2
      obtain ⟨t0, t1, t2, t3, t4⟩ := (TokB.new W (c : Int) 0 ⟨#[]⟩ (a : Int)).fr f2 (fun f => f)
      have F2 := Lib.hid ((Fr.alloc (fun _ => False) W _).trans f2)
      have T4 := Lib.hid (⟨t0, t1, t2, t3, t4⟩ : TokB W.heap.size (c : Int) 0 ⟨#[]⟩ (a : Int) w2)
      have t40 := t4 0
      have t41 := t4 1
      have t42 := t4 2
      have t43 := t4 3
      have kc1 := KC.out w2 F2.out
      clear g2 f2 t4
      go_wp2_with fail
      refine (NBH.out _).mono ?_
      rintro x w3 ⟨rfl, rfl⟩
      go_wp2_with fail
      have q5 := TokB.putS (S' := Pl.tx D) T4.out
      have f5 := Fr.setCell (fun q => q = W.heap.size) w2 ⟨W.heap.size, 2, none⟩ (.string (Pl.tx D)) rfl
      clear t0 t1 t2 t3 t40 t41 t42 t43
      revert q5 f5
      generalize (w2.setCell { block := W.heap.size, off := 2 } (Value.string (Pl.tx D))) = w5
      intro q5 f5
      have F5 := Lib.hid (fr_born F2.out f5 (Nat.le_refl _))
      have Q5 := Lib.hid q5
      clear q5 f5
      refine (MBH.out _).mono ?_
      rintro x w6 ⟨rfl, f6⟩
      obtain ⟨t0, t1, t2, t3, t4⟩ := Q5.out.fr f6 (fun f => f)
      have FF := Lib.hid (F5.out.trans f6)
      have t40 := t4 0
      have t41 := t4 1
      have t42 := t4 2
      have t43 := t4 3
      rcases m with _ | _
      · obtain ⟨q4, f4⟩ := TokB.four (k := (c : Int)) (n := 0) (S := (Pl.tx D)) (a := (a : Int)) ⟨t0, t1, t2, t3, t4⟩
        unfold Pl.four at q4 f4
        clear t4
        go_wp2_with fail
        revert q4 f4
        generalize ((((w6.setCell { block := W.heap.size, off := 0 } (Value.int IntKind.i64 (c : Int))).setCell { block := W.heap.size, off := 1 } (Value.int IntKind.i64 0)).setCell { block := W.heap.size, off := 2 } (Value.string (Pl.tx D))).setCell { block := W.heap.size, off := 3 } (Value.int IntKind.i64 (a : Int))) = Z'
        rintro ⟨z0, z1, z2, z3, z4⟩ f4
        refine bodyPost_ret (v := .tuple #[Pl.tokv c 0 D a, .int .i64 0, .int .i64 3]) (by simp [results, Try.results56, go_sem, Pl.tokv, z0, z1, z2, z3]) rfl (WINH.out 3 _ _ _ _ _ (by rw [HR1.out]; rfl) (fun q => by omega) (fr_born FF.out f4 (Nat.le_refl _)))
      · obtain ⟨q4, f4⟩ := TokB.four (k := (c : Int)) (n := 0) (S := (Pl.tx D)) (a := (a : Int)) ⟨t0, t1, t2, t3, t4⟩
        unfold Pl.four at q4 f4
        clear t4
        go_wp2_with fail
        revert q4 f4
        generalize ((((w6.setCell { block := W.heap.size, off := 0 } (Value.int IntKind.i64 (c : Int))).setCell { block := W.heap.size, off := 1 } (Value.int IntKind.i64 0)).setCell { block := W.heap.size, off := 2 } (Value.string (Pl.tx D))).setCell { block := W.heap.size, off := 3 } (Value.int IntKind.i64 (a : Int))) = Z'
        rintro ⟨z0, z1, z2, z3, z4⟩ f4
        refine bodyPost_ret (v := .tuple #[Pl.tokv c 0 D a, .int .i64 (nx + n), .int .i64 0]) (by simp [results, Try.results56, go_sem, Pl.tokv, z0, z1, z2, z3]) rfl (WINH.out 0 _ _ _ _ _ (by rw [HR1.out]; rfl) (fun q => ⟨by rw [HR1.out]; rfl, by rw [HR1.out]; have := HX.out; show nx + n = ((nx.toNat + n.toNat : Nat) : Int); omega⟩) (fr_born FF.out f4 (Nat.le_refl _)))
    · have hR1 : R.1 = e := by
        rw [HR.out]; unfold Pl.wordB
        rw [if_neg (by have := HCC.out; omega), if_neg (by have := HCC.out; omega), if_pos (by have := HCC.out; omega), if_pos he]
      have HR1 := Lib.hid hR1
      have heb : (e != 0) = true := bne_iff_ne.2 he
      have HE := Lib.hid he
      clear he HR HBD hR1 HM
      go_enter Try.func56, Try.ntmps56
      go_wp2_with fail
      refine (NBH.out _).mono ?_
      rintro x w2 ⟨rfl, rfl⟩
      go_wp2_with fail
      refine (LBH.out _).mono ?_
      rintro x w2 ⟨rfl, rfl⟩
      go_wp2_with fail
      refine (CT1H.out _ (Fr.alloc _ _ _)).mono ?_
      rintro x w2 ⟨rfl, g2⟩
      have f2 := Fr.of_grown (fun _ => False) g2
      obtain ⟨t0, t1, t2, t3, t4⟩ := (TokB.new W (c : Int) 0 ⟨#[]⟩ (a : Int)).fr f2 (fun f => f)
      have F2 := Lib.hid ((Fr.alloc (fun _ => False) W _).trans f2)
      have t40 := t4 0
      have t41 := t4 1
      have t42 := t4 2
      have t43 := t4 3
      obtain ⟨q4, f4⟩ := TokB.four (k := (c : Int)) (n := 0) (S := ⟨#[]⟩) (a := (a : Int)) ⟨t0, t1, t2, t3, t4⟩
      unfold Pl.four at q4 f4
      clear g2 f2 t4
      go_wp2_with fail
      revert q4 f4
      generalize ((((w2.setCell { block := W.heap.size, off := 0 } (Value.int IntKind.i64 (c : Int))).setCell { block := W.heap.size, off := 1 } (Value.int IntKind.i64 0)).setCell { block := W.heap.size, off := 2 } (Value.string { data := #[] })).setCell { block := W.heap.size, off := 3 } (Value.int IntKind.i64 (a : Int))) = Z'
      rintro ⟨z0, z1, z2, z3, z4⟩ f4
      refine bodyPost_ret (v := .tuple #[Pl.tokv c 0 [] a, .int .i64 0, .int .i64 e]) (by simp [results, Try.results56, go_sem, Pl.tokv, z0, z1, z2, z3]; rfl) rfl (WINH.out e _ _ _ _ _ HR1.out (fun q => absurd q HE.out) (fr_born F2.out f4 (Nat.le_refl _)))
end Go.Proofs.Ytpfkijjpophobaa
