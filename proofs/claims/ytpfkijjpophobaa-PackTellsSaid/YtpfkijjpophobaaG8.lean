/- pack.Is: the walk; words of any bytes. -/
import Derived.Test.YtpfkijjpophobaaG7
namespace Go.Proofs.Ytpfkijjpophobaa
set_option linter.unusedVariables false
open Go.RowKit

theorem slice30h {v : Value} {L : List UInt8} {W : World} (h : RdB v L W) (hi : Nat) (h2 : hi ≤ L.length) :
    ∃ v2, (∀ Z, (Instr.slice 30 v none (some (.int .i64 (hi : Int))) none).run Try.prog Z = .ok v2 Z) ∧ RdB v2 (L.take hi) W := by
  obtain ⟨v2, r, hr⟩ := slice30 h 0 hi (by omega) h2
  refine ⟨v2, fun Z => ?_, by simpa using hr⟩
  obtain ⟨ao, cap, rfl, hc, h⟩ := h
  rw [← r Z, run_slice_h (P := Try.prog) Z 30 ao L.length cap (by rw [Try.elem30]; exact Try.underlying30) .i64 (hi : Int) (by omega) (by omega), run_slice_lh (P := Try.prog) Z 30 ao L.length cap (by rw [Try.elem30]; exact Try.underlying30) .i64 .i64 ((0 : Nat) : Int) (hi : Int) (by omega) (by omega) (by omega)]
  rfl
theorem RdB.take {ao : Option Addr} {m cap : Nat} {L : List UInt8} {W : World} (h : RdB (.slice ao m cap) L W) (k : Nat) (hk : k ≤ L.length) : RdB (.slice ao k cap) (L.take k) W := by
  obtain ⟨ao2, cap2, hv, hc, h⟩ := h
  injection hv with q1 q2 q3
  subst q1 q2 q3
  have hl : (L.take k).length = k := by rw [List.length_take]; omega
  refine ⟨ao, cap, by rw [hl], by omega, ?_⟩
  rcases h with rfl | ⟨g, o, rfl, hg, h⟩
  · exact .inl (by simp)
  · refine .inr ⟨g, o, rfl, hg, fun j b hb => h j b ?_⟩
    have hj := (List.getElem?_eq_some_iff.1 hb).1
    rw [List.getElem?_take, if_pos (by omega)] at hb
    exact hb
def Pl.isHd (L : List UInt8) : Bool := decide (L.take 4 = Pl.hd)
theorem Pl.tx_inj {a b : List UInt8} (h : Pl.tx a = Pl.tx b) : a = b := by
  have : (Pl.tx a).data.toList = (Pl.tx b).data.toList := by rw [h]
  simpa [Pl.tx] using this
theorem Pl.tx_toList (a : List UInt8) : (Pl.tx a).toList = a := by
  rw [ByteArray.toList_eq]
  exact Pl.tx_list a
set_option maxRecDepth 100000 in
theorem is_any (v : Value) (L : List UInt8) (hL : L.length < 1000000) (W : World) (hv : RdB v L W) :
    Calls Try.prog 26 #[v] W fun e w' => e = .returned (.bool (Pl.isHd L)) ∧ Fr (fun _ => False) W w' := by
  have CH := Lib.hid (head_any W)
  obtain ⟨m, hm⟩ : ∃ m, m = Pl.isHd L := ⟨_, rfl⟩
  rw [← hm]
  have HV := Lib.hid hv
  obtain ⟨ao, cap, rfl, hcap, hrd⟩ := hv
  obtain ⟨M, hM⟩ : ∃ M, M = L.length := ⟨_, rfl⟩
  have HM := Lib.hid hM
  have HMM := Lib.hid hm
  rw [← hM] at hcap hL ⊢
  clear hrd hM hm
  by_cases h4 : M < 4
  · have hmf : m = false := by
      rw [HMM.out]
      exact decide_eq_false (fun q => by have := congrArg List.length q; rw [List.length_take] at this; rw [show Pl.hd.length = 4 from rfl] at this; have := HM.out; omega)
    subst hmf
    have hI : decide ((4 : Int) ≤ (M : Int)) = false := decide_eq_false (by omega)
    clear h4
    go_enter Try.func26, Try.ntmps26
    go_wp2_with fail
    refine (CH.out).mono ?_
    rintro e w1 ⟨v1, rfl, o1, f1⟩
    obtain ⟨ao1, cap1, rfl, hc1, _⟩ := o1.rd
    have F1 := Lib.hid f1
    rw [show Pl.hd.length = 4 from rfl] at hc1 ⊢
    clear f1 o1
    go_wp2_with fail
    go_region
    go_wp2_with fail
    go_ret
    exact ⟨rfl, F1.out⟩
  · have hI : decide ((4 : Int) ≤ (M : Int)) = true := decide_eq_true (by omega)
    have hcI : (4 : Int) ≤ (cap : Int) := by omega
    have HR2 := Lib.hid (HV.out.take 4 (by have := HM.out; omega))
    go_enter Try.func26, Try.ntmps26
    go_wp2_with fail
    refine (CH.out).mono ?_
    rintro e w1 ⟨v1, rfl, o1, f1⟩
    have k1 := conv30 (W := w1.drew) (HR2.out.fr0 f1.drew)
    have k2 := conv30 (W := w1.drew) (o1.rd.fr0 (Fr.drew (Fr.refl _ _)))
    obtain ⟨ao1, cap1, rfl, hc1, _⟩ := o1.rd
    have F1 := Lib.hid f1
    change (convert 30 9 (.slice ao1 4 cap1)).run Try.prog w1.drew = _ at k2
    obtain ⟨S1, hS1⟩ : ∃ S1, S1 = Pl.tx (L.take 4) := ⟨_, rfl⟩
    obtain ⟨S2, hS2⟩ : ∃ S2, S2 = Pl.tx Pl.hd := ⟨_, rfl⟩
    rw [← hS1] at k1
    rw [← hS2] at k2
    have HS := Lib.hid (And.intro hS1 hS2)
    clear hS1 hS2 h4
    rw [show Pl.hd.length = 4 from rfl] at hc1 ⊢
    clear f1 o1
    go_wp2_with fail
    go_region
    go_wp2_with fail
    go_ret
    refine ⟨ret_bool ?_, F1.out⟩
    rw [HS.out.1, HS.out.2, Pl.tx_toList, Pl.tx_toList, HMM.out]
    unfold Pl.isHd
    by_cases q : L.take 4 = Pl.hd
    · rw [decide_eq_true q]; exact beq_iff_eq.2 q
    · rw [decide_eq_false q]; exact beq_eq_false_iff_ne.2 q
/-- a word -/
structure Pl.Tok where
  k : Int
  n : Int
  s : List UInt8
  a : Int
def Pl.Tok.v (t : Pl.Tok) : Value := Pl.tokv t.k t.n t.s t.a
def Pl.Tok.cs (t : Pl.Tok) : List Value := [.int .i64 t.k, .int .i64 t.n, .string (Pl.tx t.s), .int .i64 t.a]
/-- the words from a place on, room for k: what is read, the place of the fault, the error -/
def Pl.toks (L : List UInt8) : Nat → Nat → List Pl.Tok × Nat × Int
  | 0, a => if L.length ≤ a then ([], 0, 0) else ([], a, 5)
  | k + 1, a => if L.length ≤ a then ([], 0, 0) else
    if (Pl.word7 L a).1 ≠ 0 then ([], a, (Pl.word7 L a).1) else
    (⟨(Pl.word7 L a).2.1.1, (Pl.word7 L a).2.1.2.1, (Pl.word7 L a).2.1.2.2, a⟩ :: (Pl.toks L k (Pl.word7 L a).2.2).1, (Pl.toks L k (Pl.word7 L a).2.2).2)
theorem Pl.toks_end (L : List UInt8) (k a : Nat) (h : L.length ≤ a) : Pl.toks L k a = ([], 0, 0) := by
  cases k <;> unfold Pl.toks <;> rw [if_pos h]
theorem Pl.toks_room (L : List UInt8) (a : Nat) (h : a < L.length) : Pl.toks L 0 a = ([], a, 5) := by
  unfold Pl.toks; rw [if_neg (by omega)]
theorem Pl.toks_bad (L : List UInt8) (k a : Nat) (h : a < L.length) (e : (Pl.word7 L a).1 ≠ 0) : Pl.toks L (k + 1) a = ([], a, (Pl.word7 L a).1) := by
  rw [Pl.toks, if_neg (by omega), if_pos e]
theorem Pl.toks_ok (L : List UInt8) (k a : Nat) (h : a < L.length) (e : (Pl.word7 L a).1 = 0) : Pl.toks L (k + 1) a = (⟨(Pl.word7 L a).2.1.1, (Pl.word7 L a).2.1.2.1, (Pl.word7 L a).2.1.2.2, a⟩ :: (Pl.toks L k (Pl.word7 L a).2.2).1, (Pl.toks L k (Pl.word7 L a).2.2).2) := by
  rw [Pl.toks, if_neg (by omega), if_neg (by omega)]
/-- what pack.Take answers -/
def Pl.takeAll (L : List UInt8) : List Pl.Tok × Int × Int :=
  if Pl.isHd L = false then ([], 0, 3) else if 20000 < L.length then ([], 0, 5) else
  if (Pl.toks L 4000 4).2.2 = 0 then ((Pl.toks L 4000 4).1, 0, 0) else ([], (Pl.toks L 4000 4).2.1, (Pl.toks L 4000 4).2.2)
theorem Pl.word7_bd (L : List UInt8) (a : Nat) (ha : a < L.length) (h : (Pl.word7 L a).1 = 0) : a < (Pl.word7 L a).2.2 ∧ (Pl.word7 L a).2.2 ≤ L.length := by
  have hbd := Pl.take7_bd L (a + 1) (by omega)
  unfold Pl.word7 at h ⊢
  generalize Pl.take7 L (a + 1) = T at *
  generalize (L[a]?.getD 0).toNat = c at *
  unfold Pl.wordB at h ⊢
  split
  · rename_i h1; rw [if_pos h1] at h; simp at h
  · rename_i h1
    rw [if_neg h1] at h
    split
    · rename_i h2
      rw [if_pos h2] at h
      split
      · rename_i h3; rw [if_pos h3] at h; exact absurd h h3
      · rename_i h3
        rw [if_neg h3] at h
        have := hbd (by omega)
        split
        · rename_i h4; rw [if_pos h4] at h; simp at h
        · show a < T.2.1.toNat ∧ T.2.1.toNat ≤ _; omega
    · rename_i h2
      rw [if_neg h2] at h
      split
      · rename_i h3
        rw [if_pos h3] at h
        split
        · rename_i h4; rw [if_pos h4] at h; exact absurd h h4
        · rename_i h4
          rw [if_neg h4] at h
          have := hbd (by omega)
          split
          · rename_i h5; rw [if_pos h5] at h; simp at h
          · rename_i h5
            rw [if_neg h5] at h
            split
            · rename_i h6; rw [if_pos h6] at h; simp at h
            · rename_i h6
              rw [if_neg h6] at h
              split
              · rename_i h7; rw [if_pos h7] at h; simp at h
              · show a < T.2.1.toNat + T.1.toNat ∧ T.2.1.toNat + T.1.toNat ≤ _; omega
      · show a < a + 1 ∧ a + 1 ≤ _; omega
theorem Try.tokInfo : (Try.prog.info? 48).map (fun i => (i.zero, i.size, i.bytes)) = some (some (.agg #[.int .i64 0, .int .i64 0, .string ⟨#[]⟩, .int .i64 0]), 4, 40) := by kernel_rfl
end Go.Proofs.Ytpfkijjpophobaa
