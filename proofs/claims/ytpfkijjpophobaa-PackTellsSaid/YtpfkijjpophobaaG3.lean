/- pack.take: the walk. -/
import Derived.Test.YtpfkijjpophobaaG2
namespace Go.Proofs.Ytpfkijjpophobaa
set_option linter.unusedVariables false
open Go.RowKit

/-- a number read -/
def Pl.tk (L : List UInt8) : Nat → Nat → Nat → Nat → Int × Int × Int
  | 0, _, _, _ => (0, 0, 3)
  | k + 1, i, at', n => match L[at']? with
    | none => (0, 0, 4)
    | some c => if c.toNat = 0 ∧ 0 < i then (0, 0, 3) else if c.toNat < 128 then (((n + c.toNat % 128 * 128 ^ i : Nat) : Int), ((at' + 1 : Nat) : Int), 0) else Pl.tk L k (i + 1) (at' + 1) (n + c.toNat % 128 * 128 ^ i)
theorem Pl.tk_some (L : List UInt8) (k i a n : Nat) (b : UInt8) (hb : L[a]? = some b) : Pl.tk L (k + 1) i a n = if b.toNat = 0 ∧ 0 < i then (0, 0, 3) else if b.toNat < 128 then (((n + b.toNat % 128 * 128 ^ i : Nat) : Int), ((a + 1 : Nat) : Int), 0) else Pl.tk L k (i + 1) (a + 1) (n + b.toNat % 128 * 128 ^ i) := by
  rw [Pl.tk, hb]
theorem Pl.tk_none (L : List UInt8) (k i a n : Nat) (hb : L[a]? = none) : Pl.tk L (k + 1) i a n = (0, 0, 4) := by
  rw [Pl.tk, hb]
def Pl.take7 (L : List UInt8) (at' : Nat) : Int × Int × Int := Pl.tk L 5 0 at' 0
theorem or_join (i : Nat) (hi : i ≤ 35) (n z : Nat) (hn : n < 2 ^ i) (hz : z % 2 ^ i = 0) (hz1 : z < 1152921504606846976) (hn1 : n < 1152921504606846976) : bits .or .i64 (n : Int) (z : Int) = ((n + z : Nat) : Int) := by
  have hc : bits .or .i64 (n : Int) (z : Int) = bits .or .i64 (z : Int) (n : Int) := by simp only [bits, BitVec.or_comm]
  rw [hc, bits_join .i64 63 (by decide) (fun n h0 h1 => by rw [IntKind.wrap_i64]; omega) i (z : Int) (n : Int) (by omega) (by exact_mod_cast hz) (by omega) (by omega) (by exact_mod_cast hn) (by omega)]
  omega
theorem byte_cell {g o j : Nat} {b : UInt8} {W : World} (h : W.cell? ⟨g, o + j, none⟩ = some (Pl.u8 b)) : W.cell? ⟨g, o + j, none⟩ = some (.int .u8 (b.toNat : Int)) := h
set_option maxHeartbeats 4000000 in
set_option maxRecDepth 100000 in
theorem take_any (v : Value) (L : List UInt8) (at' : Nat) (hat : at' ≤ L.length) (hL : L.length < 1000000) (W : World) (hv : RdB v L W) :
    Calls Try.prog 72 #[v, .int .i64 (at' : Int)] W fun e w' => e = .returned (.tuple #[.int .i64 (Pl.take7 L at').1, .int .i64 (Pl.take7 L at').2.1, .int .i64 (Pl.take7 L at').2.2]) ∧ Grown W w' := by
  obtain ⟨ao, cap, rfl, hcap, hrd⟩ := hv
  obtain ⟨M, hM⟩ : ∃ M, M = L.length := ⟨_, rfl⟩
  obtain ⟨R, hR⟩ : ∃ R, R = Pl.take7 L at' := ⟨_, rfl⟩
  rw [← hR, ← hM]
  have HR : Hid (R = Pl.tk L 5 0 at' 0) := Lib.hid hR
  rw [← hM] at hat hL hcap
  have HRD := Lib.hid hrd
  have HM := Lib.hid hM
  clear hrd hM hR
  go_enter Try.func72, Try.ntmps72
  go_wp2_with fail
  go_loopw [1, 4, 9] (fun s1 s4 s9 wr => ∃ (i a n : Nat), s9 = .int .i64 (i : Int) ∧ s1 = .int .i64 (a : Int) ∧ s4 = .int .i64 (n : Int) ∧ i ≤ 5 ∧ a ≤ M ∧ Hid (n < 128 ^ i) ∧ Hid (R = Pl.tk L (5 - i) i a n) ∧ wr = W) (fun _ _ s9 _ => (5 - intOf s9).toNat)
  case atStart => exact ⟨0, at', 0, rfl, rfl, rfl, by omega, by omega, Lib.hid (by decide), HR, rfl⟩
  case round =>
    obtain ⟨i, a, n, rfl, rfl, rfl, hi, ha, HN, HQ, rfl⟩ := hrel
    rcases Nat.lt_or_eq_of_le hi with h5 | rfl
    · have hiI : (i : Int) < 5 := by omega
      rcases Nat.lt_or_eq_of_le ha with haM | rfl
      · obtain ⟨g, o, rfl, hg, hcell⟩ := HRD.out.resolve_left (fun q => by have := HM.out; rw [q] at this; simp at this; omega)
        have hb : L[a]? = some L[a] := List.getElem?_eq_getElem (by have := HM.out; omega)
        have c0 := byte_cell (hcell a _ hb)
        have c255 := L[a].toNat_lt
        have hst : Pl.tk L (5 - i) i a n = if L[a].toNat = 0 ∧ 0 < i then (0, 0, 3) else if L[a].toNat < 128 then (((n + L[a].toNat % 128 * 128 ^ i : Nat) : Int), ((a + 1 : Nat) : Int), 0) else Pl.tk L (5 - (i + 1)) (i + 1) (a + 1) (n + L[a].toNat % 128 * 128 ^ i) := by
          rw [show 5 - i = (5 - (i + 1)) + 1 by omega, Pl.tk_some L _ i a n _ hb]
        obtain ⟨c, hc⟩ : ∃ c, c = L[a].toNat := ⟨_, rfl⟩
        rw [← hc] at hst c0 c255
        have HST : Hid (R = _) := Lib.hid (HQ.out.trans hst)
        obtain ⟨d, hd⟩ : ∃ d, d = c % 128 := ⟨_, rfl⟩
        have hd1 : d < 128 := by omega
        rw [← hd] at HST
        have hand : bits .and .u8 (c : Int) 127 = (d : Int) := by
          have := u8_and_nat c 127 (by omega) (by omega)
          rw [show ((127 : Nat) : Int) = 127 from rfl] at this
          rw [this, hd, show (127 : Nat) = 2 ^ 7 - 1 from rfl, Nat.and_two_pow_sub_one_eq_mod]
        have haI : (a : Int) < (M : Int) := by omega
        have hne : ((a : Int) == (M : Int)) = false := beq_eq_false_iff_ne.2 (by omega)
        have hcp : M ≤ cap := hcap
        clear hst HQ hb hcell hc hd HRD
        have hn := HN.out
        have cI : (c : Int) ≤ 255 := by omega
        have dI : (d : Int) ≤ 127 := by omega
        have cs : (c = 0 ∧ 0 < i) ∨ (¬ (c = 0 ∧ 0 < i) ∧ c < 128) ∨ ¬ c < 128 := by omega
        have hc' : i = 0 ∨ i = 1 ∨ i = 2 ∨ i = 3 ∨ i = 4 := by omega
        clear hi h5 ha HM hcap
        rcases hc' with rfl | rfl | rfl | rfl | rfl
        · have hn0 : n = 0 := by simpa using hn
          subst hn0
          clear hn HN
          have hor : bits .or .i64 0 (d : Int) = (d : Int) := by have := or_join 0 (by omega) 0 d (by decide) (by simp [Nat.mod_one]) (by omega) (by omega); simpa using this
          rw [Nat.zero_add, Nat.pow_zero, Nat.mul_one] at HST
          rcases cs with ⟨_, hq⟩ | ⟨hc0, hc1⟩ | hc1
          · omega
          · have hRR : R = ((d : Int), ((a + 1 : Nat) : Int), 0) := by rw [HST.out, if_neg (by omega), if_pos hc1]
            subst hRR
            have hcI : (c : Int) < 128 := by omega
            clear HST
            go_wp2_with fail
            all_goals
              go_ret3
              exact ⟨by simp, Grown.refl _⟩
          · have HQ2 : Hid (R = Pl.tk L 4 1 (a + 1) d) := Lib.hid (by rw [HST.out, if_neg (by omega), if_neg hc1])
            have hcI : ¬ (c : Int) < 128 := by omega
            clear HST
            go_wp2_with fail
            exact ⟨⟨1, a + 1, d, rfl, by simp, rfl, by omega, by omega, Lib.hid (by simpa using hd1), HQ2, by trivial⟩, by simp [intOf]⟩
        · rw [show (128 : Nat) ^ 1 = 128 from rfl] at hn HST
          have hnI : (n : Int) < 128 := by omega
          have hor : bits .or .i64 (n : Int) ((d : Int) * 128) = ((n + d * 128 : Nat) : Int) := by
            have := or_join 7 (by omega) n (d * 128) (by omega) (by rw [show (2 : Nat) ^ 7 = 128 from rfl]; omega) (by omega) (by omega)
            rw [← this]
            congr 1
          have hbd : n + d * 128 < 16384 := by omega
          obtain ⟨y, hy⟩ : ∃ y, y = n + d * 128 := ⟨_, rfl⟩
          rw [← hy] at hor HST hbd
          clear hn HN hy
          rcases cs with ⟨rfl, _⟩ | ⟨hc0, hc1⟩ | hc1
          · have hRR : R = (0, 0, 3) := by rw [HST.out, if_pos ⟨rfl, by omega⟩]
            subst hRR
            clear HST
            go_wp2_with fail
            all_goals
              go_ret3
              exact ⟨rfl, Grown.refl _⟩
          · have hRR : R = ((y : Int), ((a + 1 : Nat) : Int), 0) := by rw [HST.out, if_neg hc0, if_pos hc1]
            subst hRR
            have hcI : (c : Int) < 128 := by omega
            have hne0 : ((c : Int) == 0) = false := beq_eq_false_iff_ne.2 (by omega)
            clear HST
            go_wp2_with fail
            all_goals
              go_ret3
              exact ⟨by simp, Grown.refl _⟩
          · have HQ2 : Hid (R = Pl.tk L 3 2 (a + 1) y) := Lib.hid (by rw [HST.out, if_neg (by omega), if_neg hc1])
            have hcI : ¬ (c : Int) < 128 := by omega
            have hne0 : ((c : Int) == 0) = false := beq_eq_false_iff_ne.2 (by omega)
            clear HST
            go_wp2_with fail
            exact ⟨⟨2, a + 1, y, rfl, by simp, rfl, by omega, by omega, Lib.hid hbd, HQ2, by trivial⟩, by simp [intOf]⟩
        · rw [show (128 : Nat) ^ 2 = 16384 from rfl] at hn HST
          have hnI : (n : Int) < 16384 := by omega
          have hor : bits .or .i64 (n : Int) ((d : Int) * 16384) = ((n + d * 16384 : Nat) : Int) := by
            have := or_join 14 (by omega) n (d * 16384) (by omega) (by rw [show (2 : Nat) ^ 14 = 16384 from rfl]; omega) (by omega) (by omega)
            rw [← this]
            congr 1
          have hbd : n + d * 16384 < 2097152 := by omega
          obtain ⟨y, hy⟩ : ∃ y, y = n + d * 16384 := ⟨_, rfl⟩
          rw [← hy] at hor HST hbd
          clear hn HN hy
          rcases cs with ⟨rfl, _⟩ | ⟨hc0, hc1⟩ | hc1
          · have hRR : R = (0, 0, 3) := by rw [HST.out, if_pos ⟨rfl, by omega⟩]
            subst hRR
            clear HST
            go_wp2_with fail
            all_goals
              go_ret3
              exact ⟨rfl, Grown.refl _⟩
          · have hRR : R = ((y : Int), ((a + 1 : Nat) : Int), 0) := by rw [HST.out, if_neg hc0, if_pos hc1]
            subst hRR
            have hcI : (c : Int) < 128 := by omega
            have hne0 : ((c : Int) == 0) = false := beq_eq_false_iff_ne.2 (by omega)
            clear HST
            go_wp2_with fail
            all_goals
              go_ret3
              exact ⟨by simp, Grown.refl _⟩
          · have HQ2 : Hid (R = Pl.tk L 2 3 (a + 1) y) := Lib.hid (by rw [HST.out, if_neg (by omega), if_neg hc1])
            have hcI : ¬ (c : Int) < 128 := by omega
            have hne0 : ((c : Int) == 0) = false := beq_eq_false_iff_ne.2 (by omega)
            clear HST
            go_wp2_with fail
            exact ⟨⟨3, a + 1, y, rfl, by simp, rfl, by omega, by omega, Lib.hid hbd, HQ2, by trivial⟩, by simp [intOf]⟩
        · rw [show (128 : Nat) ^ 3 = 2097152 from rfl] at hn HST
          have hnI : (n : Int) < 2097152 := by omega
          have hor : bits .or .i64 (n : Int) ((d : Int) * 2097152) = ((n + d * 2097152 : Nat) : Int) := by
            have := or_join 21 (by omega) n (d * 2097152) (by omega) (by rw [show (2 : Nat) ^ 21 = 2097152 from rfl]; omega) (by omega) (by omega)
            rw [← this]
            congr 1
          have hbd : n + d * 2097152 < 268435456 := by omega
          obtain ⟨y, hy⟩ : ∃ y, y = n + d * 2097152 := ⟨_, rfl⟩
          rw [← hy] at hor HST hbd
          clear hn HN hy
          rcases cs with ⟨rfl, _⟩ | ⟨hc0, hc1⟩ | hc1
          · have hRR : R = (0, 0, 3) := by rw [HST.out, if_pos ⟨rfl, by omega⟩]
            subst hRR
            clear HST
            go_wp2_with fail
            all_goals
              go_ret3
              exact ⟨rfl, Grown.refl _⟩
          · have hRR : R = ((y : Int), ((a + 1 : Nat) : Int), 0) := by rw [HST.out, if_neg hc0, if_pos hc1]
            subst hRR
            have hcI : (c : Int) < 128 := by omega
            have hne0 : ((c : Int) == 0) = false := beq_eq_false_iff_ne.2 (by omega)
            clear HST
            go_wp2_with fail
            all_goals
              go_ret3
              exact ⟨by simp, Grown.refl _⟩
          · have HQ2 : Hid (R = Pl.tk L 1 4 (a + 1) y) := Lib.hid (by rw [HST.out, if_neg (by omega), if_neg hc1])
            have hcI : ¬ (c : Int) < 128 := by omega
            have hne0 : ((c : Int) == 0) = false := beq_eq_false_iff_ne.2 (by omega)
            clear HST
            go_wp2_with fail
            exact ⟨⟨4, a + 1, y, rfl, by simp, rfl, by omega, by omega, Lib.hid hbd, HQ2, by trivial⟩, by simp [intOf]⟩
        · rw [show (128 : Nat) ^ 4 = 268435456 from rfl] at hn HST
          have hnI : (n : Int) < 268435456 := by omega
          have hor : bits .or .i64 (n : Int) ((d : Int) * 268435456) = ((n + d * 268435456 : Nat) : Int) := by
            have := or_join 28 (by omega) n (d * 268435456) (by omega) (by rw [show (2 : Nat) ^ 28 = 268435456 from rfl]; omega) (by omega) (by omega)
            rw [← this]
            congr 1
          have hbd : n + d * 268435456 < 34359738368 := by omega
          obtain ⟨y, hy⟩ : ∃ y, y = n + d * 268435456 := ⟨_, rfl⟩
          rw [← hy] at hor HST hbd
          clear hn HN hy
          rcases cs with ⟨rfl, _⟩ | ⟨hc0, hc1⟩ | hc1
          · have hRR : R = (0, 0, 3) := by rw [HST.out, if_pos ⟨rfl, by omega⟩]
            subst hRR
            clear HST
            go_wp2_with fail
            all_goals
              go_ret3
              exact ⟨rfl, Grown.refl _⟩
          · have hRR : R = ((y : Int), ((a + 1 : Nat) : Int), 0) := by rw [HST.out, if_neg hc0, if_pos hc1]
            subst hRR
            have hcI : (c : Int) < 128 := by omega
            have hne0 : ((c : Int) == 0) = false := beq_eq_false_iff_ne.2 (by omega)
            clear HST
            go_wp2_with fail
            all_goals
              go_ret3
              exact ⟨by simp, Grown.refl _⟩
          · have HQ2 : Hid (R = Pl.tk L 0 5 (a + 1) y) := Lib.hid (by rw [HST.out, if_neg (by omega), if_neg hc1])
            have hcI : ¬ (c : Int) < 128 := by omega
            have hne0 : ((c : Int) == 0) = false := beq_eq_false_iff_ne.2 (by omega)
            clear HST
            go_wp2_with fail
            exact ⟨⟨5, a + 1, y, rfl, by simp, rfl, by omega, by omega, Lib.hid hbd, HQ2, by trivial⟩, by simp [intOf]⟩
      · have hnone : L[a]? = none := List.getElem?_eq_none (by have := HM.out; omega)
        have hRR : R = (0, 0, 4) := by rw [HQ.out, show 5 - i = (4 - i) + 1 by omega, Pl.tk_none L _ i a n hnone]
        subst hRR
        clear HQ HRD HM HR HN
        go_wp2_with fail
        go_ret3
        exact ⟨rfl, Grown.refl _⟩
    · have hRR : R = (0, 0, 3) := by rw [HQ.out]; rfl
      subst hRR
      clear HQ HRD HM HR HN
      go_wp2_with fail
      go_ret3
      exact ⟨rfl, Grown.refl _⟩
end Go.Proofs.Ytpfkijjpophobaa
