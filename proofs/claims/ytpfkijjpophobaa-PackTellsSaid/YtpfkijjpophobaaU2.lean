/- The reference's number, folded, signed, text, Is, take: the walks. -/
import Derived.Test.YtpfkijjpophobaaU1
namespace Go.Proofs.Ytpfkijjpophobaa
set_option linter.unusedVariables false
open Go.RowKit

theorem rsigned9 (k : Int) (W : World) : Calls Try.prog 58 #[.int .i64 k] W fun e w' => e = .returned (.bool (decide (k = 1 ∨ k = 2))) ∧ W = w' := by
  by_cases h1 : k = 1
  · subst h1
    go_enter Try.func58, Try.ntmps58
    go_wp2_with fail
    go_ret
    exact ⟨rfl, rfl⟩
  by_cases h2 : k = 2
  · subst h2
    go_enter Try.func58, Try.ntmps58
    go_wp2_with fail
    go_ret
    exact ⟨rfl, rfl⟩
  have b1 : (k == 1) = false := beq_eq_false_iff_ne.2 h1
  have b2 : (k == 2) = false := beq_eq_false_iff_ne.2 h2
  rw [decide_eq_false (show ¬ (k = 1 ∨ k = 2) by omega)]
  go_enter Try.func58, Try.ntmps58
  go_wp2_with fail
  go_ret
  exact ⟨rfl, rfl⟩
theorem rtext9 (k : Int) (W : World) : Calls Try.prog 61 #[.int .i64 k] W fun e w' => e = .returned (.bool (decide (3 ≤ k ∧ k ≤ 6))) ∧ W = w' := by
  go_enter Try.func61, Try.ntmps61
  go_wp2_with fail
  all_goals
    go_ret
    refine ⟨ret_bool ?_, rfl⟩
    first | (simp; done) | (simp; omega)
theorem rfolded9 (n : Int) (h0 : -2147483648 ≤ n) (h1 : n ≤ 2147483648) (W : World) : Calls Try.prog 60 #[.int .i64 n] W fun e w' => e = .returned (.int .i64 (Pl.fold n : Nat)) ∧ W = w' := by
  obtain ⟨x, hx⟩ : ∃ x : Int, x = (Pl.fold n : Nat) := ⟨_, rfl⟩
  rw [← hx]
  by_cases hn : n < 0
  · have e : x = -2 * n - 1 := by rw [hx]; unfold Pl.fold; rw [if_neg (by omega)]; omega
    subst e
    clear hx
    go_enter Try.func60, Try.ntmps60
    go_wp2_with fail
    go_ret
    exact ⟨rfl, rfl⟩
  · have e : x = 2 * n := by rw [hx]; unfold Pl.fold; rw [if_pos (by omega)]; omega
    subst e
    clear hx
    go_enter Try.func60, Try.ntmps60
    go_wp2_with fail
    go_ret
    exact ⟨rfl, rfl⟩
set_option maxRecDepth 100000 in
theorem ris_any (v : Value) (L : List UInt8) (hL : L.length < 1000000) (W : World) (hv : RdB v L W) :
    Calls Try.prog 31 #[v] W fun e w' => e = .returned (.bool (Pl.isHd L)) ∧ Fr (fun _ => False) W w' := by
  obtain ⟨m, hm⟩ : ∃ m, m = Pl.isHd L := ⟨_, rfl⟩
  rw [← hm]
  have HV := Lib.hid hv
  obtain ⟨ao, cap, rfl, hcap, hrd⟩ := hv
  obtain ⟨M, hM⟩ : ∃ M, M = L.length := ⟨_, rfl⟩
  have HM := Lib.hid hM
  have HMM := Lib.hid hm
  rw [← hM] at hcap hL ⊢
  clear hrd hM hm
  by_cases h4 : M < 4
  · have hmf : m = false := by
      rw [HMM.out]
      exact decide_eq_false (fun q => by have := congrArg List.length q; rw [List.length_take] at this; rw [show Pl.hd.length = 4 from rfl] at this; have := HM.out; omega)
    subst hmf
    have hI : decide ((4 : Int) ≤ (M : Int)) = false := decide_eq_false (by omega)
    clear h4
    go_enter Try.func31, Try.ntmps31
    go_wp2_with fail
    go_ret
    exact ⟨rfl, Fr.refl _ _⟩
  · have hI : decide ((4 : Int) ≤ (M : Int)) = true := decide_eq_true (by omega)
    have hcI : (4 : Int) ≤ (cap : Int) := by omega
    have HR2 := Lib.hid (HV.out.take 4 (by have := HM.out; omega))
    have k1 := conv30 (W := W) HR2.out
    obtain ⟨S1, hS1⟩ : ∃ S1, S1 = Pl.tx (L.take 4) := ⟨_, rfl⟩
    rw [← hS1] at k1
    have HS := Lib.hid hS1
    clear hS1 h4
    go_enter Try.func31, Try.ntmps31
    go_wp2_with fail
    go_ret
    refine ⟨ret_bool ?_, Fr.refl _ _⟩
    rw [HMM.out]
    unfold Pl.isHd
    by_cases q : L.take 4 = Pl.hd
    · rw [decide_eq_true q]
      refine beq_iff_eq.2 ?_
      rw [HS.out, Pl.tx_toList, q]
      rfl
    · rw [decide_eq_false q]
      refine beq_eq_false_iff_ne.2 (fun h => q ?_)
      rw [HS.out, Pl.tx_toList] at h
      exact h
set_option maxRecDepth 100000 in
theorem rnumber_any (n : Nat) (hn : n < 34359738368) (base : Nat) (bv : Value) (L0 : List UInt8) (hL0 : L0.length ≤ 1000000) (W : World) (hb : base ≤ W.heap.size) (ho : OwnB base bv L0 W) :
    Calls Try.prog 59 #[bv, .int .i64 (n : Int)] W fun e w' => ∃ v, e = .returned v ∧ OwnB base v (L0 ++ Pl.num7 n) w' ∧ Fr (fun k => bv.ownBlock = some k) W w' ∧ ∀ g, v.ownBlock = some g → bv.ownBlock = some g ∨ W.heap.size ≤ g := by
  have HB0 := Lib.hid hb
  have O0 := Lib.hid ho
  have hnl : Hid ((Pl.num7 n).length ≤ 34359738368) := Lib.hid (by have := Pl.num7_len n; omega)
  clear hb ho
  go_enter Try.func59, Try.ntmps59
  go_wp2_with fail
  go_loopw [0, 1] (fun s0 s1 wr => ∃ (m : Nat) (L : List UInt8) (sv : Value), s1 = .int .i64 (m : Int) ∧ sv = s0 ∧ m ≤ n ∧ Hid (OwnB base sv (L0 ++ L) wr) ∧ Hid (Pl.num7 n = L ++ Pl.num7 m) ∧ Hid (Fr (fun k => bv.ownBlock = some k) W wr) ∧ Hid (∀ g, sv.ownBlock = some g → bv.ownBlock = some g ∨ W.heap.size ≤ g)) (fun _ s1 _ => (intOf s1).toNat)
  case atStart => exact ⟨n, [], _, rfl, rfl, by omega, Lib.hid (by rw [List.append_nil]; exact O0.out), Lib.hid (by simp), Lib.hid (Fr.refl _ _), Lib.hid (fun g h => .inl h)⟩
  case round =>
    obtain ⟨m, L, s0, rfl, rfl, hm, HO, HN, HF, HOW⟩ := hrel
    have HS := Lib.hid (Pl.num7_eq m)
    have HW : Hid (base ≤ wr.heap.size) := Lib.hid (by have h1 := HF.out.2.2.1; have h2 := HB0.out; omega)
    have HLL : Hid ((L0 ++ L).length ≤ 34361738368) := Lib.hid (by have h1 := hnl.out; have h2 := congrArg List.length HN.out; rw [List.length_append] at h2 ⊢; omega)
    by_cases h : m < 128
    · have hI : decide ((128 : Int) ≤ (m : Int)) = false := decide_eq_false (by omega)
      have hw8 : (m : Int) % 256 = (m : Int) := by omega
      have HST : Hid (Pl.num7 m = [UInt8.ofNat m]) := Lib.hid (by rw [HS.out, if_pos h])
      obtain ⟨β, hβ⟩ : ∃ β, β = UInt8.ofNat m := ⟨_, rfl⟩
      have HB := Lib.hid (one_row wr β (m : Int) (by rw [hβ]; exact Pl.u8_of m (by omega)))
      rw [← hβ] at HST
      have HA : Hid (OwnB base s0 (L0 ++ L) (wr.alloc (.cells #[.int .u8 (m : Int)] 5))) := Lib.hid (HO.out.fr (Fr.alloc (fun _ => False) wr _) (fun _ _ f => f))
      have HWA : Hid (base ≤ (wr.alloc (.cells #[.int .u8 (m : Int)] 5)).heap.size) := Lib.hid (by have := HW.out; simp; omega)
      clear HS hβ h
      go_wp2_with (at_builtin; refine wpList_appB _ base s0 (L0 ++ L) HA.out _ [β] 30 (.inl rfl) (src_slice HB.out) (by have := HLL.out; simp only [List.length_singleton]; omega) HWA.out (hgd := rfl) (.tmp 16) (.tmp 19) rfl (by simp [Act.eval]) (by simp [Act.eval]) ?_)
      intro v' w' o2 g2 hg2
      go_wp2_with fail
      go_ret
      refine ⟨v', rfl, ?_, ?_, ?_⟩
      · rw [HN.out, HST.out]
        simpa using o2
      · exact (HF.out.trans (Fr.alloc _ _ _)).trans' (Fr.grown (fun k => s0.ownBlock = some k) g2 (fun k hk => hk)) (fun k hk => HOW.out k hk)
      · intro g hg
        rcases hg2 g hg with q | q
        · exact HOW.out g q
        · refine .inr ?_
          have h1 := HF.out.2.2.1
          have : wr.heap.size + 1 ≤ g := by simpa using q
          omega
    · have hI : decide ((128 : Int) ≤ (m : Int)) = true := decide_eq_true (by omega)
      have hHST : Hid (Pl.num7 m = [UInt8.ofNat (m % 128 + 128)] ++ Pl.num7 (m / 128)) := Lib.hid (by rw [HS.out, if_neg h]; rfl)
      obtain ⟨x, hx⟩ : ∃ x, x = m % 128 := ⟨_, rfl⟩
      have hx1 : x < 128 := by omega
      have hxm : (m : Int) % 128 = (x : Int) := by omega
      rw [← hx] at hHST
      have hw8 : ((x : Int) + 128) % 256 = (x : Int) + 128 := by omega
      have hxI : (x : Int) ≤ 127 := by omega
      obtain ⟨β, hβ⟩ : ∃ β, β = UInt8.ofNat (x + 128) := ⟨_, rfl⟩
      have HB := Lib.hid (one_row wr β ((x : Int) + 128) (by rw [hβ, Pl.u8_of (x + 128) (by omega)]; rfl))
      rw [← hβ] at hHST
      have HA : Hid (OwnB base s0 (L0 ++ L) (wr.alloc (.cells #[.int .u8 ((x : Int) + 128)] 5))) := Lib.hid (HO.out.fr (Fr.alloc (fun _ => False) wr _) (fun _ _ f => f))
      have HWA : Hid (base ≤ (wr.alloc (.cells #[.int .u8 ((x : Int) + 128)] 5)).heap.size) := Lib.hid (by have := HW.out; simp; omega)
      have hlt : m / 128 < m := by omega
      obtain ⟨y, hy⟩ : ∃ y, y = m / 128 := ⟨_, rfl⟩
      have hq : (m : Int) / 128 = (y : Int) := by omega
      rw [← hy] at hHST hlt
      clear HS hβ hx hy h
      go_wp2_with (at_builtin; refine wpList_appB _ base s0 (L0 ++ L) HA.out _ [β] 30 (.inl rfl) (src_slice HB.out) (by have := HLL.out; simp only [List.length_singleton]; omega) HWA.out (hgd := rfl) (.tmp 7) (.tmp 12) rfl (by simp [Act.eval]) (by simp [Act.eval]) ?_)
      intro v' w' o2 g2 hg2
      have O2 : Hid (OwnB base v' (L0 ++ (L ++ [β])) w') := Lib.hid (by simpa using o2)
      have F2 := Lib.hid ((HF.out.trans (Fr.alloc (fun k => bv.ownBlock = some k) wr (.cells #[.int .u8 ((x : Int) + 128)] 5))).trans' (Fr.grown (fun k => s0.ownBlock = some k) g2 (fun k hk => hk)) (fun k hk => HOW.out k hk))
      have W2 : Hid (∀ g, v'.ownBlock = some g → bv.ownBlock = some g ∨ W.heap.size ≤ g) := Lib.hid (fun g hg => by
        rcases hg2 g hg with q | q
        · exact HOW.out g q
        · refine .inr ?_
          have h1 := HF.out.2.2.1
          have : wr.heap.size + 1 ≤ g := by simpa using q
          omega)
      clear o2 g2 hg2
      go_wp2_with fail
      exact ⟨⟨y, L ++ [β], _, rfl, rfl, by omega, O2, Lib.hid (by rw [HN.out, hHST.out, List.append_assoc]), F2, W2⟩, by simp only [intOf]; omega⟩
set_option maxHeartbeats 4000000 in
set_option maxRecDepth 100000 in
theorem rtake_any (v : Value) (L : List UInt8) (at' : Nat) (hat : at' ≤ L.length) (hL : L.length < 1000000) (W : World) (hv : RdB v L W) :
    Calls Try.prog 74 #[v, .int .i64 (at' : Int)] W fun e w' => e = .returned (.tuple #[.int .i64 (Pl.take7 L at').1, .int .i64 (Pl.take7 L at').2.1, .int .i64 (Pl.take7 L at').2.2]) ∧ Grown W w' := by
  obtain ⟨ao, cap, rfl, hcap, hrd⟩ := hv
  obtain ⟨M, hM⟩ : ∃ M, M = L.length := ⟨_, rfl⟩
  obtain ⟨R, hR⟩ : ∃ R, R = Pl.take7 L at' := ⟨_, rfl⟩
  rw [← hR, ← hM]
  have HR : Hid (R = Pl.tk L 5 0 at' 0) := Lib.hid hR
  rw [← hM] at hat hL hcap
  have HRD := Lib.hid hrd
  have HM := Lib.hid hM
  clear hrd hM hR
  go_enter Try.func74, Try.ntmps74
  go_wp2_with fail
  go_loopw [7, 8] (fun s7 s8 wr => ∃ (i n : Nat), s8 = .int .i64 (i : Int) ∧ s7 = .int .i64 (n : Int) ∧ i ≤ 5 ∧ at' + i ≤ M ∧ Hid (n < 128 ^ i) ∧ Hid (R = Pl.tk L (5 - i) i (at' + i) n) ∧ wr = W) (fun _ s8 _ => (5 - intOf s8).toNat)
  case atStart => exact ⟨0, 0, rfl, rfl, by omega, by omega, Lib.hid (by decide), HR, rfl⟩
  case round =>
    obtain ⟨i, n, rfl, rfl, hi, ha, HN, HQ, rfl⟩ := hrel
    have hc' : i = 0 ∨ i = 1 ∨ i = 2 ∨ i = 3 ∨ i = 4 ∨ i = 5 := by omega
    rcases Nat.lt_or_eq_of_le ha with haM | haM
    · by_cases h5 : i = 5
      · subst h5
        have hRR : R = (0, 0, 3) := HQ.out
        subst hRR
        clear HQ
        go_wp2_with fail
        go_ret3
        exact ⟨rfl, Grown.refl _⟩
      have hc' : i = 0 ∨ i = 1 ∨ i = 2 ∨ i = 3 ∨ i = 4 := by omega
      obtain ⟨g, o, rfl, hg, hcell⟩ := HRD.out.resolve_left (fun q => by have := HM.out; rw [q] at this; simp at this; omega)
      obtain ⟨a, hax⟩ : ∃ a, a = at' + i := ⟨_, rfl⟩
      rw [← hax] at haM HQ
      have hb : L[a]? = some L[a] := List.getElem?_eq_getElem (by have := HM.out; omega)
      have c0 := byte_cell (hcell a _ hb)
      have c255 := L[a].toNat_lt
      have hst : Pl.tk L (5 - i) i a n = if L[a].toNat = 0 ∧ 0 < i then (0, 0, 3) else if L[a].toNat < 128 then (((n + L[a].toNat % 128 * 128 ^ i : Nat) : Int), ((a + 1 : Nat) : Int), 0) else Pl.tk L (5 - (i + 1)) (i + 1) (a + 1) (n + L[a].toNat % 128 * 128 ^ i) := by
        rw [show 5 - i = (5 - (i + 1)) + 1 by omega, Pl.tk_some L _ i a n _ hb]
      obtain ⟨c, hc⟩ : ∃ c, c = L[a].toNat := ⟨_, rfl⟩
      rw [← hc] at hst c0 c255
      have HST : Hid (R = _) := Lib.hid (HQ.out.trans hst)
      obtain ⟨d, hd⟩ : ∃ d, d = c % 128 := ⟨_, rfl⟩
      have hd1 : d < 128 := by omega
      rw [← hd] at HST
      have hcd : (c : Int) % 128 = (d : Int) := by omega
      have haI : (a : Int) < (M : Int) := by omega
      have hge : decide ((M : Int) ≤ (a : Int)) = false := decide_eq_false (by omega)
      have hcp : M ≤ cap := hcap
      clear hst HQ hb hcell hc hd HRD
      have hn := HN.out
      have cI : (c : Int) ≤ 255 := by omega
      have dI : (d : Int) ≤ 127 := by omega
      have cs : (c = 0 ∧ 0 < i) ∨ (¬ (c = 0 ∧ 0 < i) ∧ c < 128) ∨ ¬ c < 128 := by omega
      have hat2 : (a : Int) = (at' : Int) + (i : Int) := by omega
      clear hi h5 ha HM hcap hat
      rcases hc' with rfl | rfl | rfl | rfl | rfl
      · rw [show (128 : Nat) ^ 0 = 1 from rfl] at hn HST
        have hax0 : a = at' := by omega
        subst hax0
        obtain rfl : n = 0 := by omega
        rw [Nat.zero_add, Nat.mul_one] at HST
        have HBD := Lib.hid hd1
        clear hn HN hat2 hax
        rcases cs with ⟨hc0, hz⟩ | ⟨hc0, hc1⟩ | hc1
        · omega
        · have hRR : R = ((d : Int), ((a + 1 : Nat) : Int), 0) := by rw [HST.out, if_neg hc0, if_pos hc1]
          subst hRR
          have hcI : decide ((c : Int) < 128) = true := decide_eq_true (by omega)
          clear HST hc0 hc1
          go_wp2_with fail
          all_goals
            go_ret3
            exact ⟨by simp, Grown.refl _⟩
        · have HQ2 : Hid (R = Pl.tk L (5 - 1) 1 (a + 1) d) := Lib.hid (by rw [HST.out, if_neg (by omega), if_neg hc1])
          have hcI : decide ((c : Int) < 128) = false := decide_eq_false (by omega)
          have HAT := Lib.hid (show a + 1 ≤ M by omega)
          clear HST hc1
          go_wp2_with fail
          exact ⟨⟨1, d, rfl, rfl, by omega, HAT.out, HBD, HQ2, by trivial⟩, by simp [intOf]⟩
      · rw [show (128 : Nat) ^ 1 = 128 from rfl] at hn HST
        have ha2 : (at' : Int) + 1 = (a : Int) := by omega
        clear hat2
        obtain ⟨y, hy⟩ : ∃ y, y = n + d * 128 := ⟨_, rfl⟩
        obtain ⟨Y, hY⟩ : ∃ Y : Int, Y = (y : Int) := ⟨_, rfl⟩
        have hs : (n : Int) + (d : Int) * 128 = Y := by omega
        have hbd : y < 16384 := by omega
        rw [← hy] at HST
        have hY0 : 0 ≤ Y := by omega
        have hY1 : Y < 16384 := by omega
        have HY := Lib.hid hY
        have HBD := Lib.hid hbd
        clear hn HN hy hax hY hbd
        rcases cs with ⟨hc0, hz⟩ | ⟨hc0, hc1⟩ | hc1
        · subst hc0
          have hRR : R = (0, 0, 3) := by rw [HST.out, if_pos ⟨rfl, hz⟩]
          subst hRR
          clear HST hz
          go_wp2_with fail
          all_goals
            go_ret3
            exact ⟨rfl, Grown.refl _⟩
        · have hRR : R = (Y, ((a + 1 : Nat) : Int), 0) := by rw [HST.out, if_neg hc0, if_pos hc1, HY.out]
          subst hRR
          have hcI : decide ((c : Int) < 128) = true := decide_eq_true (by omega)
          have hne0 : ((c : Int) == 0) = false := beq_eq_false_iff_ne.2 (by omega)
          clear HST hc0 hc1
          go_wp2_with fail
          all_goals
            go_ret3
            exact ⟨by simp, Grown.refl _⟩
        · have HQ2 : Hid (R = Pl.tk L (5 - 2) 2 (at' + 2) y) := Lib.hid (by rw [HST.out, if_neg (by omega), if_neg hc1]; congr 1; omega)
          have hcI : decide ((c : Int) < 128) = false := decide_eq_false (by omega)
          have HAT := Lib.hid (show at' + 2 ≤ M by omega)
          clear HST hc1
          go_wp2_with fail
          exact ⟨⟨2, y, rfl, by rw [HY.out], by omega, HAT.out, HBD, HQ2, by trivial⟩, by simp [intOf]⟩
      · rw [show (128 : Nat) ^ 2 = 16384 from rfl] at hn HST
        have ha2 : (at' : Int) + 2 = (a : Int) := by omega
        clear hat2
        obtain ⟨y, hy⟩ : ∃ y, y = n + d * 16384 := ⟨_, rfl⟩
        obtain ⟨Y, hY⟩ : ∃ Y : Int, Y = (y : Int) := ⟨_, rfl⟩
        have hs : (n : Int) + (d : Int) * 16384 = Y := by omega
        have hbd : y < 2097152 := by omega
        rw [← hy] at HST
        have hY0 : 0 ≤ Y := by omega
        have hY1 : Y < 2097152 := by omega
        have HY := Lib.hid hY
        have HBD := Lib.hid hbd
        clear hn HN hy hax hY hbd
        rcases cs with ⟨hc0, hz⟩ | ⟨hc0, hc1⟩ | hc1
        · subst hc0
          have hRR : R = (0, 0, 3) := by rw [HST.out, if_pos ⟨rfl, hz⟩]
          subst hRR
          clear HST hz
          go_wp2_with fail
          all_goals
            go_ret3
            exact ⟨rfl, Grown.refl _⟩
        · have hRR : R = (Y, ((a + 1 : Nat) : Int), 0) := by rw [HST.out, if_neg hc0, if_pos hc1, HY.out]
          subst hRR
          have hcI : decide ((c : Int) < 128) = true := decide_eq_true (by omega)
          have hne0 : ((c : Int) == 0) = false := beq_eq_false_iff_ne.2 (by omega)
          clear HST hc0 hc1
          go_wp2_with fail
          all_goals
            go_ret3
            exact ⟨by simp, Grown.refl _⟩
        · have HQ2 : Hid (R = Pl.tk L (5 - 3) 3 (at' + 3) y) := Lib.hid (by rw [HST.out, if_neg (by omega), if_neg hc1]; congr 1; omega)
          have hcI : decide ((c : Int) < 128) = false := decide_eq_false (by omega)
          have HAT := Lib.hid (show at' + 3 ≤ M by omega)
          clear HST hc1
          go_wp2_with fail
          exact ⟨⟨3, y, rfl, by rw [HY.out], by omega, HAT.out, HBD, HQ2, by trivial⟩, by simp [intOf]⟩
      · rw [show (128 : Nat) ^ 3 = 2097152 from rfl] at hn HST
        have ha2 : (at' : Int) + 3 = (a : Int) := by omega
        clear hat2
        obtain ⟨y, hy⟩ : ∃ y, y = n + d * 2097152 := ⟨_, rfl⟩
        obtain ⟨Y, hY⟩ : ∃ Y : Int, Y = (y : Int) := ⟨_, rfl⟩
        have hs : (n : Int) + (d : Int) * 2097152 = Y := by omega
        have hbd : y < 268435456 := by omega
        rw [← hy] at HST
        have hY0 : 0 ≤ Y := by omega
        have hY1 : Y < 268435456 := by omega
        have HY := Lib.hid hY
        have HBD := Lib.hid hbd
        clear hn HN hy hax hY hbd
        rcases cs with ⟨hc0, hz⟩ | ⟨hc0, hc1⟩ | hc1
        · subst hc0
          have hRR : R = (0, 0, 3) := by rw [HST.out, if_pos ⟨rfl, hz⟩]
          subst hRR
          clear HST hz
          go_wp2_with fail
          all_goals
            go_ret3
            exact ⟨rfl, Grown.refl _⟩
        · have hRR : R = (Y, ((a + 1 : Nat) : Int), 0) := by rw [HST.out, if_neg hc0, if_pos hc1, HY.out]
          subst hRR
          have hcI : decide ((c : Int) < 128) = true := decide_eq_true (by omega)
          have hne0 : ((c : Int) == 0) = false := beq_eq_false_iff_ne.2 (by omega)
          clear HST hc0 hc1
          go_wp2_with fail
          all_goals
            go_ret3
            exact ⟨by simp, Grown.refl _⟩
        · have HQ2 : Hid (R = Pl.tk L (5 - 4) 4 (at' + 4) y) := Lib.hid (by rw [HST.out, if_neg (by omega), if_neg hc1]; congr 1; omega)
          have hcI : decide ((c : Int) < 128) = false := decide_eq_false (by omega)
          have HAT := Lib.hid (show at' + 4 ≤ M by omega)
          clear HST hc1
          go_wp2_with fail
          exact ⟨⟨4, y, rfl, by rw [HY.out], by omega, HAT.out, HBD, HQ2, by trivial⟩, by simp [intOf]⟩
      · rw [show (128 : Nat) ^ 4 = 268435456 from rfl] at hn HST
        have ha2 : (at' : Int) + 4 = (a : Int) := by omega
        clear hat2
        obtain ⟨y, hy⟩ : ∃ y, y = n + d * 268435456 := ⟨_, rfl⟩
        obtain ⟨Y, hY⟩ : ∃ Y : Int, Y = (y : Int) := ⟨_, rfl⟩
        have hs : (n : Int) + (d : Int) * 268435456 = Y := by omega
        have hbd : y < 34359738368 := by omega
        rw [← hy] at HST
        have hY0 : 0 ≤ Y := by omega
        have hY1 : Y < 34359738368 := by omega
        have HY := Lib.hid hY
        have HBD := Lib.hid hbd
        clear hn HN hy hax hY hbd
        rcases cs with ⟨hc0, hz⟩ | ⟨hc0, hc1⟩ | hc1
        · subst hc0
          have hRR : R = (0, 0, 3) := by rw [HST.out, if_pos ⟨rfl, hz⟩]
          subst hRR
          clear HST hz
          go_wp2_with fail
          all_goals
            go_ret3
            exact ⟨rfl, Grown.refl _⟩
        · have hRR : R = (Y, ((a + 1 : Nat) : Int), 0) := by rw [HST.out, if_neg hc0, if_pos hc1, HY.out]
          subst hRR
          have hcI : decide ((c : Int) < 128) = true := decide_eq_true (by omega)
          have hne0 : ((c : Int) == 0) = false := beq_eq_false_iff_ne.2 (by omega)
          clear HST hc0 hc1
          go_wp2_with fail
          all_goals
            go_ret3
            exact ⟨by simp, Grown.refl _⟩
        · have HQ2 : Hid (R = Pl.tk L (5 - 5) 5 (at' + 5) y) := Lib.hid (by rw [HST.out, if_neg (by omega), if_neg hc1]; congr 1; omega)
          have hcI : decide ((c : Int) < 128) = false := decide_eq_false (by omega)
          have HAT := Lib.hid (show at' + 5 ≤ M by omega)
          clear HST hc1
          go_wp2_with fail
          exact ⟨⟨5, y, rfl, by rw [HY.out], by omega, HAT.out, HBD, HQ2, by trivial⟩, by simp [intOf]⟩
    · have hend : ∀ x, i = x → x < 5 → R = (0, 0, 4) := fun x hx hx5 => by
        rw [HQ.out, show 5 - i = (5 - (i + 1)) + 1 by omega, Pl.tk_none L _ i (at' + i) n (by rw [haM, HM.out]; simp)]
      have hge : (M : Int) ≤ (at' : Int) + (i : Int) := by omega
      rcases hc' with rfl | rfl | rfl | rfl | rfl | rfl
      · obtain rfl := hend 0 rfl (by omega)
        have ha2 : (at' : Int) + 0 = (M : Int) := by omega
        clear hend HQ HN hge haM ha hi hat
        go_wp2_with fail
        go_ret3
        exact ⟨rfl, Grown.refl _⟩
      · obtain rfl := hend 1 rfl (by omega)
        have ha2 : (at' : Int) + 1 = (M : Int) := by omega
        clear hend HQ HN hge haM ha hi hat
        go_wp2_with fail
        go_ret3
        exact ⟨rfl, Grown.refl _⟩
      · obtain rfl := hend 2 rfl (by omega)
        have ha2 : (at' : Int) + 2 = (M : Int) := by omega
        clear hend HQ HN hge haM ha hi hat
        go_wp2_with fail
        go_ret3
        exact ⟨rfl, Grown.refl _⟩
      · obtain rfl := hend 3 rfl (by omega)
        have ha2 : (at' : Int) + 3 = (M : Int) := by omega
        clear hend HQ HN hge haM ha hi hat
        go_wp2_with fail
        go_ret3
        exact ⟨rfl, Grown.refl _⟩
      · obtain rfl := hend 4 rfl (by omega)
        have ha2 : (at' : Int) + 4 = (M : Int) := by omega
        clear hend HQ HN hge haM ha hi hat
        go_wp2_with fail
        go_ret3
        exact ⟨rfl, Grown.refl _⟩
      · have hRR : R = (0, 0, 3) := HQ.out
        subst hRR
        clear hend HQ HN hge
        go_wp2_with fail
        go_ret3
        exact ⟨rfl, Grown.refl _⟩
end Go.Proofs.Ytpfkijjpophobaa
