/- numtext.Read where no base is told: the walk. -/
import Derived.Test.YtpfkijjpophobaaN10
import Derived.Deep.DeepCutAuto
import Derived.Deep.CutBlock
namespace Go.Proofs.Ytpfkijjpophobaa
set_option linter.unusedVariables false
open Go.RowKit

set_option maxHeartbeats 4000000 in
set_option maxRecDepth 100000 in
theorem read_plain (s : ByteArray) (hs : s.size ≤ 9223372036854775807) (h : Pl.basedV s = none) (W : World) :
    Calls Try.prog 13 #[.string s] W fun e w' => e = .returned (.tuple #[.int .i64 (Pl.read s).1, .int .i64 (Pl.read s).2.1, .int .i64 (Pl.read s).2.2]) ∧ Fr (fun _ => False) W w' := by
  have C := Lib.hid (based_none s hs h W)
  have HR : Hid (Pl.read s = Pl.readOf s (Pl.blw s) (Pl.sg s + (Pl.dgs s (Pl.sg s)).length) (Pl.dgs s (Pl.sg s)).length (Pl.dvl 2147483648 0 (Pl.dgs s (Pl.sg s)))) := Lib.hid (by unfold Pl.read; rw [h])
  clear h
  obtain ⟨c, hc⟩ : ∃ c, c = Pl.bt s 0 := ⟨_, rfl⟩
  have I0 : s.size = 0 ∨ (0 < s.size ∧ ∀ W, (Instr.index 9 (.string s) (.int .i64 0)).run Try.prog W = .ok (.int .u8 (c : Int)) W) := by
    rcases Nat.eq_zero_or_pos s.size with h0 | h0
    · exact .inl h0
    · exact .inr ⟨h0, fun W => by rw [hc]; exact index_at s 0 h0 W⟩
  have c255 : c ≤ 255 := by rw [hc]; exact Pl.bt_lt s 0
  have HC := Lib.hid hc
  go_enter Try.func13, Try.ntmps13
  go_wp2_with fail
  refine C.out.mono ?_
  rintro e w1 ⟨rfl, f1⟩
  go_upto_region 8 with fail
  have hRd : Hid (Rd w1.heap.size s 0 (w1.alloc (.cells #[.string s, .int .i64 0] 57))) := Lib.hid ⟨by simp [go_sem], by simp [go_sem], fun o => by rw [frozen?_alloc_cells]; simp [World.frozen?]⟩
  have hFr : Hid (Fr (fun _ => False) W (w1.alloc (.cells #[.string s, .int .i64 0] 57))) := Lib.hid (f1.trans (Fr.alloc _ _ _))
  obtain ⟨w2, hw2⟩ : ∃ w2, w2 = w1.alloc (.cells #[.string s, .int .i64 0] 57) := ⟨_, rfl⟩
  rw [← hw2] at hRd hFr
  have hle : W.heap.size ≤ w1.heap.size := f1.2.2.1
  obtain ⟨p, hp⟩ : ∃ p, p = w1.heap.size := ⟨_, rfl⟩
  rw [← hp] at hRd hle
  try rw [← hw2]
  try rw [← hp]
  clear C hc f1 hw2 hp
  go_cut [39] (fun t wx => t = .bool (decide (c = 43 ∨ c = 45)) ∧ Hid (Rd p s 0 wx) ∧ Hid (Fr (fun _ => False) W wx))
  case first =>
    rcases I0 with h0 | ⟨hz, I0⟩
    · have hc0 : c = 0 := by rw [HC.out]; unfold Pl.bt; rw [List.getElem?_eq_none (by rw [Pl.len_list]; omega)]; rfl
      have hs0 : s = ByteArray.empty := ByteArray.ext (Array.eq_empty_of_size_eq_zero (show s.data.size = 0 from h0))
      subst hs0
      subst hc0
      go_wp2_with fail
      go_meet
      case rel => exact ⟨rfl, hRd, hFr⟩
    · have hpos : (0 : Int) < (s.size : Int) := by omega
      have hl3 : ¬ s.toList = [] := fun e => by
        rw [ByteArray.toList_eq] at e
        have := Pl.len_list s
        rw [e] at this
        simp at this
        omega
      have hl1 : (s.toList == []) = false := beq_eq_false_iff_ne.2 hl3
      have hl2 : s.toList.isEmpty = false := by
        cases h : s.toList with
        | nil => exact absurd h hl3
        | cons _ _ => rfl
      by_cases h43 : c = 43
      · subst h43
        go_wp2_with fail
        go_meet
        case rel => exact ⟨rfl, hRd, hFr⟩
      by_cases h45 : c = 45
      · subst h45
        go_wp2_with fail
        go_meet
        case rel => exact ⟨rfl, hRd, hFr⟩
      have b43 : ((c : Int) == 43) = false := beq_eq_false_iff_ne.2 (by omega)
      have b45 : ((c : Int) == 45) = false := beq_eq_false_iff_ne.2 (by omega)
      have hd : decide (c = 43 ∨ c = 45) = false := decide_eq_false (by omega)
      go_wp2_with fail
      go_meet
      case rel => exact ⟨by rw [hd], hRd, hFr⟩
  case rest =>
    obtain ⟨ht, R0, F0⟩ := hcut
    subst ht
    go_upto_if 39 with fail
    go_cut [8] (fun b wx => b = .bool (Pl.blw s) ∧ Hid (Rd p s (Pl.sg s) wx) ∧ Hid (Fr (fun _ => False) W wx))
    case first =>
      by_cases hcc : c = 43 ∨ c = 45
      · have hd : decide (c = 43 ∨ c = 45) = true := decide_eq_true hcc
        rw [hd]
        have hsg : Pl.sg s = 1 := by unfold Pl.sg; rw [if_pos (by rw [← HC.out]; exact hcc)]
        obtain ⟨I0, hz⟩ : (∀ W, (Instr.index 9 (.string s) (.int .i64 0)).run Try.prog W = .ok (.int .u8 (c : Int)) W) ∧ 0 < s.size := by
          rcases I0 with h0 | ⟨hz, I0⟩
          · have hc0 : c = 0 := by rw [HC.out]; unfold Pl.bt; rw [List.getElem?_eq_none (by rw [Pl.len_list]; omega)]; rfl
            omega
          · exact ⟨I0, hz⟩
        obtain ⟨r0, r1, r2⟩ := R0.out
        have HSG := Lib.hid hsg
        clear hd hsg
        rcases hcc with rfl | rfl
        · have HB : Hid (Pl.blw s = false) := Lib.hid (by unfold Pl.blw; rw [← HC.out]; rfl)
          clear HC c255
          go_wp2_with fail
          go_meet
          case rel => exact ⟨by rw [HB.out], by rw [HSG.out]; exact Lib.hid (Rd.put (b := 1) R0.out), Lib.hid (Fr.inside F0.out (Fr.setCell (fun q => q = p) _ ⟨p, 1, none⟩ _ rfl) hle)⟩
        · have HB : Hid (Pl.blw s = true) := Lib.hid (by unfold Pl.blw; rw [← HC.out]; rfl)
          clear HC c255
          go_wp2_with fail
          go_meet
          case rel => exact ⟨by rw [HB.out], by rw [HSG.out]; exact Lib.hid (Rd.put (b := 1) R0.out), Lib.hid (Fr.inside F0.out (Fr.setCell (fun q => q = p) _ ⟨p, 1, none⟩ _ rfl) hle)⟩
      · have hd : decide (c = 43 ∨ c = 45) = false := decide_eq_false hcc
        rw [hd]
        have HSG : Hid (Pl.sg s = 0) := Lib.hid (by unfold Pl.sg; rw [if_neg (by rw [← HC.out]; exact hcc)])
        have HB : Hid (Pl.blw s = false) := Lib.hid (by unfold Pl.blw; rw [← HC.out]; exact decide_eq_false (by omega))
        clear hd hcc
        go_wp2_with fail
        go_meet
        case rel => exact ⟨by rw [HB.out], by rw [HSG.out]; exact R0, F0⟩
    case rest =>
      obtain ⟨hb, R1, F1⟩ := hcut
      subst hb
      clear R0 F0 hRd hFr I0 c255
      obtain ⟨b, hbb⟩ : ∃ b, b = Pl.blw s := ⟨_, rfl⟩
      obtain ⟨a0, ha0⟩ : ∃ a0, a0 = Pl.sg s := ⟨_, rfl⟩
      rw [← ha0] at R1 HR
      rw [← hbb] at HR
      try rw [← hbb]
      have hle0 : a0 ≤ s.size := by
        rw [ha0]
        unfold Pl.sg
        split
        · rename_i hq
          rcases Nat.eq_zero_or_pos s.size with h0 | h0
          · have : Pl.bt s 0 = 0 := by unfold Pl.bt; rw [List.getElem?_eq_none (by rw [Pl.len_list]; omega)]; rfl
            omega
          · omega
        · omega
      have CD := Lib.hid (digits_any p s a0 hle0 hs 2147483648 (by omega) _ R1.out)
      obtain ⟨v0, v1⟩ := Pl.dgs_val s a0 2147483648 (by omega)
      have hn1 := Pl.dgs_len s a0 hle0
      obtain ⟨v, hv⟩ : ∃ v, v = Pl.dvl 2147483648 0 (Pl.dgs s a0) := ⟨_, rfl⟩
      obtain ⟨n, hn⟩ : ∃ n, n = (Pl.dgs s a0).length := ⟨_, rfl⟩
      rw [← hv, ← hn] at CD HR
      rw [← hv] at v0 v1
      rw [← hn] at hn1
      obtain ⟨a1, ha1⟩ : ∃ a1, a1 = a0 + n := ⟨_, rfl⟩
      rw [← ha1] at CD HR hn1
      have hna : n ≤ a1 := by omega
      clear hbb ha0 hv hn ha1 hle0 HC
      go_wp2_with fail
      refine CD.out.mono ?_
      rintro e w3 ⟨rfl, r3, f3⟩
      have R3 := Lib.hid r3
      have F3 : Hid (Fr (fun _ => False) W w3) := Lib.hid (Fr.inside F1.out f3 hle)
      clear CD R1 F1 f3
      obtain ⟨x0, x1, x2⟩ := r3
      by_cases he : a1 = s.size
      · rw [he] at x1 HR
        by_cases hp : 0 < n
        · have hpI : (0 : Int) < (n : Int) := by omega
          have HP := Lib.hid hp
          by_cases hv : 2147483647 < v
          · go_wp2_with fail
            go_ret3
            rw [HR.out]
            unfold Pl.readOf
            rw [if_pos ⟨rfl, HP.out⟩, if_pos (by omega)]
            exact ⟨rfl, F3.out⟩
          · have CS := Lib.hid (signed_sgd v b (by omega) w3)
            go_wp2_with fail
            refine CS.out.mono ?_
            rintro e w4 ⟨rfl, rfl⟩
            go_wp2_with fail
            go_ret3
            rw [HR.out]
            unfold Pl.readOf
            rw [if_pos ⟨rfl, HP.out⟩, if_neg (by omega)]
            exact ⟨rfl, F3.out⟩
        · have hn0 : n = 0 := by omega
          subst hn0
          go_wp2_with fail
          go_ret3
          rw [HR.out]
          unfold Pl.readOf
          rw [if_neg (by omega), if_pos (.inl rfl)]
          exact ⟨rfl, F3.out⟩
      · have hlt : a1 < s.size := by omega
        have T1 : ((a1 : Int) == (s.size : Int)) = false := beq_eq_false_iff_ne.2 (by omega)
        have T1n : (a1 == s.size) = false := beq_eq_false_iff_ne.2 he
        have Ia := fun W => index_at s a1 hlt W
        by_cases h46 : Pl.bt s a1 = 46
        · rw [h46] at Ia
          have H46 := Lib.hid h46
          clear h46
          have hlt' : (a1 : Int) < (s.size : Int) := by omega
          have hs' : (s.size : Int) ≤ 9223372036854775807 := by omega
          have hT : Hid (Pl.read s = Pl.readPart b n v (Pl.dgs s (a1 + 1)) (decide (a1 + 1 + (Pl.dgs s (a1 + 1)).length = s.size))) := Lib.hid (by
            rw [HR.out]
            unfold Pl.readOf
            rw [if_neg (by omega), if_neg (by rw [H46.out]; omega)])
          clear HR
          have R4 : Hid (Rd p s (a1 + 1) (w3.setCell ⟨p, 1, none⟩ (.int .i64 ((a1 + 1 : Nat) : Int)))) := Lib.hid (Rd.put R3.out)
          have F4 : Hid (Fr (fun _ => False) W (w3.setCell ⟨p, 1, none⟩ (.int .i64 ((a1 + 1 : Nat) : Int)))) := Lib.hid (Fr.inside F3.out (Fr.setCell (fun q => q = p) _ ⟨p, 1, none⟩ _ rfl) hle)
          have hcast : ((a1 + 1 : Nat) : Int) = (a1 : Int) + 1 := by omega
          rw [hcast] at R4 F4
          have hle1 : a1 + 1 ≤ s.size := by omega
          have C2 := Lib.hid (fun Z h => digits_any p s (a1 + 1) hle1 hs 0 (by omega) Z h)
          have C3 := Lib.hid (fun Z h => digits_any p s (a1 + 1) hle1 hs 1000000000000 (by omega) Z h)
          obtain ⟨u0, u1⟩ := Pl.dgs_val s (a1 + 1) 1000000000000 (by omega)
          have hm1 := Pl.dgs_len s (a1 + 1) hle1
          obtain ⟨E, hE⟩ : ∃ E, E = Pl.dgs s (a1 + 1) := ⟨_, rfl⟩
          rw [← hE] at C2 C3 hT u0 u1 hm1
          obtain ⟨m, hm⟩ : ∃ m, m = E.length := ⟨_, rfl⟩
          obtain ⟨d, hd⟩ : ∃ d, d = Pl.dvl 0 0 E := ⟨_, rfl⟩
          obtain ⟨u, hu⟩ : ∃ u, u = Pl.dvl 1000000000000 0 E := ⟨_, rfl⟩
          unfold Pl.readPart at hT
          rw [← hm] at C2 C3 hT hm1
          rw [← hd] at C2
          rw [← hu] at C3 hT u0 u1
          clear hE hm hd hu R3 F3
          go_wp2_with fail
          refine (C2.out _ R4.out).mono ?_
          rintro e w5 ⟨rfl, r5, f5⟩
          have R5 := Lib.hid r5
          have F5 := Lib.hid (Fr.inside F4.out f5 hle)
          obtain ⟨y0, y1, y2⟩ := r5
          clear C2 R4 F4 f5
          by_cases hw : a1 + 1 + m = s.size
          · rw [hw] at y1
            by_cases hz : n + m = 0
            · have hn0 : n = 0 := by omega
              have hm0 : m = 0 := by omega
              subst hn0
              subst hm0
              go_wp2_with fail
              go_ret3
              rw [hT.out, if_pos (by simp)]
              exact ⟨rfl, F5.out⟩
            have hzI : ¬ ((n : Int) + (m : Int) = 0) := by omega
            have T3 : (((n : Int) + (m : Int)) == 0) = false := beq_eq_false_iff_ne.2 hzI
            have H1 : Hid (¬ (decide (a1 + 1 + m = s.size) = false ∨ n + m = 0)) := Lib.hid (fun h => h.elim (fun h => by simp [hw] at h) hz)
            have Hw := Lib.hid hw
            clear hw hz
            by_cases h12 : 12 < m
            · have h12I : (12 : Int) < (m : Int) := by omega
              have H12 := Lib.hid h12
              clear h12
              go_wp2_with fail
              go_ret3
              rw [hT.out, if_neg H1.out, if_pos (.inl H12.out)]
              exact ⟨rfl, F5.out⟩
            have h12I : (m : Int) ≤ 12 := by omega
            have H12 := Lib.hid h12
            clear h12
            by_cases hv2 : 16383 < v
            · go_wp2_with fail
              go_ret3
              rw [hT.out, if_neg H1.out, if_pos (.inr hv2)]
              exact ⟨rfl, F5.out⟩
            have R6 : Hid (Rd p s (a1 + 1) (w5.setCell ⟨p, 1, none⟩ (.int .i64 ((a1 + 1 : Nat) : Int)))) := Lib.hid (Rd.put R5.out)
            have F6 : Hid (Fr (fun _ => False) W (w5.setCell ⟨p, 1, none⟩ (.int .i64 ((a1 + 1 : Nat) : Int)))) := Lib.hid (Fr.inside F5.out (Fr.setCell (fun q => q = p) _ ⟨p, 1, none⟩ _ rfl) hle)
            rw [hcast] at R6 F6
            have CT := Lib.hid tens_12
            have hb : 10 ^ m ≤ 10 ^ 12 := Nat.pow_le_pow_right (by omega) (by omega)
            have hb0 : 0 < 10 ^ m := Nat.pow_pos (by omega)
            have CM := Lib.hid (fun Z => tens_any m (by omega) Z)
            obtain ⟨T, hTT⟩ : ∃ T, T = 10 ^ m := ⟨_, rfl⟩
            rw [← hTT] at hb hb0 CM hT
            have hbI : (T : Int) ≤ 1000000000000 := by omega
            have hb0I : 1 ≤ (T : Int) := by omega
            have CN := Lib.hid (fun Z => nearest_any (u * 65536) (T : Int) (by omega) (by omega) Z)
            obtain ⟨x0', x1'⟩ := Pl.nst_le (u * 65536) (T : Int) (by omega) (by omega)
            obtain ⟨x, hx⟩ : ∃ x, x = Pl.nst (u * 65536) (T : Int) := ⟨_, rfl⟩
            rw [← hx] at CN hT x0' x1'
            rw [if_neg H1.out, if_neg (fun h => h.elim H12.out hv2)] at hT
            clear hTT hb hb0 hx H1 H12 Hw R5 F5
            go_wp2_with fail
            refine (CT.out _).mono ?_
            rintro e w6 ⟨rfl, rfl⟩
            go_wp2_with fail
            refine (C3.out _ R6.out).mono ?_
            rintro e w7 ⟨rfl, r7, f7⟩
            have F7 := Lib.hid (Fr.inside F6.out f7 hle)
            clear C3 R6 F6 f7 r7
            go_wp2_with fail
            refine (CM.out _).mono ?_
            rintro e w8 ⟨rfl, rfl⟩
            go_wp2_with fail
            refine (CN.out _).mono ?_
            rintro e w9 ⟨rfl, g9⟩
            have F9 := Lib.hid (F7.out.trans (Fr.of_grown _ g9))
            clear F7 CN CM CT
            by_cases hbig : 1073741823 < v * 65536 + x
            · go_wp2_with fail
              go_ret3
              rw [hT.out, if_pos hbig]
              exact ⟨rfl, F9.out⟩
            · have CS := Lib.hid (signed_sgd (v * 65536 + x) b (by omega) w9)
              go_wp2_with fail
              refine CS.out.mono ?_
              rintro e w10 ⟨rfl, rfl⟩
              go_wp2_with fail
              go_ret3
              rw [hT.out, if_neg (by omega)]
              exact ⟨rfl, F9.out⟩
          · have T3 : ((a1 : Int) + 1 + (m : Int) == (s.size : Int)) = false := beq_eq_false_iff_ne.2 (by omega)
            have T3n : ((a1 + 1 + m : Nat) == s.size) = false := beq_eq_false_iff_ne.2 hw
            have Hw := Lib.hid hw
            have hwI : ¬ ((a1 : Int) + 1 + (m : Int) = (s.size : Int)) := by omega
            clear hw
            go_wp2_with fail
            go_ret3
            rw [hT.out, if_pos (.inl (decide_eq_false Hw.out))]
            exact ⟨rfl, F5.out⟩
        · have T2 : ((Pl.bt s a1 : Int) == 46) = false := beq_eq_false_iff_ne.2 (by omega)
          have H46 := Lib.hid h46
          clear h46
          go_wp2_with fail
          go_ret3
          rw [HR.out]
          unfold Pl.readOf
          rw [if_neg (by omega), if_pos (.inr H46.out)]
          exact ⟨rfl, F3.out⟩

/-- numtext.Read of any string -/
theorem read_any (s : ByteArray) (hs : s.size ≤ 9223372036854775807) (W : World) :
    Calls Try.prog 13 #[.string s] W fun e w' => e = .returned (.tuple #[.int .i64 (Pl.read s).1, .int .i64 (Pl.read s).2.1, .int .i64 (Pl.read s).2.2]) ∧ Fr (fun _ => False) W w' := by
  cases h : Pl.basedV s with
  | none => exact read_plain s hs h W
  | some v => exact read_based s hs v h W
end Go.Proofs.Ytpfkijjpophobaa
