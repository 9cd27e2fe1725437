/- numtext.based: the walk. -/
import Derived.Test.YtpfkijjpophobaaN7
namespace Go.Proofs.Ytpfkijjpophobaa
set_option linter.unusedVariables false
open Go.RowKit

set_option maxHeartbeats 4000000 in
set_option maxRecDepth 100000 in
theorem based_any (s : ByteArray) (hs : s.size ≤ 9223372036854775807) (hb : Pl.basedIf s) (W : World) :
    Calls Try.prog 33 #[.string s] W fun e w' => (∀ v, Pl.bvl (Pl.dvl 1000 0 (Pl.dgs s 0)) 0 (Pl.bts s ((Pl.dgs s 0).length + 1)) = some v → e = .returned (.tuple #[.int .i64 v, .bool true])) ∧ (Pl.bvl (Pl.dvl 1000 0 (Pl.dgs s 0)) 0 (Pl.bts s ((Pl.dgs s 0).length + 1)) = none → e = .returned (.tuple #[.int .i64 0, .bool false])) ∧ Fr (fun _ => False) W w' := by
  obtain ⟨b1, b2, b3, b4, b5, b6, b7⟩ := hb
  have hRd : Rd W.heap.size s 0 (W.alloc (.cells #[.string s, .int .i64 0] 57)) := ⟨by simp [go_sem], by simp [go_sem], fun o => by rw [frozen?_alloc_cells]; simp [World.frozen?]⟩
  have CD := Lib.hid (digits_any W.heap.size s 0 (by omega) hs 1000 (by omega) _ hRd)
  obtain ⟨n, hn⟩ : ∃ n, n = (Pl.dgs s 0).length := ⟨_, rfl⟩
  obtain ⟨B, hB⟩ : ∃ B, B = Pl.dvl 1000 0 (Pl.dgs s 0) := ⟨_, rfl⟩
  rw [← hn, ← hB] at CD ⊢
  rw [← hn] at b1 b2 b6 b7
  rw [← hB] at b4 b5
  have hs1 : 1 < s.size := by omega
  have I0 : ∀ W, (Instr.index 9 (.string s) (.int .i64 0)).run Try.prog W = .ok (.int .u8 (Pl.bt s 0 : Int)) W := fun W => index_at s 0 (by omega) W
  have In := fun W => index_at s n (by omega) W
  have c3 : ((Pl.bt s 0 : Int) == 48) = false := beq_eq_false_iff_ne.2 (by omega)
  rw [b7] at In
  have n1 : 1 ≤ (n : Int) := by omega
  have n2 : (n : Int) ≤ 2 := by omega
  have n3 : (n : Int) < (s.size : Int) - 1 := by omega
  have n4 : (s.size : Int) ≤ 9223372036854775807 := by omega
  have t1 : decide ((n : Int) < 1) = false := decide_eq_false (by omega)
  have t2 : decide ((2 : Int) < (n : Int)) = false := decide_eq_false (by omega)
  have t4 : decide (B < 2) = false := decide_eq_false (by omega)
  have t5 : decide (36 < B) = false := decide_eq_false (by omega)
  have t6 : decide ((s.size : Int) - 1 ≤ (n : Int)) = false := decide_eq_false (by omega)
  clear hn hB hRd
  go_enter Try.func33, Try.ntmps33
  go_wp2_with fail
  refine CD.out.mono ?_
  rintro e w1 ⟨rfl, r1, f1⟩
  rw [Nat.zero_add] at r1
  obtain ⟨r0, r1, r2⟩ := r1
  have F1 := Lib.hid f1
  clear CD f1
  go_wp2_with fail
  have gW := F1.out
  have KG : Hid (∀ Z, Grown w1 Z → Fr (fun q => q = W.heap.size) (W.alloc (.cells #[.string s, .int .i64 0] 57)) Z) := Lib.hid (fun Z g => F1.out.trans (Fr.of_grown _ g))
  clear gW t1 t2 t4 t5 t6 c3 I0 In b3 b7
  go_loopw [2, 7] (fun v i wr => ∃ (k : Nat) (x : Int), v = .int .i64 x ∧ i = .int .i64 (k : Int) ∧ 0 ≤ x ∧ x ≤ 2147483648 ∧ k ≤ s.size ∧ Hid (Pl.bvl B 0 (Pl.bts s (n + 1)) = Pl.bvl B x (Pl.bts s k)) ∧ Grown w1 wr) (fun _ i _ => ((s.size : Int) - intOf i).toNat)
  case atStart => exact ⟨n + 1, 0, rfl, by simp, by omega, by omega, by omega, Lib.hid rfl, Grown.refl w1⟩
  case round =>
    obtain ⟨k, x, rfl, rfl, hx0, hx1, hk, HE, g1⟩ := hrel
    have fin : ∀ Z, Grown w1 Z → Fr (fun _ => False) W Z := fun Z g => (Fr.alloc (fun _ => False) W _).trans' (KG.out Z g) (fun i q => .inr (by omega))
    have FIN := Lib.hid fin
    clear fin
    rcases Nat.lt_or_eq_of_le hk with hlt | heq
    · have hst := Pl.bts_step s k hlt
      have Ik := fun W => index_at s k hlt W
      have hcb := Pl.bt_lt s k
      have CV := Lib.hid (fun Z => value_any (Pl.bt s k : Int) (by omega) Z)
      obtain ⟨c, hc⟩ : ∃ c, c = Pl.bt s k := ⟨_, rfl⟩
      rw [← hc] at hst Ik CV hcb
      obtain ⟨d, hd⟩ : ∃ d, d = Pl.cv (c : Int) := ⟨_, rfl⟩
      have hd1 : -1 ≤ d := by rw [hd]; unfold Pl.cv; (repeat split) <;> omega
      have hd2 : d ≤ 35 := by rw [hd]; unfold Pl.cv; (repeat split) <;> omega
      rw [← hd] at CV
      have hltI : (k : Int) < (s.size : Int) := by omega
      have HST := Lib.hid hst
      have HD := Lib.hid hd
      clear hst hc hd
      go_wp2_with fail
      refine (CV.out _).mono ?_
      rintro e w2 ⟨rfl, g2⟩
      have G2 := grown_trans g1 g2
      clear CV g1 g2
      have BAD : Hid (d < 0 ∨ B ≤ d → Pl.bvl B 0 (Pl.bts s (n + 1)) = none) := Lib.hid (fun hb => by
        rw [HE.out, HST.out]
        simp only [Pl.bvl]
        rw [← HD.out, if_pos hb])
      have GOOD : Hid (¬ (d < 0 ∨ B ≤ d) → Pl.bvl B 0 (Pl.bts s (n + 1)) = Pl.bvl B (min (x * B + d) 2147483648) (Pl.bts s (k + 1))) := Lib.hid (fun hb => by
        rw [HE.out, HST.out]
        simp only [Pl.bvl]
        rw [← HD.out, if_neg hb])
      have hm0 : 0 ≤ x * B := Int.mul_nonneg hx0 (by omega)
      have hm1 : x * B ≤ 2147483648 * 36 := Int.mul_le_mul hx1 b5 (by omega) (by omega)
      by_cases hneg : d < 0
      · go_wp2_with fail
        go_ret2
        have hb := BAD.out (.inl hneg)
        exact ⟨fun v hv => (by rw [hb] at hv; cases hv), fun _ => rfl, FIN.out _ G2⟩
      · by_cases hge : B ≤ d
        · go_wp2_with fail
          go_ret2
          have hb := BAD.out (.inr hge)
          exact ⟨fun v hv => (by rw [hb] at hv; cases hv), fun _ => rfl, FIN.out _ G2⟩
        · have hg := GOOD.out (by omega)
          have HG := Lib.hid hg
          clear hg BAD GOOD
          go_wp2_with fail
          refine ⟨⟨k + 1, min (x * B + d) 2147483648, ?_, by simp, by omega, by omega, by omega, HG, G2⟩, by simp [intOf] <;> omega⟩
          congr 1
          split <;> omega
    · subst heq
      have hnil := Pl.bts_end s s.size (Nat.le_refl _)
      have HX := HE.out
      rw [hnil] at HX
      have HXX := Lib.hid HX
      clear hnil HX
      go_wp2_with fail
      go_ret2
      refine ⟨fun v hv => ?_, fun hv => ?_, FIN.out _ g1⟩
      · rw [HXX.out] at hv
        simp only [Pl.bvl] at hv
        injection hv with hv
        rw [← hv]
        rfl
      · rw [HXX.out] at hv
        simp [Pl.bvl] at hv
end Go.Proofs.Ytpfkijjpophobaa
