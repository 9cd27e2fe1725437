/- The reference's Do, by one plain function. -/
import Derived.Test.YtfmmomdmemcbbaaGreatZf
import Derived.Test.YtfmmomdmemcbbaaGreatM9
set_option maxHeartbeats 4000000
set_option maxRecDepth 100000
namespace Go.Proofs.YtfmmomdmemcbbaaGreat
set_option linter.unusedVariables false
set_option linter.unusedSimpArgs false
open Go.RowKit
theorem Fr.of_kept (P : Nat → Prop) {W W' : World} (h : Kept W W') : Fr P W W' := ⟨h.1.1, h.1.2.1, h.2.2, fun c hc _ => h.1.block hc (fun p f => f.elim)⟩
theorem rfam_yes (n : Int) (h : 1 ≤ n ∧ n ≤ 38) (W : World) : Calls Tryz.prog 26 #[.int .i64 n] W fun e w' => e = .returned (.int .i64 1) ∧ Kept W w' := by
  have := reffamily_any _ Pl.opT3_is n (by omega) W
  rw [Pl.fam_is Pl.opT3_is, if_neg (by omega), if_pos h.2] at this
  exact this
theorem rfam_no (n : Int) (hn : -9223372036854775808 ≤ n ∧ n ≤ 9223372036854775807) (h : ¬ (1 ≤ n ∧ n ≤ 38)) : ∃ k, (k == 1) = false ∧ ∀ W, Calls Tryz.prog 26 #[.int .i64 n] W fun e w' => e = .returned (.int .i64 k) ∧ Kept W w' := by
  refine ⟨_, ?_, fun W => reffamily_any _ Pl.opT3_is n hn W⟩
  rw [Pl.fam_is Pl.opT3_is, beq_eq_false_iff_ne]
  by_cases h0 : n < 1
  · rw [if_pos h0]; decide
  · rw [if_neg h0, if_neg (by omega)]
    repeat' split
    all_goals decide
section
variable (p : Nat) (L : List Pl.Ob) (W : World) (hlen : L.length ≤ 200) (h : RS (p + 1) p L W) (hall : ∀ o ∈ L, Pl.mayO o) (n : Int) (hn : -9223372036854775808 ≤ n ∧ n ≤ 9223372036854775807)
include hlen h hall hn
omit hlen hall in
theorem rDo_no (hf : ¬ (1 ≤ n ∧ n ≤ 38)) :
    Calls Tryz.prog 10 #[.pointer (some ⟨p, 0, none⟩), .int .i64 n] W fun e w' => e = .returned (.int .i64 (Pl.doR L n).1) ∧ RS (p + 1) p (Pl.doR L n).2 w' ∧ Fr (fun c => c = p) W w' := by
  rw [show Pl.doR L n = (1, L) from by unfold Pl.doR; rw [if_pos hf]]
  obtain ⟨k, hk, FM0⟩ := rfam_no n hn hf
  have FM := Lib.hid FM0
  have HS := Lib.hid h
  clear h hn hf FM0
  go_enter Tryz.func10, Tryz.ntmps10
  go_wp2_with fail
  refine (FM.out _).mono ?_
  rintro e w1 ⟨rfl, k1⟩
  have F1 := Lib.hid (Fr.of_kept (fun _ => False) k1)
  clear k1 FM
  go_wp2_with fail
  go_ret
  exact ⟨rfl, HS.out.fresh F1.out, F1.out.weaken (fun _ f => f.elim)⟩
omit hn in
theorem rDo_yes (hf : 1 ≤ n ∧ n ≤ 38) :
    Calls Tryz.prog 10 #[.pointer (some ⟨p, 0, none⟩), .int .i64 n] W fun e w' => e = .returned (.int .i64 (Pl.doR L n).1) ∧ RS (p + 1) p (Pl.doR L n).2 w' ∧ Fr (fun c => c = p) W w' := by
  have FM := Lib.hid (fun Z => rfam_yes n hf Z)
  have FN := Lib.hid (fun Z => refname_any _ Pl.opT3_is n Z)
  have CD := Lib.hid (fun q Z (hZ : RS (p + 1) q L Z) (hb : p + 1 ≤ Z.heap.size) => rdo_any (p + 1) q L Z hlen hZ hb hall n hf)
  have HSF := Lib.hid (Pl.doR_safe L n)
  generalize Pl.opWord (rangedText Tryz.f33) n = WD at FN CD
  generalize Pl.doR L n = R at CD HSF ⊢
  have HR := Lib.hid h
  obtain ⟨v, hS⟩ := h
  have HV := Lib.hid hS
  obtain ⟨ao, cap, rfl⟩ := hS.slice
  obtain ⟨M, hM⟩ : ∃ M, M = L.length := ⟨_, rfl⟩
  have c0 := hS.1
  have hp := hS.2.2.2.2
  have HP := Lib.hid hp
  rw [← hM] at c0
  have HC0 := Lib.hid c0
  have HM := Lib.hid hM
  clear hlen hall hf hS hM
  go_enter Tryz.func10, Tryz.ntmps10
  go_wp2_with fail
  refine (FM.out _).mono ?_
  rintro e w1 ⟨rfl, k1⟩
  have F1 := Lib.hid (Fr.of_kept (fun _ => False) k1)
  have d0 : w1.cell? ⟨p, 0, none⟩ = some (.slice ao M cap) := (F1.out.cell (a := ⟨p, 0, none⟩) hp (fun f => f)).trans HC0.out
  clear k1 FM c0
  go_wp2_with fail
  refine (FN.out _).mono ?_
  rintro e w2 ⟨rfl, k2⟩
  have F2 := Lib.hid ((Fr.alloc (fun _ => False) w1 (.cells #[.slice ao M cap] 32)).trans (Fr.of_kept (fun _ => False) k2))
  have HQ : Hid (RS (p + 1) w1.heap.size L w2) := Lib.hid (by
    have hg := own_lt HV.out.2.2.1
    have hV : StkV (p + 1) w1.heap.size (.slice ao L.length cap) L (w1.alloc (.cells #[.slice ao M cap] 32)) := by
      refine ⟨by rw [HM.out]; simp [go_sem], by rw [frozen?_alloc_cells]; simp [World.frozen?], own_fr (own_fr HV.out.2.2.1 F1.out (fun _ _ f => f)) (Fr.alloc (fun _ => False) _ _) (fun _ _ f => f), fun q => ?_, by simp⟩
      have := hg _ q
      have := F1.out.2.2.1
      omega
    exact RS.fresh ⟨_, hV⟩ (Fr.of_kept _ k2))
  have HW := Lib.hid (show W.heap.size ≤ w1.heap.size from F1.out.2.2.1)
  have HW2 := Lib.hid (show w1.heap.size < w2.heap.size from Nat.lt_of_lt_of_le (by simp) (Fr.of_kept (fun _ => False) k2).2.2.1)
  clear k2 FN d0 hp
  obtain ⟨q, hq⟩ : ∃ q, q = w1.heap.size := ⟨_, rfl⟩
  rw [← hq] at HQ HW HW2 ⊢
  clear hq
  go_wp2_with fail
  refine (CD.out _ _ HQ.out (by have := HP.out; have := HW.out; have := HW2.out; omega)).mono ?_
  rintro e w3 ⟨rfl, hs, hf⟩
  have F3 := Lib.hid (((F1.out.trans F2.out).trans' hf (fun i e => .inr (by rw [e]; exact HW.out))) : Fr (fun _ => False) W w3)
  have HS3 := Lib.hid hs
  have c3 : w3.cell? ⟨p, 0, none⟩ = some (.slice ao M cap) := (F3.out.cell (a := ⟨p, 0, none⟩) HP.out (fun f => f)).trans HC0.out
  have f3 : w3.frozen? ⟨p, 0, none⟩ = false := (F3.out.frozen (a := ⟨p, 0, none⟩) HP.out (fun f => f)).trans HV.out.2.1
  clear hs hf CD HQ F1 F2
  obtain ⟨er, RL⟩ := R
  by_cases h0 : er = 0
  · subst h0
    obtain ⟨v', hS'⟩ := HS3.out rfl
    obtain ⟨a3, cap3, rfl⟩ := hS'.slice
    have HV3 := Lib.hid hS'
    have e3 := hS'.1
    have HPS := Lib.hid (show p < w3.heap.size from Nat.lt_of_lt_of_le HP.out F3.out.2.2.1)
    obtain ⟨M3, hM3⟩ : ∃ M3, M3 = RL.length := ⟨_, rfl⟩
    rw [← hM3] at e3
    have HM3 := Lib.hid hM3
    clear hS' HS3 HSF hM3
    go_wp2_with fail
    go_ret
    have hne : ∀ g, (Value.slice a3 RL.length cap3).ownBlock = some g → ¬ g = p := fun g r e => by
      have := own_base HV3.out.2.2.1 g r
      omega
    rw [HM3.out]
    exact ⟨rfl, ⟨_, World.cell?_setCell_same' _ _ _ (by rw [c3]; rfl), by simpa using f3, own_fr (P := fun c => c = p) HV3.out.2.2.1 (Fr.setCell _ _ _ _ rfl) hne, fun r => hne p r rfl, by simpa using HPS.out⟩, (F3.out.weaken (fun _ f => f.elim)).trans (Fr.setCell _ _ _ _ rfl)⟩
  · have g0 : (er == 0) = false := beq_eq_false_iff_ne.2 h0
    have hRL : RL = L := HSF.out h0
    clear c3 f3 HS3
    go_wp2_with fail
    go_ret
    exact ⟨rfl, HR.out.fresh F3.out, F3.out.weaken (fun _ f => f.elim)⟩
theorem rDo_any :
    Calls Tryz.prog 10 #[.pointer (some ⟨p, 0, none⟩), .int .i64 n] W fun e w' => e = .returned (.int .i64 (Pl.doR L n).1) ∧ RS (p + 1) p (Pl.doR L n).2 w' ∧ Fr (fun c => c = p) W w' := by
  by_cases hf : 1 ≤ n ∧ n ≤ 38
  · exact rDo_yes p L W hlen h hall n hf
  · exact rDo_no p L W h n hn hf
end
end Go.Proofs.YtfmmomdmemcbbaaGreat
