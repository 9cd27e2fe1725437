/- numtext.digits: the walk. -/
import Derived.Test.YtpfkijjpophobaaN4
namespace Go.Proofs.Ytpfkijjpophobaa
set_option linter.unusedVariables false
open Go.RowKit

set_option maxHeartbeats 2000000 in
set_option maxRecDepth 100000 in
theorem digits_any (p : Nat) (s : ByteArray) (at_ : Nat) (hat : at_ ≤ s.size) (hs : s.size ≤ 9223372036854775807) (most : Int) (hm : 0 ≤ most ∧ most ≤ 1000000000000) (W : World) (h : Rd p s at_ W) :
    Calls Try.prog 35 #[.func (Fn.func 34) #[.pointer (some ⟨p, 0, none⟩)] #[], .int .i64 most] W fun e w' => e = .returned (.tuple #[.int .i64 (Pl.dvl most 0 (Pl.dgs s at_)), .int .i64 ((Pl.dgs s at_).length : Int)]) ∧ Rd p s (at_ + (Pl.dgs s at_).length) w' ∧ Fr (fun q => q = p) W w' := by
  obtain ⟨hm0, hm1⟩ := hm
  have H := Lib.hid h
  clear h
  go_enter Try.func35, Try.ntmps35
  go_wp2_with fail
  go_loopw [4, 5] (fun v n wr => ∃ (k : Nat) (pre : List Nat) (x : Int), v = .int .i64 x ∧ n = .int .i64 (k : Int) ∧ 0 ≤ x ∧ x ≤ most ∧ at_ + k ≤ s.size ∧ pre.length = k ∧ Hid (x = Pl.dvl most 0 pre) ∧ Hid (Pl.dgs s at_ = pre ++ Pl.dgs s (at_ + k)) ∧ Hid (Rd p s (at_ + k) wr) ∧ Hid (Fr (fun q => q = p) W wr)) (fun _ n _ => ((s.size : Int) - (at_ : Int) - intOf n).toNat + 1)
  case atStart => exact ⟨0, [], 0, rfl, rfl, by omega, by omega, by omega, rfl, Lib.hid rfl, Lib.hid (by simp), H, Lib.hid (Fr.refl _ W)⟩
  case round =>
    obtain ⟨k, pre, x, rfl, rfl, hx0, hx1, hk, hpl, HX, HP, HR, HF⟩ := hrel
    rcases Nat.lt_or_eq_of_le hk with hlt | heq
    · have hcb := Pl.bt_lt s (at_ + k)
      by_cases hd : 48 ≤ Pl.bt s (at_ + k) ∧ Pl.bt s (at_ + k) ≤ 57
      · have hst := Pl.dgs_step s (at_ + k) hlt
        rw [if_pos hd] at hst
        have CD := Lib.hid (digit_ok p s (at_ + k) (Pl.bt s (at_ + k)) hlt hs (index_at s (at_ + k) hlt) hd.1 hd.2 wr HR.out)
        obtain ⟨c, hc⟩ : ∃ c, c = Pl.bt s (at_ + k) := ⟨_, rfl⟩
        rw [← hc] at CD hst hd
        obtain ⟨d, hdd⟩ : ∃ d : Nat, d = c - 48 := ⟨_, rfl⟩
        rw [← hdd] at CD
        have hd9 : (d : Int) ≤ 9 := by omega
        have hcd : (c : Int) - 48 = (d : Int) := by omega
        have HST := Lib.hid hst
        clear hst hc hcb hdd
        go_wp2_with fail
        refine CD.out.mono ?_
        rintro e w1 ⟨rfl, r1, f1⟩
        have R1 := Lib.hid r1
        have F1 := Lib.hid f1
        clear r1 f1 CD
        go_wp2_with fail
        refine ⟨⟨k + 1, pre ++ [c], _, rfl, by simp, by split <;> omega, by split <;> omega, by omega, by simp [hpl], Lib.hid ?_, Lib.hid ?_, R1, Lib.hid (HF.out.trans F1.out)⟩, by simp [intOf]; omega⟩
        · rw [Pl.dvl_append, ← HX.out]
          simp only [Pl.dvl, hcd]
          split <;> omega
        · rw [HP.out, HST.out, List.append_assoc]
          rfl
      · have hnil : Pl.dgs s (at_ + k) = [] := by rw [Pl.dgs_step s (at_ + k) hlt, if_neg hd]
        have CD := Lib.hid (digit_no p s (at_ + k) (Pl.bt s (at_ + k)) hlt hs (index_at s (at_ + k) hlt) (by omega) hcb wr HR.out)
        go_wp2_with fail
        refine CD.out.mono ?_
        rintro e w1 ⟨rfl, g1⟩
        go_wp2_with fail
        go_ret2
        have hlen : (Pl.dgs s at_).length = k := by rw [HP.out, hnil, List.append_nil, hpl]
        have hval : Pl.dvl most 0 (Pl.dgs s at_) = x := by rw [HP.out, hnil, List.append_nil, ← HX.out]
        rw [hlen, hval]
        exact ⟨rfl, ⟨grown_cell g1 HR.out.1, grown_cell g1 HR.out.2.1, fun o => by rw [g1.2.1]; exact HR.out.2.2 o⟩, HF.out.trans (Fr.of_grown _ g1)⟩
    · have hnil : Pl.dgs s (at_ + k) = [] := Pl.dgs_end s _ (by omega)
      have CD := Lib.hid (digit_end p s (at_ + k) (by omega) (by omega) wr HR.out)
      go_wp2_with fail
      refine CD.out.mono ?_
      rintro e w1 ⟨rfl, g1⟩
      go_wp2_with fail
      go_ret2
      have hlen : (Pl.dgs s at_).length = k := by rw [HP.out, hnil, List.append_nil, hpl]
      have hval : Pl.dvl most 0 (Pl.dgs s at_) = x := by rw [HP.out, hnil, List.append_nil, ← HX.out]
      rw [hlen, hval]
      exact ⟨rfl, ⟨grown_cell g1 HR.out.1, grown_cell g1 HR.out.2.1, fun o => by rw [g1.2.1]; exact HR.out.2.2 o⟩, HF.out.trans (Fr.of_grown _ g1)⟩
end Go.Proofs.Ytpfkijjpophobaa
