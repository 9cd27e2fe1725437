/- The reference's do and Do, by one plain function. -/
import Derived.Test.YtfmmomdmemcbbaaGreatZe
import Derived.Test.YtfmmomdmemcbbaaGreatPB
import Derived.Test.YtfmmomdmemcbbaaGreatM7
set_option maxHeartbeats 4000000
set_option maxRecDepth 100000
namespace Go.Proofs.YtfmmomdmemcbbaaGreat
set_option linter.unusedVariables false
set_option linter.unusedSimpArgs false
open Go.RowKit
theorem words_are : (List.range 38).map (fun (i : Nat) => Pl.opWord (rangedText Tryz.f33) ((i : Int) + 1)) = [⟨#[112, 111, 112]⟩, ⟨#[101, 120, 99, 104]⟩, ⟨#[100, 117, 112]⟩, ⟨#[105, 110, 100, 101, 120]⟩, ⟨#[114, 111, 108, 108]⟩, ⟨#[99, 108, 101, 97, 114]⟩, ⟨#[99, 111, 117, 110, 116]⟩, ⟨#[109, 97, 114, 107]⟩, ⟨#[99, 111, 117, 110, 116, 116, 111, 109, 97, 114, 107]⟩, ⟨#[99, 108, 101, 97, 114, 116, 111, 109, 97, 114, 107]⟩, ⟨#[97, 100, 100]⟩, ⟨#[115, 117, 98]⟩, ⟨#[109, 117, 108]⟩, ⟨#[100, 105, 118]⟩, ⟨#[105, 100, 105, 118]⟩, ⟨#[109, 111, 100]⟩, ⟨#[110, 101, 103]⟩, ⟨#[97, 98, 115]⟩, ⟨#[99, 101, 105, 108, 105, 110, 103]⟩, ⟨#[102, 108, 111, 111, 114]⟩, ⟨#[114, 111, 117, 110, 100]⟩, ⟨#[116, 114, 117, 110, 99, 97, 116, 101]⟩, ⟨#[115, 113, 114, 116]⟩, ⟨#[115, 105, 110]⟩, ⟨#[99, 111, 115]⟩, ⟨#[97, 116, 97, 110]⟩, ⟨#[97, 110, 100]⟩, ⟨#[111, 114]⟩, ⟨#[120, 111, 114]⟩, ⟨#[110, 111, 116]⟩, ⟨#[98, 105, 116, 115, 104, 105, 102, 116]⟩, ⟨#[116, 114, 117, 101]⟩, ⟨#[102, 97, 108, 115, 101]⟩, ⟨#[110, 117, 108, 108]⟩, ⟨#[109, 105, 110]⟩, ⟨#[109, 97, 120]⟩, ⟨#[91]⟩, ⟨#[60, 60]⟩] := by decide +kernel
theorem word_at (n : Int) (h : 1 ≤ n ∧ n ≤ 38) : ([(⟨#[112, 111, 112]⟩ : ByteArray), ⟨#[101, 120, 99, 104]⟩, ⟨#[100, 117, 112]⟩, ⟨#[105, 110, 100, 101, 120]⟩, ⟨#[114, 111, 108, 108]⟩, ⟨#[99, 108, 101, 97, 114]⟩, ⟨#[99, 111, 117, 110, 116]⟩, ⟨#[109, 97, 114, 107]⟩, ⟨#[99, 111, 117, 110, 116, 116, 111, 109, 97, 114, 107]⟩, ⟨#[99, 108, 101, 97, 114, 116, 111, 109, 97, 114, 107]⟩, ⟨#[97, 100, 100]⟩, ⟨#[115, 117, 98]⟩, ⟨#[109, 117, 108]⟩, ⟨#[100, 105, 118]⟩, ⟨#[105, 100, 105, 118]⟩, ⟨#[109, 111, 100]⟩, ⟨#[110, 101, 103]⟩, ⟨#[97, 98, 115]⟩, ⟨#[99, 101, 105, 108, 105, 110, 103]⟩, ⟨#[102, 108, 111, 111, 114]⟩, ⟨#[114, 111, 117, 110, 100]⟩, ⟨#[116, 114, 117, 110, 99, 97, 116, 101]⟩, ⟨#[115, 113, 114, 116]⟩, ⟨#[115, 105, 110]⟩, ⟨#[99, 111, 115]⟩, ⟨#[97, 116, 97, 110]⟩, ⟨#[97, 110, 100]⟩, ⟨#[111, 114]⟩, ⟨#[120, 111, 114]⟩, ⟨#[110, 111, 116]⟩, ⟨#[98, 105, 116, 115, 104, 105, 102, 116]⟩, ⟨#[116, 114, 117, 101]⟩, ⟨#[102, 97, 108, 115, 101]⟩, ⟨#[110, 117, 108, 108]⟩, ⟨#[109, 105, 110]⟩, ⟨#[109, 97, 120]⟩, ⟨#[91]⟩, ⟨#[60, 60]⟩][(n - 1).toNat]?) = some (Pl.opWord (rangedText Tryz.f33) n) := by
  rw [← words_are, List.getElem?_map, List.getElem?_range (by omega)]
  simp only [Option.map_some]
  rw [show (((n - 1).toNat : Nat) : Int) + 1 = n by omega]
section
variable (base p : Nat) (L : List Pl.Ob) (W : World) (hlen : L.length ≤ 200) (h : RS base p L W) (hb : base ≤ W.heap.size) (hall : ∀ o ∈ L, Pl.mayO o)
include hlen h hb hall
theorem rdo_move (NM : ByteArray) (n : Int) (hN : (n = 1 ∧ NM = ⟨#[112, 111, 112]⟩) ∨ (n = 2 ∧ NM = ⟨#[101, 120, 99, 104]⟩) ∨ (n = 3 ∧ NM = ⟨#[100, 117, 112]⟩) ∨ (n = 4 ∧ NM = ⟨#[105, 110, 100, 101, 120]⟩) ∨ (n = 5 ∧ NM = ⟨#[114, 111, 108, 108]⟩)) :
    Calls Tryz.prog 27 #[.pointer (some ⟨p, 0, none⟩), .string NM] W fun e w' => RPost base p W (Pl.doR L n) e w' := by
  have CX := Lib.hid (rmove_any base p L W hlen h hb hall NM n hN)
  rw [show Pl.doR L n = Pl.roundR L n from by unfold Pl.doR; rw [if_neg (by omega), if_pos (by omega)]]
  generalize Pl.roundR L n = R at CX ⊢
  clear hlen h hb hall
  rcases hN with ⟨rfl, rfl⟩ | ⟨rfl, rfl⟩ | ⟨rfl, rfl⟩ | ⟨rfl, rfl⟩ | ⟨rfl, rfl⟩
  all_goals
    go_enter Tryz.func27, Tryz.ntmps27
    go_wp2_with fail
    refine CX.out.mono ?_
    rintro e w2 ⟨rfl, hs, hf⟩
    have H2 := Lib.hid (And.intro hs hf)
    clear hs hf CX
    go_wp2_with fail
    go_ret
    exact ⟨rfl, H2.out⟩
theorem rdo_two (NM : ByteArray) (n : Int) (hN : (n = 11 ∧ NM = ⟨#[97, 100, 100]⟩) ∨ (n = 12 ∧ NM = ⟨#[115, 117, 98]⟩) ∨ (n = 13 ∧ NM = ⟨#[109, 117, 108]⟩) ∨ (n = 14 ∧ NM = ⟨#[100, 105, 118]⟩)) :
    Calls Tryz.prog 27 #[.pointer (some ⟨p, 0, none⟩), .string NM] W fun e w' => RPost base p W (Pl.doR L n) e w' := by
  have CX := Lib.hid (rtwo_any base p L W hlen h hb hall NM n hN)
  rw [show Pl.doR L n = Pl.twoR L n from by unfold Pl.doR; rw [if_neg (by omega), if_neg (by omega), if_pos (by omega)]]
  generalize Pl.twoR L n = R at CX ⊢
  clear hlen h hb hall
  rcases hN with ⟨rfl, rfl⟩ | ⟨rfl, rfl⟩ | ⟨rfl, rfl⟩ | ⟨rfl, rfl⟩
  all_goals
    go_enter Tryz.func27, Tryz.ntmps27
    go_wp2_with fail
    refine CX.out.mono ?_
    rintro e w2 ⟨rfl, hs, hf⟩
    have H2 := Lib.hid (And.intro hs hf)
    clear hs hf CX
    go_wp2_with fail
    go_ret
    exact ⟨rfl, H2.out⟩
theorem rdo_parts (NM : ByteArray) (n : Int) (hN : (n = 15 ∧ NM = ⟨#[105, 100, 105, 118]⟩) ∨ (n = 16 ∧ NM = ⟨#[109, 111, 100]⟩) ∨ (n = 31 ∧ NM = ⟨#[98, 105, 116, 115, 104, 105, 102, 116]⟩)) :
    Calls Tryz.prog 27 #[.pointer (some ⟨p, 0, none⟩), .string NM] W fun e w' => RPost base p W (Pl.doR L n) e w' := by
  have CX := Lib.hid (rparts_any base p L W hlen h hb hall NM n hN)
  rw [show Pl.doR L n = Pl.twoR L n from by unfold Pl.doR; rw [if_neg (by omega), if_neg (by omega), if_pos (by omega)]]
  generalize Pl.twoR L n = R at CX ⊢
  clear hlen h hb hall
  rcases hN with ⟨rfl, rfl⟩ | ⟨rfl, rfl⟩ | ⟨rfl, rfl⟩
  all_goals
    go_enter Tryz.func27, Tryz.ntmps27
    go_wp2_with fail
    refine CX.out.mono ?_
    rintro e w2 ⟨rfl, hs, hf⟩
    have H2 := Lib.hid (And.intro hs hf)
    clear hs hf CX
    go_wp2_with fail
    go_ret
    exact ⟨rfl, H2.out⟩
theorem rdo_logic (NM : ByteArray) (n : Int) (hN : (n = 27 ∧ NM = ⟨#[97, 110, 100]⟩) ∨ (n = 28 ∧ NM = ⟨#[111, 114]⟩) ∨ (n = 29 ∧ NM = ⟨#[120, 111, 114]⟩)) :
    Calls Tryz.prog 27 #[.pointer (some ⟨p, 0, none⟩), .string NM] W fun e w' => RPost base p W (Pl.doR L n) e w' := by
  have CX := Lib.hid (rlogic_any base p L W hlen h hb hall NM n hN)
  rw [show Pl.doR L n = Pl.twoR L n from by unfold Pl.doR; rw [if_neg (by omega), if_neg (by omega), if_pos (by omega)]]
  generalize Pl.twoR L n = R at CX ⊢
  clear hlen h hb hall
  rcases hN with ⟨rfl, rfl⟩ | ⟨rfl, rfl⟩ | ⟨rfl, rfl⟩
  all_goals
    go_enter Tryz.func27, Tryz.ntmps27
    go_wp2_with fail
    refine CX.out.mono ?_
    rintro e w2 ⟨rfl, hs, hf⟩
    have H2 := Lib.hid (And.intro hs hf)
    clear hs hf CX
    go_wp2_with fail
    go_ret
    exact ⟨rfl, H2.out⟩
theorem rdo_one (NM : ByteArray) (n : Int) (hN : (n = 17 ∧ NM = ⟨#[110, 101, 103]⟩) ∨ (n = 18 ∧ NM = ⟨#[97, 98, 115]⟩) ∨ (n = 19 ∧ NM = ⟨#[99, 101, 105, 108, 105, 110, 103]⟩) ∨ (n = 20 ∧ NM = ⟨#[102, 108, 111, 111, 114]⟩) ∨ (n = 21 ∧ NM = ⟨#[114, 111, 117, 110, 100]⟩) ∨ (n = 22 ∧ NM = ⟨#[116, 114, 117, 110, 99, 97, 116, 101]⟩) ∨ (n = 23 ∧ NM = ⟨#[115, 113, 114, 116]⟩) ∨ (n = 24 ∧ NM = ⟨#[115, 105, 110]⟩) ∨ (n = 25 ∧ NM = ⟨#[99, 111, 115]⟩)) :
    Calls Tryz.prog 27 #[.pointer (some ⟨p, 0, none⟩), .string NM] W fun e w' => RPost base p W (Pl.doR L n) e w' := by
  have CX := Lib.hid (rone_any base p L W hlen h hb hall NM n hN)
  rw [show Pl.doR L n = Pl.oneR L n from by unfold Pl.doR; rw [if_neg (by omega), if_neg (by omega), if_neg (by omega), if_pos (by omega)]]
  generalize Pl.oneR L n = R at CX ⊢
  clear hlen h hb hall
  rcases hN with ⟨rfl, rfl⟩ | ⟨rfl, rfl⟩ | ⟨rfl, rfl⟩ | ⟨rfl, rfl⟩ | ⟨rfl, rfl⟩ | ⟨rfl, rfl⟩ | ⟨rfl, rfl⟩ | ⟨rfl, rfl⟩ | ⟨rfl, rfl⟩
  all_goals
    go_enter Tryz.func27, Tryz.ntmps27
    go_wp2_with fail
    refine CX.out.mono ?_
    rintro e w2 ⟨rfl, hs, hf⟩
    have H2 := Lib.hid (And.intro hs hf)
    clear hs hf CX
    go_wp2_with fail
    go_ret
    exact ⟨rfl, H2.out⟩
theorem rdo_mm (NM : ByteArray) (n : Int) (hN : (n = 35 ∧ NM = ⟨#[109, 105, 110]⟩) ∨ (n = 36 ∧ NM = ⟨#[109, 97, 120]⟩)) :
    Calls Tryz.prog 27 #[.pointer (some ⟨p, 0, none⟩), .string NM] W fun e w' => RPost base p W (Pl.doR L n) e w' := by
  have CX := Lib.hid (rmost_mm base p L W hlen h hb hall NM n hN)
  rw [show Pl.doR L n = Pl.mmR L n from by unfold Pl.doR; rw [if_neg (by omega), if_neg (by omega), if_neg (by omega), if_neg (by omega), if_pos (by omega)]]
  generalize Pl.mmR L n = R at CX ⊢
  clear hlen h hb hall
  rcases hN with ⟨rfl, rfl⟩ | ⟨rfl, rfl⟩
  all_goals
    go_enter Tryz.func27, Tryz.ntmps27
    go_wp2_with fail
    refine CX.out.mono ?_
    rintro e w2 ⟨rfl, hs, hf⟩
    have H2 := Lib.hid (And.intro hs hf)
    clear hs hf CX
    go_wp2_with fail
    go_ret
    exact ⟨rfl, H2.out⟩
omit hall in
theorem rdo_marks (NM : ByteArray) (n : Int) (hN : (n = 6 ∧ NM = ⟨#[99, 108, 101, 97, 114]⟩) ∨ (n = 7 ∧ NM = ⟨#[99, 111, 117, 110, 116]⟩) ∨ (n = 8 ∧ NM = ⟨#[109, 97, 114, 107]⟩) ∨ (n = 9 ∧ NM = ⟨#[99, 111, 117, 110, 116, 116, 111, 109, 97, 114, 107]⟩) ∨ (n = 10 ∧ NM = ⟨#[99, 108, 101, 97, 114, 116, 111, 109, 97, 114, 107]⟩) ∨ (n = 32 ∧ NM = ⟨#[116, 114, 117, 101]⟩) ∨ (n = 33 ∧ NM = ⟨#[102, 97, 108, 115, 101]⟩) ∨ (n = 34 ∧ NM = ⟨#[110, 117, 108, 108]⟩) ∨ (n = 37 ∧ NM = ⟨#[91]⟩) ∨ (n = 38 ∧ NM = ⟨#[60, 60]⟩)) :
    Calls Tryz.prog 27 #[.pointer (some ⟨p, 0, none⟩), .string NM] W fun e w' => RPost base p W (Pl.doR L n) e w' := by
  have CX := Lib.hid (rmarks_any base p L W hlen h hb NM n hN)
  generalize Pl.doR L n = R at CX ⊢
  clear hlen h hb
  rcases hN with ⟨rfl, rfl⟩ | ⟨rfl, rfl⟩ | ⟨rfl, rfl⟩ | ⟨rfl, rfl⟩ | ⟨rfl, rfl⟩ | ⟨rfl, rfl⟩ | ⟨rfl, rfl⟩ | ⟨rfl, rfl⟩ | ⟨rfl, rfl⟩ | ⟨rfl, rfl⟩
  all_goals
    go_enter Tryz.func27, Tryz.ntmps27
    go_wp2_with fail
    refine CX.out.mono ?_
    rintro e w2 ⟨rfl, hs, hf⟩
    have H2 := Lib.hid (And.intro hs hf)
    clear hs hf CX
    go_wp2_with fail
    go_ret
    exact ⟨rfl, H2.out⟩
theorem rdo_not :
    Calls Tryz.prog 27 #[.pointer (some ⟨p, 0, none⟩), .string ⟨#[110, 111, 116]⟩] W fun e w' => RPost base p W (Pl.doR L 30) e w' := by
  have CX := Lib.hid (rnot_any base p L W hlen h hb hall)
  rw [show Pl.doR L 30 = Pl.oneR L 30 from by unfold Pl.doR; simp]
  generalize Pl.oneR L 30 = R at CX ⊢
  clear hlen h hb hall
  go_enter Tryz.func27, Tryz.ntmps27
  go_wp2_with fail
  refine CX.out.mono ?_
  rintro e w2 ⟨rfl, hs, hf⟩
  have H2 := Lib.hid (And.intro hs hf)
  clear hs hf CX
  go_wp2_with fail
  go_ret
  exact ⟨rfl, H2.out⟩
theorem rdo_atan :
    Calls Tryz.prog 27 #[.pointer (some ⟨p, 0, none⟩), .string ⟨#[97, 116, 97, 110]⟩] W fun e w' => RPost base p W (Pl.doR L 26) e w' := by
  have CX := Lib.hid (rmost_atan_any base p L W hlen h hb hall)
  rw [show Pl.doR L 26 = Pl.twoR L 26 from by unfold Pl.doR; simp]
  generalize Pl.twoR L 26 = R at CX ⊢
  clear hlen h hb hall
  go_enter Tryz.func27, Tryz.ntmps27
  go_wp2_with fail
  refine CX.out.mono ?_
  rintro e w2 ⟨rfl, hs, hf⟩
  have H2 := Lib.hid (And.intro hs hf)
  clear hs hf CX
  go_wp2_with fail
  go_ret
  exact ⟨rfl, H2.out⟩
theorem rdo_any (n : Int) (hn : 1 ≤ n ∧ n ≤ 38) :
    Calls Tryz.prog 27 #[.pointer (some ⟨p, 0, none⟩), .string (Pl.opWord (rangedText Tryz.f33) n)] W fun e w' => RPost base p W (Pl.doR L n) e w' := by
  have hw := word_at n hn
  rcases (show n = 1 ∨ n = 2 ∨ n = 3 ∨ n = 4 ∨ n = 5 ∨ n = 6 ∨ n = 7 ∨ n = 8 ∨ n = 9 ∨ n = 10 ∨ n = 11 ∨ n = 12 ∨ n = 13 ∨ n = 14 ∨ n = 15 ∨ n = 16 ∨ n = 17 ∨ n = 18 ∨ n = 19 ∨ n = 20 ∨ n = 21 ∨ n = 22 ∨ n = 23 ∨ n = 24 ∨ n = 25 ∨ n = 26 ∨ n = 27 ∨ n = 28 ∨ n = 29 ∨ n = 30 ∨ n = 31 ∨ n = 32 ∨ n = 33 ∨ n = 34 ∨ n = 35 ∨ n = 36 ∨ n = 37 ∨ n = 38 by omega) with rfl | rfl | rfl | rfl | rfl | rfl | rfl | rfl | rfl | rfl | rfl | rfl | rfl | rfl | rfl | rfl | rfl | rfl | rfl | rfl | rfl | rfl | rfl | rfl | rfl | rfl | rfl | rfl | rfl | rfl | rfl | rfl | rfl | rfl | rfl | rfl | rfl | rfl
  · injection hw with hw
    rw [← hw]
    exact rdo_move base p L W hlen h hb hall _ 1 (.inl ⟨rfl, rfl⟩)
  · injection hw with hw
    rw [← hw]
    exact rdo_move base p L W hlen h hb hall _ 2 (.inr (.inl ⟨rfl, rfl⟩))
  · injection hw with hw
    rw [← hw]
    exact rdo_move base p L W hlen h hb hall _ 3 (.inr (.inr (.inl ⟨rfl, rfl⟩)))
  · injection hw with hw
    rw [← hw]
    exact rdo_move base p L W hlen h hb hall _ 4 (.inr (.inr (.inr (.inl ⟨rfl, rfl⟩))))
  · injection hw with hw
    rw [← hw]
    exact rdo_move base p L W hlen h hb hall _ 5 (.inr (.inr (.inr (.inr (⟨rfl, rfl⟩)))))
  · injection hw with hw
    rw [← hw]
    exact rdo_marks base p L W hlen h hb _ 6 (.inl ⟨rfl, rfl⟩)
  · injection hw with hw
    rw [← hw]
    exact rdo_marks base p L W hlen h hb _ 7 (.inr (.inl ⟨rfl, rfl⟩))
  · injection hw with hw
    rw [← hw]
    exact rdo_marks base p L W hlen h hb _ 8 (.inr (.inr (.inl ⟨rfl, rfl⟩)))
  · injection hw with hw
    rw [← hw]
    exact rdo_marks base p L W hlen h hb _ 9 (.inr (.inr (.inr (.inl ⟨rfl, rfl⟩))))
  · injection hw with hw
    rw [← hw]
    exact rdo_marks base p L W hlen h hb _ 10 (.inr (.inr (.inr (.inr (.inl ⟨rfl, rfl⟩)))))
  · injection hw with hw
    rw [← hw]
    exact rdo_two base p L W hlen h hb hall _ 11 (.inl ⟨rfl, rfl⟩)
  · injection hw with hw
    rw [← hw]
    exact rdo_two base p L W hlen h hb hall _ 12 (.inr (.inl ⟨rfl, rfl⟩))
  · injection hw with hw
    rw [← hw]
    exact rdo_two base p L W hlen h hb hall _ 13 (.inr (.inr (.inl ⟨rfl, rfl⟩)))
  · injection hw with hw
    rw [← hw]
    exact rdo_two base p L W hlen h hb hall _ 14 (.inr (.inr (.inr (⟨rfl, rfl⟩))))
  · injection hw with hw
    rw [← hw]
    exact rdo_parts base p L W hlen h hb hall _ 15 (.inl ⟨rfl, rfl⟩)
  · injection hw with hw
    rw [← hw]
    exact rdo_parts base p L W hlen h hb hall _ 16 (.inr (.inl ⟨rfl, rfl⟩))
  · injection hw with hw
    rw [← hw]
    exact rdo_one base p L W hlen h hb hall _ 17 (.inl ⟨rfl, rfl⟩)
  · injection hw with hw
    rw [← hw]
    exact rdo_one base p L W hlen h hb hall _ 18 (.inr (.inl ⟨rfl, rfl⟩))
  · injection hw with hw
    rw [← hw]
    exact rdo_one base p L W hlen h hb hall _ 19 (.inr (.inr (.inl ⟨rfl, rfl⟩)))
  · injection hw with hw
    rw [← hw]
    exact rdo_one base p L W hlen h hb hall _ 20 (.inr (.inr (.inr (.inl ⟨rfl, rfl⟩))))
  · injection hw with hw
    rw [← hw]
    exact rdo_one base p L W hlen h hb hall _ 21 (.inr (.inr (.inr (.inr (.inl ⟨rfl, rfl⟩)))))
  · injection hw with hw
    rw [← hw]
    exact rdo_one base p L W hlen h hb hall _ 22 (.inr (.inr (.inr (.inr (.inr (.inl ⟨rfl, rfl⟩))))))
  · injection hw with hw
    rw [← hw]
    exact rdo_one base p L W hlen h hb hall _ 23 (.inr (.inr (.inr (.inr (.inr (.inr (.inl ⟨rfl, rfl⟩)))))))
  · injection hw with hw
    rw [← hw]
    exact rdo_one base p L W hlen h hb hall _ 24 (.inr (.inr (.inr (.inr (.inr (.inr (.inr (.inl ⟨rfl, rfl⟩))))))))
  · injection hw with hw
    rw [← hw]
    exact rdo_one base p L W hlen h hb hall _ 25 (.inr (.inr (.inr (.inr (.inr (.inr (.inr (.inr (⟨rfl, rfl⟩)))))))))
  · injection hw with hw
    rw [← hw]
    exact rdo_atan base p L W hlen h hb hall
  · injection hw with hw
    rw [← hw]
    exact rdo_logic base p L W hlen h hb hall _ 27 (.inl ⟨rfl, rfl⟩)
  · injection hw with hw
    rw [← hw]
    exact rdo_logic base p L W hlen h hb hall _ 28 (.inr (.inl ⟨rfl, rfl⟩))
  · injection hw with hw
    rw [← hw]
    exact rdo_logic base p L W hlen h hb hall _ 29 (.inr (.inr (⟨rfl, rfl⟩)))
  · injection hw with hw
    rw [← hw]
    exact rdo_not base p L W hlen h hb hall
  · injection hw with hw
    rw [← hw]
    exact rdo_parts base p L W hlen h hb hall _ 31 (.inr (.inr (⟨rfl, rfl⟩)))
  · injection hw with hw
    rw [← hw]
    exact rdo_marks base p L W hlen h hb _ 32 (.inr (.inr (.inr (.inr (.inr (.inl ⟨rfl, rfl⟩))))))
  · injection hw with hw
    rw [← hw]
    exact rdo_marks base p L W hlen h hb _ 33 (.inr (.inr (.inr (.inr (.inr (.inr (.inl ⟨rfl, rfl⟩)))))))
  · injection hw with hw
    rw [← hw]
    exact rdo_marks base p L W hlen h hb _ 34 (.inr (.inr (.inr (.inr (.inr (.inr (.inr (.inl ⟨rfl, rfl⟩))))))))
  · injection hw with hw
    rw [← hw]
    exact rdo_mm base p L W hlen h hb hall _ 35 (.inl ⟨rfl, rfl⟩)
  · injection hw with hw
    rw [← hw]
    exact rdo_mm base p L W hlen h hb hall _ 36 (.inr (⟨rfl, rfl⟩))
  · injection hw with hw
    rw [← hw]
    exact rdo_marks base p L W hlen h hb _ 37 (.inr (.inr (.inr (.inr (.inr (.inr (.inr (.inr (.inl ⟨rfl, rfl⟩)))))))))
  · injection hw with hw
    rw [← hw]
    exact rdo_marks base p L W hlen h hb _ 38 (.inr (.inr (.inr (.inr (.inr (.inr (.inr (.inr (.inr (⟨rfl, rfl⟩))))))))))
end
end Go.Proofs.YtfmmomdmemcbbaaGreat
