/- arith.Do and tympanlaw18.run, each by one plain function. · The laws' own helpers of layer 18: num, fixed, known; rows of new objects. · A law's post where new memory is of unknown shape: what was there is kept, and what was not frozen there is not. · What is read of the arguments reads the same where the old memory is kept; a law's post with no word of the arguments' shape. -/
import Derived.Deep.RegionHeld3
import Derived.ChangeSame
import Derived.OpenShut
import Derived.ReaderExtends
import Derived.ChangeAgain
import Derived.Test.YtfmmomdmemcbbaaA13
import Derived.Test.YtfmmomdmemcbbaaM2
namespace Go.Proofs.Ytfmmomdmemcbbaa
set_option linter.unusedVariables false
open Go.RowKit

theorem Pl.giveR_len (L : List Pl.Ob) (n : Nat) (l : List Pl.Ob) (h : L.length ≤ 200) : (Pl.giveR L n l).2.length ≤ 200 := by
  unfold Pl.giveR
  split
  · rw [List.length_append, List.length_take]; omega
  · exact h
theorem Pl.wholeR_len (L : List Pl.Ob) (n : Nat) (v : Int) (h : L.length ≤ 200) : (Pl.wholeR L n v).2.length ≤ 200 := by
  unfold Pl.wholeR
  split
  · exact Pl.giveR_len L n _ h
  · exact h
theorem Pl.fixedR_len (L : List Pl.Ob) (n : Nat) (v : Int) (ok : Bool) (h : L.length ≤ 200) : (Pl.fixedR L n v ok).2.length ≤ 200 := by
  unfold Pl.fixedR
  split
  · exact Pl.giveR_len L n _ h
  · exact h
theorem Pl.doR_len (L : List Pl.Ob) (n : Int) (h : L.length ≤ 200) : (Pl.doR L n).2.length ≤ 200 := by
  have g1 := fun n l => Pl.giveR_len L n l h
  have g2 := fun n v => Pl.wholeR_len L n v h
  have g3 := fun n v ok => Pl.fixedR_len L n v ok h
  have gt : ∀ k, (L.take k).length ≤ 200 := fun k => by rw [List.length_take]; omega
  have gn : ∀ n a b, (Pl.numbersR L n a b).2.length ≤ 200 := fun n a b => by
    unfold Pl.numbersR
    repeat' split
    all_goals first | exact g2 _ _ | exact g3 _ _ _ | exact h
  unfold Pl.doR
  split
  · exact h
  split
  · unfold Pl.roundR
    repeat' split
    all_goals first | exact g1 _ _ | exact h | exact gt _ | (rw [Pl.rot_len _ _ _ (by rw [List.length_take]; omega)]; exact gt _) | simp
  split
  · unfold Pl.twoR
    split
    · split
      · unfold Pl.twoI
        repeat' split
        all_goals first | exact gn _ _ _ | exact g1 _ _ | exact g2 _ _ | exact h
      · exact h
    · exact h
  split
  · unfold Pl.oneR
    split
    · exact h
    · split
      · unfold Pl.oneI
        repeat' split
        all_goals first | exact g1 _ _ | exact g2 _ _ | exact g3 _ _ _ | exact h
      · exact h
  split
  · unfold Pl.mmR
    split
    · split
      · exact g1 _ _
      · exact h
    · exact h
  split
  · exact g1 _ _
  split
  · exact g1 _ _
  · exact g1 _ _
section
variable (W0 : World) (Pr : Nat → Prop) (p : Nat) (L : List Pl.Ob) (W : World) (hlen : L.length ≤ 200) (h : Stk W0 Pr p L W) (hall : ∀ o ∈ L, Pl.mayO o)
include h hlen hall
theorem mm_35 :
    Calls Try.prog 22 #[.pointer (some ⟨p, 0, none⟩), .int .i64 35] W fun e w' => e = .returned (.int .i64 (Pl.mmR L 35).1) ∧ Stk W0 Pr p (Pl.mmR L 35).2 w' ∧ FrS W0 Pr W w' := by
  rcases Pl.mmR_cases L 35 with ⟨h0, hR⟩ | ⟨o0, o1, ho1, ho0, h2, hR⟩ <;> rw [hR] <;> clear hR
  · exact do_35_under W0 Pr p L W h h0
  have hm0 := hall o0 (Pl.mem_rev ho0)
  have hm1 := hall o1 (Pl.mem_rev ho1)
  by_cases hf1 : Pl.fits 24 o1.1 = true
  · by_cases hf0 : Pl.fits 24 o0.1 = true
    · rw [if_pos ⟨hf1, hf0⟩]
      have q0 := (Pl.fits24 (Pl.mayO_kind hm0)).1 hf0
      have q1 := (Pl.fits24 (Pl.mayO_kind hm1)).1 hf1
      obtain ⟨x, ex, _, _⟩ := Pl.mayO_num hm0 q0
      obtain ⟨y, ey, _, _⟩ := Pl.mayO_num hm1 q1
      generalize o0.1 = k0 at ex q0 hf0
      generalize o0.2.2.1 = a at ex
      generalize o1.1 = k1 at ey q1 hf1
      generalize o1.2.2.1 = b at ey
      subst ex
      subst ey
      unfold Pl.mm
      simp only
      rw [if_neg (by decide)]
      by_cases hl : Pl.sz k1 b < Pl.sz k0 a
      · rw [if_pos hl]
        rcases q0 with rfl | rfl <;> rcases q1 with rfl | rfl
        · exact do_35_33_true W0 Pr p L W hlen h a b x y ho1 ho0 h2 hm0 hm1 hl
        · exact do_35_34_true W0 Pr p L W hlen h a b x y ho1 ho0 h2 hm0 hm1 hl
        · exact do_35_43_true W0 Pr p L W hlen h a b x y ho1 ho0 h2 hm0 hm1 hl
        · exact do_35_44_true W0 Pr p L W hlen h a b x y ho1 ho0 h2 hm0 hm1 hl
      · rw [if_neg hl]
        rcases q0 with rfl | rfl <;> rcases q1 with rfl | rfl
        · exact do_35_33_false W0 Pr p L W hlen h a b x y ho1 ho0 h2 hm0 hm1 hl
        · exact do_35_34_false W0 Pr p L W hlen h a b x y ho1 ho0 h2 hm0 hm1 hl
        · exact do_35_43_false W0 Pr p L W hlen h a b x y ho1 ho0 h2 hm0 hm1 hl
        · exact do_35_44_false W0 Pr p L W hlen h a b x y ho1 ho0 h2 hm0 hm1 hl
    · rw [if_neg (fun q => hf0 q.2)]
      exact do_35_bad0 W0 Pr p L W hlen h o0 o1 ho1 ho0 hm0 hm1 hf1 (by simpa using hf0)
  · rw [if_neg (fun q => hf1 q.1)]
    exact do_35_bad1 W0 Pr p L W hlen h o0 o1 ho1 ho0 hm0 hm1 (by simpa using hf1)
theorem mm_36 :
    Calls Try.prog 22 #[.pointer (some ⟨p, 0, none⟩), .int .i64 36] W fun e w' => e = .returned (.int .i64 (Pl.mmR L 36).1) ∧ Stk W0 Pr p (Pl.mmR L 36).2 w' ∧ FrS W0 Pr W w' := by
  rcases Pl.mmR_cases L 36 with ⟨h0, hR⟩ | ⟨o0, o1, ho1, ho0, h2, hR⟩ <;> rw [hR] <;> clear hR
  · exact do_36_under W0 Pr p L W h h0
  have hm0 := hall o0 (Pl.mem_rev ho0)
  have hm1 := hall o1 (Pl.mem_rev ho1)
  by_cases hf1 : Pl.fits 24 o1.1 = true
  · by_cases hf0 : Pl.fits 24 o0.1 = true
    · rw [if_pos ⟨hf1, hf0⟩]
      have q0 := (Pl.fits24 (Pl.mayO_kind hm0)).1 hf0
      have q1 := (Pl.fits24 (Pl.mayO_kind hm1)).1 hf1
      obtain ⟨x, ex, _, _⟩ := Pl.mayO_num hm0 q0
      obtain ⟨y, ey, _, _⟩ := Pl.mayO_num hm1 q1
      generalize o0.1 = k0 at ex q0 hf0
      generalize o0.2.2.1 = a at ex
      generalize o1.1 = k1 at ey q1 hf1
      generalize o1.2.2.1 = b at ey
      subst ex
      subst ey
      unfold Pl.mm
      simp only
      rw [if_pos (by decide)]
      by_cases hl : Pl.sz k0 a < Pl.sz k1 b
      · rw [if_pos hl]
        rcases q0 with rfl | rfl <;> rcases q1 with rfl | rfl
        · exact do_36_33_true W0 Pr p L W hlen h a b x y ho1 ho0 h2 hm0 hm1 hl
        · exact do_36_34_true W0 Pr p L W hlen h a b x y ho1 ho0 h2 hm0 hm1 hl
        · exact do_36_43_true W0 Pr p L W hlen h a b x y ho1 ho0 h2 hm0 hm1 hl
        · exact do_36_44_true W0 Pr p L W hlen h a b x y ho1 ho0 h2 hm0 hm1 hl
      · rw [if_neg hl]
        rcases q0 with rfl | rfl <;> rcases q1 with rfl | rfl
        · exact do_36_33_false W0 Pr p L W hlen h a b x y ho1 ho0 h2 hm0 hm1 hl
        · exact do_36_34_false W0 Pr p L W hlen h a b x y ho1 ho0 h2 hm0 hm1 hl
        · exact do_36_43_false W0 Pr p L W hlen h a b x y ho1 ho0 h2 hm0 hm1 hl
        · exact do_36_44_false W0 Pr p L W hlen h a b x y ho1 ho0 h2 hm0 hm1 hl
    · rw [if_neg (fun q => hf0 q.2)]
      exact do_36_bad0 W0 Pr p L W hlen h o0 o1 ho1 ho0 hm0 hm1 hf1 (by simpa using hf0)
  · rw [if_neg (fun q => hf1 q.1)]
    exact do_36_bad1 W0 Pr p L W hlen h o0 o1 ho1 ho0 hm0 hm1 (by simpa using hf1)
theorem do_any (n : Int) :
    Calls Try.prog 22 #[.pointer (some ⟨p, 0, none⟩), .int .i64 n] W fun e w' => e = .returned (.int .i64 (Pl.doR L n).1) ∧ Stk W0 Pr p (Pl.doR L n).2 w' ∧ FrS W0 Pr W w' := by
  by_cases hn : 1 ≤ n ∧ n ≤ 38
  · obtain ⟨k, rfl⟩ : ∃ k : Nat, n = (k : Int) := ⟨n.toNat, by omega⟩
    rcases (show k = 1 ∨ k = 2 ∨ k = 3 ∨ k = 4 ∨ k = 5 ∨ k = 6 ∨ k = 7 ∨ k = 8 ∨ k = 9 ∨ k = 10 ∨ k = 11 ∨ k = 12 ∨ k = 13 ∨ k = 14 ∨ k = 15 ∨ k = 16 ∨ k = 17 ∨ k = 18 ∨ k = 19 ∨ k = 20 ∨ k = 21 ∨ k = 22 ∨ k = 23 ∨ k = 24 ∨ k = 25 ∨ k = 26 ∨ k = 27 ∨ k = 28 ∨ k = 29 ∨ k = 30 ∨ k = 31 ∨ k = 32 ∨ k = 33 ∨ k = 34 ∨ k = 35 ∨ k = 36 ∨ k = 37 ∨ k = 38 by omega) with rfl | rfl | rfl | rfl | rfl | rfl | rfl | rfl | rfl | rfl | rfl | rfl | rfl | rfl | rfl | rfl | rfl | rfl | rfl | rfl | rfl | rfl | rfl | rfl | rfl | rfl | rfl | rfl | rfl | rfl | rfl | rfl | rfl | rfl | rfl | rfl | rfl | rfl
    · rw [show Pl.doR L ((1 : Nat) : Int) = Pl.roundR L 1 by unfold Pl.doR; simp]
      exact do_1 W0 Pr p L W hlen h hall
    · rw [show Pl.doR L ((2 : Nat) : Int) = Pl.roundR L 2 by unfold Pl.doR; simp]
      exact do_2 W0 Pr p L W hlen h hall
    · rw [show Pl.doR L ((3 : Nat) : Int) = Pl.roundR L 3 by unfold Pl.doR; simp]
      exact do_3 W0 Pr p L W hlen h hall
    · rw [show Pl.doR L ((4 : Nat) : Int) = Pl.roundR L 4 by unfold Pl.doR; simp]
      exact do_4 W0 Pr p L W hlen h hall
    · rw [show Pl.doR L ((5 : Nat) : Int) = Pl.roundR L 5 by unfold Pl.doR; simp]
      exact do_5 W0 Pr p L W hlen h hall
    · rw [show Pl.doR L ((6 : Nat) : Int) = Pl.roundR L 6 by unfold Pl.doR; simp]
      exact do_6 W0 Pr p L W hlen h hall
    · rw [show Pl.doR L ((7 : Nat) : Int) = Pl.roundR L 7 by unfold Pl.doR; simp]
      exact do_7 W0 Pr p L W hlen h hall
    · rw [show Pl.doR L ((8 : Nat) : Int) = Pl.roundR L 8 by unfold Pl.doR; simp]
      exact do_8 W0 Pr p L W hlen h hall
    · rw [show Pl.doR L ((9 : Nat) : Int) = Pl.roundR L 9 by unfold Pl.doR; simp]
      exact do_9 W0 Pr p L W hlen h hall
    · rw [show Pl.doR L ((10 : Nat) : Int) = Pl.roundR L 10 by unfold Pl.doR; simp]
      exact do_10 W0 Pr p L W hlen h hall
    · rw [show Pl.doR L ((11 : Nat) : Int) = Pl.twoR L 11 by unfold Pl.doR; simp]
      exact do_11 W0 Pr p L W hlen h hall
    · rw [show Pl.doR L ((12 : Nat) : Int) = Pl.twoR L 12 by unfold Pl.doR; simp]
      exact do_12 W0 Pr p L W hlen h hall
    · rw [show Pl.doR L ((13 : Nat) : Int) = Pl.twoR L 13 by unfold Pl.doR; simp]
      exact do_13 W0 Pr p L W hlen h hall
    · rw [show Pl.doR L ((14 : Nat) : Int) = Pl.twoR L 14 by unfold Pl.doR; simp]
      exact do_14 W0 Pr p L W hlen h hall
    · rw [show Pl.doR L ((15 : Nat) : Int) = Pl.twoR L 15 by unfold Pl.doR; simp]
      exact do_15 W0 Pr p L W hlen h hall
    · rw [show Pl.doR L ((16 : Nat) : Int) = Pl.twoR L 16 by unfold Pl.doR; simp]
      exact do_16 W0 Pr p L W hlen h hall
    · rw [show Pl.doR L ((17 : Nat) : Int) = Pl.oneR L 17 by unfold Pl.doR; simp]
      exact do_17 W0 Pr p L W hlen h hall
    · rw [show Pl.doR L ((18 : Nat) : Int) = Pl.oneR L 18 by unfold Pl.doR; simp]
      exact do_18 W0 Pr p L W hlen h hall
    · rw [show Pl.doR L ((19 : Nat) : Int) = Pl.oneR L 19 by unfold Pl.doR; simp]
      exact do_19 W0 Pr p L W hlen h hall
    · rw [show Pl.doR L ((20 : Nat) : Int) = Pl.oneR L 20 by unfold Pl.doR; simp]
      exact do_20 W0 Pr p L W hlen h hall
    · rw [show Pl.doR L ((21 : Nat) : Int) = Pl.oneR L 21 by unfold Pl.doR; simp]
      exact do_21 W0 Pr p L W hlen h hall
    · rw [show Pl.doR L ((22 : Nat) : Int) = Pl.oneR L 22 by unfold Pl.doR; simp]
      exact do_22 W0 Pr p L W hlen h hall
    · rw [show Pl.doR L ((23 : Nat) : Int) = Pl.oneR L 23 by unfold Pl.doR; simp]
      exact do_23 W0 Pr p L W hlen h hall
    · rw [show Pl.doR L ((24 : Nat) : Int) = Pl.oneR L 24 by unfold Pl.doR; simp]
      exact do_24 W0 Pr p L W hlen h hall
    · rw [show Pl.doR L ((25 : Nat) : Int) = Pl.oneR L 25 by unfold Pl.doR; simp]
      exact do_25 W0 Pr p L W hlen h hall
    · rw [show Pl.doR L ((26 : Nat) : Int) = Pl.twoR L 26 by unfold Pl.doR; simp]
      exact do_26 W0 Pr p L W hlen h hall
    · rw [show Pl.doR L ((27 : Nat) : Int) = Pl.twoR L 27 by unfold Pl.doR; simp]
      exact do_27 W0 Pr p L W hlen h hall
    · rw [show Pl.doR L ((28 : Nat) : Int) = Pl.twoR L 28 by unfold Pl.doR; simp]
      exact do_28 W0 Pr p L W hlen h hall
    · rw [show Pl.doR L ((29 : Nat) : Int) = Pl.twoR L 29 by unfold Pl.doR; simp]
      exact do_29 W0 Pr p L W hlen h hall
    · rw [show Pl.doR L ((30 : Nat) : Int) = Pl.oneR L 30 by unfold Pl.doR; simp]
      exact do_30 W0 Pr p L W hlen h hall
    · rw [show Pl.doR L ((31 : Nat) : Int) = Pl.twoR L 31 by unfold Pl.doR; simp]
      exact do_31 W0 Pr p L W hlen h hall
    · rw [show Pl.doR L ((32 : Nat) : Int) = Pl.giveR L 0 [Pl.truth true] by unfold Pl.doR; simp]
      exact do_32 W0 Pr p L W hlen h
    · rw [show Pl.doR L ((33 : Nat) : Int) = Pl.giveR L 0 [Pl.truth false] by unfold Pl.doR; simp]
      exact do_33 W0 Pr p L W hlen h
    · rw [show Pl.doR L ((34 : Nat) : Int) = Pl.giveR L 0 [Pl.nullO] by unfold Pl.doR; simp]
      exact do_34 W0 Pr p L W hlen h
    · rw [show Pl.doR L ((35 : Nat) : Int) = Pl.mmR L 35 by unfold Pl.doR; simp]
      exact mm_35 W0 Pr p L W hlen h hall
    · rw [show Pl.doR L ((36 : Nat) : Int) = Pl.mmR L 36 by unfold Pl.doR; simp]
      exact mm_36 W0 Pr p L W hlen h hall
    · rw [show Pl.doR L ((37 : Nat) : Int) = Pl.giveR L 0 [Pl.markO] by unfold Pl.doR; simp]
      exact do_37 W0 Pr p L W hlen h
    · rw [show Pl.doR L ((38 : Nat) : Int) = Pl.giveR L 0 [Pl.markO] by unfold Pl.doR; simp]
      exact do_38 W0 Pr p L W hlen h
  · rw [show Pl.doR L n = (1, L) by unfold Pl.doR; rw [if_pos hn]]
    exact do_no W0 Pr p L W h n hn
end
theorem RowV.frNew {W W' : World} {v : Value} {A : List Pl.Ob} (h : RowV W v A) (k : Fr (fun c => W.heap.size ≤ c) W W') : RowV W' v A := by
  obtain ⟨ao, cap, rfl, h1⟩ := h
  rcases h1 with rfl | ⟨g, o, rfl, hg, h1⟩
  · exact ⟨ao, cap, rfl, .inl rfl⟩
  · exact RowV.fr ⟨_, cap, rfl, .inr ⟨g, o, rfl, hg, h1⟩⟩ k (fun a q r => by cases q; simp at r; omega)
/-- what is run leaves all old memory -/
theorem fr_new {W W' : World} (k : Fr (fun c => W.heap.size ≤ c) W W') : Fr (fun _ => False) W W' := ⟨k.1, k.2.1, k.2.2.1, fun c hc _ => k.2.2.2 c hc (by omega)⟩
set_option maxHeartbeats 4000000 in
set_option maxRecDepth 100000 in
theorem run_any (W : World) (v : Value) (A : List Pl.Ob) (hA : RowV W v A) (hall : ∀ o ∈ A, Pl.mayO o) (hlen : A.length ≤ 200) (NM : ByteArray) (n : Int) (hn : Pl.opNum (rangedText Try.f31) NM = n) :
    Calls Try.prog 11 #[v, .string NM] W fun e w' => ∃ vi, e = .returned (.tuple #[vi, .int .i64 (Pl.doR A n).1]) ∧ RowV w' vi (Pl.doR A n).2 ∧ OwnForm vi (Pl.doR A n).2.length ∧ Fr (fun _ => False) W w' := by
  have C1 := Lib.hid (stk_new W (fun _ => False) W (Kept.refl W) (fun _ q => q.elim))
  have C2 := Lib.hid (fun Z (hZ : Fr (fun c => W.heap.size ≤ c) W Z) (hS : Stk W (fun _ => False) W.heap.size [] Z) => stk_become W (fun _ => False) W.heap.size [] Z hS v A (hA.frNew hZ) (fun j o hj => hall o (List.mem_of_getElem? hj)) hlen)
  have C3 := Lib.hid (fun Z => number_any _ Pl.opT_is NM Z)
  rw [hn] at C3
  have C4 := Lib.hid (fun Z (hS : Stk W (fun _ => False) W.heap.size A Z) => do_any W (fun _ => False) W.heap.size A Z hlen hS hall n)
  have C5 := Lib.hid (fun Z (hS : Stk W (fun _ => False) W.heap.size (Pl.doR A n).2 Z) => stk_items W (fun _ => False) W.heap.size (Pl.doR A n).2 Z hS (by have := Pl.doR_len A n hlen; omega))
  generalize Pl.doR A n = RES at C4 C5 ⊢
  generalize (Pl.opFind (rangedText Try.f31) NM).isSome = OK at C3
  obtain ⟨ao, cap, rfl, _⟩ := hA
  clear hall hn hlen
  go_enter Try.func11, Try.ntmps11
  go_wp2_with fail
  refine C1.out.mono ?_
  rintro e w1 ⟨rfl, s1, f1⟩
  have S1 := Lib.hid s1
  have F1 : Hid (Fr (fun c => W.heap.size ≤ c) W w1) := Lib.hid (f1.weaken (fun c q => q.2))
  clear s1 f1 C1
  go_wp2_with fail
  refine (C2.out _ F1.out S1.out).mono ?_
  rintro e w2 ⟨rfl, s2, f2⟩
  have S2 := Lib.hid s2
  have F2 : Hid (Fr (fun c => W.heap.size ≤ c) W w2) := Lib.hid (F1.out.trans (f2.weaken (fun c q => q.2)))
  clear s2 f2 C2 F1 S1
  go_wp2_with fail
  refine (C3.out _).mono ?_
  rintro e w3 ⟨rfl, g3⟩
  have S3 := Lib.hid (S2.out.grown g3)
  have F3 : Hid (Fr (fun c => W.heap.size ≤ c) W w3) := Lib.hid (F2.out.trans (Fr.of_grown _ g3))
  clear g3 C3 F2 S2
  go_wp2_with fail
  refine (C4.out _ S3.out).mono ?_
  rintro e w4 ⟨rfl, s4, f4⟩
  have S4 := Lib.hid s4
  have F4 : Hid (Fr (fun c => W.heap.size ≤ c) W w4) := Lib.hid (F3.out.trans (f4.weaken (fun c q => q.2)))
  clear s4 f4 C4 F3 S3
  go_wp2_with fail
  refine (C5.out _ S4.out).mono ?_
  rintro e w5 ⟨vi, rfl, r5, s5, f5, o5⟩
  have R5 := Lib.hid (And.intro r5.1 o5)
  have F5 : Hid (Fr (fun c => W.heap.size ≤ c) W w5) := Lib.hid (F4.out.trans (f5.weaken (fun c q => q.2)))
  obtain ⟨ai, ci, rfl, _⟩ := r5.1
  clear r5 s5 f5 o5 C5 F4 S4
  go_wp2_with fail
  go_ret2
  exact ⟨_, rfl, R5.out.1, R5.out.2, fr_new F5.out⟩
end Go.Proofs.Ytfmmomdmemcbbaa

namespace Go.Proofs.Ytfmmomdmemcbbaa
set_option linter.unusedVariables false
open Go.RowKit

theorem num18 (n : Int) (W : World) : Calls Try.prog 10 #[.int .i64 n] W fun e w' => e = .returned (Pl.ov (Pl.intO n)) ∧ Grown W w' := by
  go_enter Try.func10, Try.ntmps10
  go_wp2
  exact bodyPost_ret (v := Pl.ov (Pl.intO n)) (by simp [results, Try.results10, go_sem, Pl.intO]) rfl ⟨rfl, (Grown.refl W).alloc _ _⟩
theorem fix18 (n : Int) (W : World) : Calls Try.prog 13 #[.int .i64 n] W fun e w' => e = .returned (Pl.ov (Pl.fixO n)) ∧ Grown W w' := by
  go_enter Try.func13, Try.ntmps13
  go_wp2
  exact bodyPost_ret (v := Pl.ov (Pl.fixO n)) (by simp [results, Try.results13, go_sem, Pl.fixO]) rfl ⟨rfl, (Grown.refl W).alloc _ _⟩
theorem RowV.fr0 {W W' : World} {v : Value} {A : List Pl.Ob} (h : RowV W v A) (k : Fr (fun _ => False) W W') : RowV W' v A := h.frNew (k.weaken (fun c q => q.elim))
/-- the one object of a row -/
theorem row_get1 {W : World} {vi : Value} {k n a l : Int} {x : Bool} {s : ByteArray} (h : RowV W vi [(k, x, n, a, l, s)]) (ho : OwnForm vi 1) : ∃ g cap, vi = .slice (some ⟨g, 0, none⟩) 1 cap ∧ 1 ≤ cap ∧ g < W.heap.size ∧ W.cell? ⟨g, 0, none⟩ = some (.int .i64 k) ∧ W.cell? ⟨g, 1, none⟩ = some (.bool x) ∧ W.cell? ⟨g, 2, none⟩ = some (.int .i64 n) ∧ W.cell? ⟨g, 3, none⟩ = some (.int .i64 a) ∧ W.cell? ⟨g, 4, none⟩ = some (.int .i64 l) ∧ W.cell? ⟨g, 5, none⟩ = some (.string s) := by
  obtain ⟨g, o, cap, hv, hg, c0, c1, c2, c3, c4, c5⟩ := h.at 0 _ rfl
  rcases ho with ⟨_, h0⟩ | ⟨g2, cap2, hv2, hc⟩
  · cases h0
  · rw [hv] at hv2
    injection hv2 with q1 q2 q3
    injection q1 with q1
    injection q1 with q1 q4 _
    subst q1
    subst q4
    subst q3
    exact ⟨g, cap, hv, hc, hg, by simpa using c0, by simpa using c1, by simpa using c2, by simpa using c3, by simpa using c4, by simpa using c5⟩
theorem cell_fr0 {W W' : World} {g j : Nat} {v : Value} (h : W.cell? ⟨g, j, none⟩ = some v) (k : Fr (fun _ => False) W W') : W'.cell? ⟨g, j, none⟩ = some v := (k.cell (a := ⟨g, j, none⟩) (block_lt_of_cell h) (fun q => q)).trans h
theorem op_add : Pl.opNum (rangedText Try.f31) ⟨#[97, 100, 100]⟩ = 11 := by decide +kernel
theorem op_sub : Pl.opNum (rangedText Try.f31) ⟨#[115, 117, 98]⟩ = 12 := by decide +kernel
theorem op_mul : Pl.opNum (rangedText Try.f31) ⟨#[109, 117, 108]⟩ = 13 := by decide +kernel
theorem op_idiv : Pl.opNum (rangedText Try.f31) ⟨#[105, 100, 105, 118]⟩ = 15 := by decide +kernel
theorem op_mod : Pl.opNum (rangedText Try.f31) ⟨#[109, 111, 100]⟩ = 16 := by decide +kernel
theorem op_atan : Pl.opNum (rangedText Try.f31) ⟨#[97, 116, 97, 110]⟩ = 26 := by decide +kernel
theorem op_and : Pl.opNum (rangedText Try.f31) ⟨#[97, 110, 100]⟩ = 27 := by decide +kernel
theorem op_or : Pl.opNum (rangedText Try.f31) ⟨#[111, 114]⟩ = 28 := by decide +kernel
theorem op_xor : Pl.opNum (rangedText Try.f31) ⟨#[120, 111, 114]⟩ = 29 := by decide +kernel
theorem op_not : Pl.opNum (rangedText Try.f31) ⟨#[110, 111, 116]⟩ = 30 := by decide +kernel
theorem op_bitshift : Pl.opNum (rangedText Try.f31) ⟨#[98, 105, 116, 115, 104, 105, 102, 116]⟩ = 31 := by decide +kernel
theorem op_min : Pl.opNum (rangedText Try.f31) ⟨#[109, 105, 110]⟩ = 35 := by decide +kernel
theorem op_max : Pl.opNum (rangedText Try.f31) ⟨#[109, 97, 120]⟩ = 36 := by decide +kernel
theorem op_sin : Pl.opNum (rangedText Try.f31) ⟨#[115, 105, 110]⟩ = 24 := by decide +kernel
theorem op_cos : Pl.opNum (rangedText Try.f31) ⟨#[99, 111, 115]⟩ = 25 := by decide +kernel
theorem op_sqrt : Pl.opNum (rangedText Try.f31) ⟨#[115, 113, 114, 116]⟩ = 23 := by decide +kernel
theorem known_idiv : Pl.doR [Pl.intO 7, Pl.intO (-2)] 15 = (0, [Pl.intO (-3)]) := by kernel_rfl
theorem known_atan : Pl.doR [Pl.intO 1, Pl.intO 0] 26 = (0, [Pl.fixO 5898240]) := by kernel_rfl
/-- an operator run on a row of our own -/
theorem run18 (W : World) (b : Nat) (L : List Pl.Ob) (k : Nat) (hk : k = L.length) (hA : RowV W (.slice (some ⟨b, 0, none⟩) k k) L) (hall : ∀ o ∈ L, Pl.mayO o) (hlen : L.length ≤ 200) (NM : ByteArray) (n : Int) (hn : Pl.opNum (rangedText Try.f31) NM = n) (e0 : Int) (R : List Pl.Ob) (hR : Pl.doR L n = (e0, R)) :
    Calls Try.prog 11 #[.slice (some ⟨b, 0, none⟩) k k, .string NM] W fun e w' => ∃ vi, e = .returned (.tuple #[vi, .int .i64 e0]) ∧ RowV w' vi R ∧ OwnForm vi R.length ∧ Fr (fun _ => False) W w' := by
  have := run_any W _ L hA hall hlen NM n hn
  rw [hR] at this
  exact this
theorem Pl.may_two {a b : Pl.Ob} (ha : Pl.mayO a) (hb : Pl.mayO b) : ∀ o ∈ [a, b], Pl.mayO o := fun o ho => by
  rcases List.mem_cons.1 ho with rfl | ho
  · exact ha
  · rw [List.mem_singleton.1 ho]; exact hb
set_option maxHeartbeats 8000000 in
set_option maxRecDepth 100000 in
theorem known18 (W : World) : Calls Try.prog 9 #[] W fun e w' => e = .returned (.bool true) ∧ Fr (fun _ => False) W w' := by
  have N := Lib.hid num18
  have FX := Lib.hid fix18
  go_enter Try.func9, Try.ntmps9
  go_wp2_with fail
  refine (N.out 7 _).mono ?_
  rintro e w1 ⟨rfl, g1⟩
  go_wp2_with fail
  refine (N.out (-2) _).mono ?_
  rintro e w2 ⟨rfl, g2⟩
  have G2 := Lib.hid (grown_trans g1 g2)
  clear g1 g2
  unfold Pl.intO
  have R1 := Lib.hid (fun b (hb : b = w2.heap.size) => run18 (w2.alloc (.cells #[.int .i64 3, .bool false, .int .i64 7, .int .i64 0, .int .i64 0, .string ⟨#[]⟩, .int .i64 3, .bool false, .int .i64 (-2), .int .i64 0, .int .i64 0, .string ⟨#[]⟩] 24)) b [Pl.intO 7, Pl.intO (-2)] 2 rfl (hb ▸ row_new w2 _ #[.int .i64 3, .bool false, .int .i64 7, .int .i64 0, .int .i64 0, .string ⟨#[]⟩, .int .i64 3, .bool false, .int .i64 (-2), .int .i64 0, .int .i64 0, .string ⟨#[]⟩] rfl 2 rfl) (Pl.may_two (Pl.may_intO (by decide)) (Pl.may_intO (by decide))) (by decide) ⟨#[105, 100, 105, 118]⟩ 15 op_idiv 0 [Pl.intO (-3)] known_idiv)
  go_wp2_with fail
  refine (R1.out _ (by first | rfl | simp)).mono ?_
  rintro e w3 ⟨v1, rfl, r1, o1, f1⟩
  obtain ⟨g, cap, rfl, hc, hg, c0, c1, c2, c3, c4, c5⟩ := row_get1 r1 o1
  have F3 := Lib.hid (((Fr.of_grown _ G2.out).trans (Fr.alloc (fun _ => False) w2 (.cells #[.int .i64 3, .bool false, .int .i64 7, .int .i64 0, .int .i64 0, .string ⟨#[]⟩, .int .i64 3, .bool false, .int .i64 (-2), .int .i64 0, .int .i64 0, .string ⟨#[]⟩] 24))).trans f1)
  clear r1 o1 f1 R1 G2
  go_wp2_with fail
  refine (N.out 1 _).mono ?_
  rintro e w4 ⟨rfl, g4⟩
  go_wp2_with fail
  refine (N.out 0 _).mono ?_
  rintro e w5 ⟨rfl, g5⟩
  have G5 := Lib.hid (grown_trans g4 g5)
  clear g4 g5
  unfold Pl.intO
  have R2 := Lib.hid (fun b (hb : b = w5.heap.size) => run18 (w5.alloc (.cells #[.int .i64 3, .bool false, .int .i64 1, .int .i64 0, .int .i64 0, .string ⟨#[]⟩, .int .i64 3, .bool false, .int .i64 0, .int .i64 0, .int .i64 0, .string ⟨#[]⟩] 24)) b [Pl.intO 1, Pl.intO 0] 2 rfl (hb ▸ row_new w5 _ #[.int .i64 3, .bool false, .int .i64 1, .int .i64 0, .int .i64 0, .string ⟨#[]⟩, .int .i64 3, .bool false, .int .i64 0, .int .i64 0, .int .i64 0, .string ⟨#[]⟩] rfl 2 rfl) (Pl.may_two (Pl.may_intO (by decide)) (Pl.may_intO (by decide))) (by decide) ⟨#[97, 116, 97, 110]⟩ 26 op_atan 0 [Pl.fixO 5898240] known_atan)
  go_wp2_with fail
  refine (R2.out _ (by first | rfl | simp)).mono ?_
  rintro e w6 ⟨v2, rfl, r2, o2, f2⟩
  obtain ⟨q, cap2, rfl, hc2, hq, d0, d1, d2, d3, d4, d5⟩ := row_get1 r2 o2
  have F5 := Lib.hid (((Fr.of_grown _ G5.out).trans (Fr.alloc (fun _ => False) w5 (.cells #[.int .i64 3, .bool false, .int .i64 1, .int .i64 0, .int .i64 0, .string ⟨#[]⟩, .int .i64 3, .bool false, .int .i64 0, .int .i64 0, .int .i64 0, .string ⟨#[]⟩] 24))).trans f2)
  have HT : Hid (w6.cell? ⟨g, 0, none⟩ = some (.int .i64 3) ∧ w6.cell? ⟨g, 1, none⟩ = some (.bool false) ∧ w6.cell? ⟨g, 2, none⟩ = some (.int .i64 (-3)) ∧ w6.cell? ⟨g, 3, none⟩ = some (.int .i64 0) ∧ w6.cell? ⟨g, 4, none⟩ = some (.int .i64 0) ∧ w6.cell? ⟨g, 5, none⟩ = some (.string ⟨#[]⟩) ∧ w6.cell? ⟨q, 0, none⟩ = some (.int .i64 4) ∧ w6.cell? ⟨q, 1, none⟩ = some (.bool false) ∧ w6.cell? ⟨q, 2, none⟩ = some (.int .i64 5898240) ∧ w6.cell? ⟨q, 3, none⟩ = some (.int .i64 0) ∧ w6.cell? ⟨q, 4, none⟩ = some (.int .i64 0) ∧ w6.cell? ⟨q, 5, none⟩ = some (.string ⟨#[]⟩) ∧ Fr (fun _ => False) W w6) := Lib.hid ⟨cell_fr0 c0 F5.out, cell_fr0 c1 F5.out, cell_fr0 c2 F5.out, cell_fr0 c3 F5.out, cell_fr0 c4 F5.out, cell_fr0 c5 F5.out, d0, d1, d2, d3, d4, d5, F3.out.trans F5.out⟩
  clear r2 o2 f2 R2 G5 F3 F5 c0 c1 c2 c3 c4 c5 d0 d1 d2 d3 d4 d5
  have L1 := Lib.hid (fun Z (h : Z.cell? ⟨g, 0, none⟩ = some (.int .i64 3) ∧ Z.cell? ⟨g, 1, none⟩ = some (.bool false) ∧ Z.cell? ⟨g, 2, none⟩ = some (.int .i64 (-3)) ∧ Z.cell? ⟨g, 3, none⟩ = some (.int .i64 0) ∧ Z.cell? ⟨g, 4, none⟩ = some (.int .i64 0) ∧ Z.cell? ⟨g, 5, none⟩ = some (.string ⟨#[]⟩) ∧ Z.cell? ⟨q, 0, none⟩ = some (.int .i64 4) ∧ Z.cell? ⟨q, 1, none⟩ = some (.bool false) ∧ Z.cell? ⟨q, 2, none⟩ = some (.int .i64 5898240) ∧ Z.cell? ⟨q, 3, none⟩ = some (.int .i64 0) ∧ Z.cell? ⟨q, 4, none⟩ = some (.int .i64 0) ∧ Z.cell? ⟨q, 5, none⟩ = some (.string ⟨#[]⟩) ∧ Fr (fun _ => False) W Z) => (N.out (-3) Z).mono fun en w' hh => (by obtain ⟨t0, t1, t2, t3, t4, t5, t6, t7, t8, t9, t10, t11, tf⟩ := h; exact ⟨hh.1, grown_cell hh.2 t0, grown_cell hh.2 t1, grown_cell hh.2 t2, grown_cell hh.2 t3, grown_cell hh.2 t4, grown_cell hh.2 t5, grown_cell hh.2 t6, grown_cell hh.2 t7, grown_cell hh.2 t8, grown_cell hh.2 t9, grown_cell hh.2 t10, grown_cell hh.2 t11, tf.trans (Fr.of_grown _ hh.2)⟩ : en = .returned (Pl.ov (Pl.intO (-3))) ∧ (w'.cell? ⟨g, 0, none⟩ = some (.int .i64 3) ∧ w'.cell? ⟨g, 1, none⟩ = some (.bool false) ∧ w'.cell? ⟨g, 2, none⟩ = some (.int .i64 (-3)) ∧ w'.cell? ⟨g, 3, none⟩ = some (.int .i64 0) ∧ w'.cell? ⟨g, 4, none⟩ = some (.int .i64 0) ∧ w'.cell? ⟨g, 5, none⟩ = some (.string ⟨#[]⟩) ∧ w'.cell? ⟨q, 0, none⟩ = some (.int .i64 4) ∧ w'.cell? ⟨q, 1, none⟩ = some (.bool false) ∧ w'.cell? ⟨q, 2, none⟩ = some (.int .i64 5898240) ∧ w'.cell? ⟨q, 3, none⟩ = some (.int .i64 0) ∧ w'.cell? ⟨q, 4, none⟩ = some (.int .i64 0) ∧ w'.cell? ⟨q, 5, none⟩ = some (.string ⟨#[]⟩) ∧ Fr (fun _ => False) W w')))
  have L2 := Lib.hid (fun Z (h : Z.cell? ⟨g, 0, none⟩ = some (.int .i64 3) ∧ Z.cell? ⟨g, 1, none⟩ = some (.bool false) ∧ Z.cell? ⟨g, 2, none⟩ = some (.int .i64 (-3)) ∧ Z.cell? ⟨g, 3, none⟩ = some (.int .i64 0) ∧ Z.cell? ⟨g, 4, none⟩ = some (.int .i64 0) ∧ Z.cell? ⟨g, 5, none⟩ = some (.string ⟨#[]⟩) ∧ Z.cell? ⟨q, 0, none⟩ = some (.int .i64 4) ∧ Z.cell? ⟨q, 1, none⟩ = some (.bool false) ∧ Z.cell? ⟨q, 2, none⟩ = some (.int .i64 5898240) ∧ Z.cell? ⟨q, 3, none⟩ = some (.int .i64 0) ∧ Z.cell? ⟨q, 4, none⟩ = some (.int .i64 0) ∧ Z.cell? ⟨q, 5, none⟩ = some (.string ⟨#[]⟩) ∧ Fr (fun _ => False) W Z) => (FX.out 5898240 Z).mono fun en w' hh => (by obtain ⟨t0, t1, t2, t3, t4, t5, t6, t7, t8, t9, t10, t11, tf⟩ := h; exact ⟨hh.1, grown_cell hh.2 t0, grown_cell hh.2 t1, grown_cell hh.2 t2, grown_cell hh.2 t3, grown_cell hh.2 t4, grown_cell hh.2 t5, grown_cell hh.2 t6, grown_cell hh.2 t7, grown_cell hh.2 t8, grown_cell hh.2 t9, grown_cell hh.2 t10, grown_cell hh.2 t11, tf.trans (Fr.of_grown _ hh.2)⟩ : en = .returned (Pl.ov (Pl.fixO 5898240)) ∧ (w'.cell? ⟨g, 0, none⟩ = some (.int .i64 3) ∧ w'.cell? ⟨g, 1, none⟩ = some (.bool false) ∧ w'.cell? ⟨g, 2, none⟩ = some (.int .i64 (-3)) ∧ w'.cell? ⟨g, 3, none⟩ = some (.int .i64 0) ∧ w'.cell? ⟨g, 4, none⟩ = some (.int .i64 0) ∧ w'.cell? ⟨g, 5, none⟩ = some (.string ⟨#[]⟩) ∧ w'.cell? ⟨q, 0, none⟩ = some (.int .i64 4) ∧ w'.cell? ⟨q, 1, none⟩ = some (.bool false) ∧ w'.cell? ⟨q, 2, none⟩ = some (.int .i64 5898240) ∧ w'.cell? ⟨q, 3, none⟩ = some (.int .i64 0) ∧ w'.cell? ⟨q, 4, none⟩ = some (.int .i64 0) ∧ w'.cell? ⟨q, 5, none⟩ = some (.string ⟨#[]⟩) ∧ Fr (fun _ => False) W w')))
  clear N FX
  unfold Pl.intO at L1
  unfold Pl.fixO at L2
  go_wp2_with fail
  go_region_held3 (fun Z => Z.cell? ⟨g, 0, none⟩ = some (.int .i64 3) ∧ Z.cell? ⟨g, 1, none⟩ = some (.bool false) ∧ Z.cell? ⟨g, 2, none⟩ = some (.int .i64 (-3)) ∧ Z.cell? ⟨g, 3, none⟩ = some (.int .i64 0) ∧ Z.cell? ⟨g, 4, none⟩ = some (.int .i64 0) ∧ Z.cell? ⟨g, 5, none⟩ = some (.string ⟨#[]⟩) ∧ Z.cell? ⟨q, 0, none⟩ = some (.int .i64 4) ∧ Z.cell? ⟨q, 1, none⟩ = some (.bool false) ∧ Z.cell? ⟨q, 2, none⟩ = some (.int .i64 5898240) ∧ Z.cell? ⟨q, 3, none⟩ = some (.int .i64 0) ∧ Z.cell? ⟨q, 4, none⟩ = some (.int .i64 0) ∧ Z.cell? ⟨q, 5, none⟩ = some (.string ⟨#[]⟩) ∧ Fr (fun _ => False) W Z)
    (first | assumption | exact HT.out)
    (first
      | (go_at_call 10; first | (with_reducible refine Calls.mono (L1.out _ ?_) ?_; (assumption); rintro e w' ⟨rfl, hS⟩))
      | (go_at_call 13; first | (with_reducible refine Calls.mono (L2.out _ ?_) ?_; (assumption); rintro e w' ⟨rfl, hS⟩)))
  all_goals
    have HX := Lib.hid hS
    clear hS
    go_wp2_with fail
    go_ret
    exact ⟨rfl, HX.out.2.2.2.2.2.2.2.2.2.2.2.2⟩
end Go.Proofs.Ytfmmomdmemcbbaa

namespace Go.Proofs.Ytfmmomdmemcbbaa
set_option linter.unusedVariables false
open Go.ChangeShapes Go.WideShapes Go.ChangeAt Go.RowKit

theorem post_of_kept {H : Type} {enc : TypeId × Value → H} {P : Program} {f : Func} {s : ChangeSpec} {apart fresh handsOn again : Bool} {W W' : World} {args : Array Value} {v : Value} {ds gs : List (DataW H)} {before pa pv : List MemPlace}
    (hW : DataW.Whole enc P f.params.toList s.vars apart W args.toList ds gs before)
    (hres : ∀ (b : Nat) (sp : Nat → Bool) (hd : Bool), DataW.TrodAll enc P W' b sp hd f.resultTypes.toList (v.resultList f.resultTypes.size) (s.fn H (ds ++ gs)).results [])
    (hargs : ∀ sp : Nat → Bool, (∀ p ∈ before, sp p.block = true) → DataW.TrodAll enc P W' 0 sp true f.params.toList args.toList (s.fn H (ds ++ gs)).args pa)
    (hvars : ∀ sp : Nat → Bool, (∀ p ∈ before, sp p.block = true) → DataW.TrodVars enc P W' sp s.vars (s.fn H (ds ++ gs)).vars pv)
    (hps : before = pa ++ pv) (hk : Kept W W')
    (hok : ∀ (j : Nat) (t : TypeId) (r : Value), f.resultTypes[j]? = some t → (v.resultList f.resultTypes.size)[j]? = some r → Value.okWide P W' .any 0 t r) :
    s.post enc P f apart fresh handsOn again W args v W' := by
  have hlt := fun p hp => hW.lt p hp
  have hold : ∀ p ∈ before, (fun b => decide (b < W.heap.size)) p.block = true := fun p hp => by simpa using hlt p hp
  refine ⟨ds, gs, before, [], pa, pv, hW, hres _ _ _, hargs _ hold, hvars _ hold, World.keptBut_mono (fun p hp => hp.elim) hk.1, fun _ => ?_⟩
  obtain ⟨_, _, _, _, _, hz, hn⟩ := hW
  refine ⟨hok, _, _, ([] ++ pa) ++ pv, ⟨[] ++ pa, pv, trodAll_append (hargs _ (fun _ _ => rfl)) (hres _ _ _), hvars _ (fun _ _ => rfl), rfl, ?_, ?_⟩, ?_⟩
  · intro b off hp
    have hb : MemPlace.cell b off ∈ before := by rw [hps]; simpa using hp
    rw [hk.2.1 _ (show b < W.heap.size from hlt _ hb)]
    exact hz b off hb
  · intro ha
    have := hn ha
    rw [hps] at this
    simpa using this
  · intro p hp _
    rw [hps]
    simpa using hp
end Go.Proofs.Ytfmmomdmemcbbaa

namespace Go.Proofs.Ytfmmomdmemcbbaa
set_option linter.unusedVariables false
open Go.ChangeShapes Go.WideShapes Go.ChangeAt Go.RowKit

theorem add_block (a : Addr) (i : Nat) : (a.add i).block = a.block := by
  unfold Addr.add
  split <;> rfl
theorem kept_block {W W' : World} (hk : Kept W W') {b : Nat} (hb : b < W.heap.size) : W'.heap[b]? = W.heap[b]? := hk.1.block hb (fun p f => f.elim)
theorem cell_kept {W W' : World} (hk : Kept W W') {a : Addr} {v : Value} (h : W.cell? a = some v) : W'.cell? a = some v :=
  (World.cell?_of_block (kept_block hk (World.block_lt_of_cell? W a h))).trans h
theorem cells_kept {W W' : World} (hk : Kept W W') {base : Nat} {a : Addr} {n : Nat} {cs : List Value} (h : W.cells? base a n = some cs) : W'.cells? base a n = some cs := by
  unfold World.cells? at h ⊢
  split at h
  · rename_i hc
    rw [if_pos hc]
    exact mapM_grows (fun i y hy => cell_kept hk hy) h
  · cases h

/-- a list of types that is closed: whatever a reading of one of them comes to is of one of them -/
def okType (P : Program) (G : List TypeId) (t : TypeId) : Bool :=
  match P.underlying t with
  | some (.slice e) => decide (0 < P.cellsOf e) && G.contains e
  | some (.pointer e) => G.contains e
  | some (.array _ e) => G.contains e
  | some (.struct fs) => fs.toList.all fun f => G.contains f.type
  | some (.map _ e) => G.contains e
  | _ => true
def okTypes (P : Program) (G : List TypeId) : Bool := G.all (okType P G)
/-- what lies beneath a type -/
def below (P : Program) (t : TypeId) : List TypeId :=
  match P.underlying t with
  | some (.slice e) => [e]
  | some (.pointer e) => [e]
  | some (.array _ e) => [e]
  | some (.struct fs) => fs.toList.map fun f => f.type
  | some (.map _ e) => [e]
  | _ => []
def closeTypes (P : Program) : Nat → List TypeId → List TypeId
  | 0, G => G
  | n + 1, G => closeTypes P n (G ++ (G.flatMap (below P)).filter fun t => !G.contains t)
section
variable {P : Program} {G : List TypeId} {t e : TypeId}
theorem okT (hG : okTypes P G = true) (ht : t ∈ G) : okType P G t = true := List.all_eq_true.1 hG t ht
theorem okT_slice (hG : okTypes P G = true) (ht : t ∈ G) (hu : P.underlying t = some (.slice e)) : 0 < P.cellsOf e ∧ e ∈ G := by
  have h := okT hG ht
  simpa [okType, hu] using h
theorem okT_pointer (hG : okTypes P G = true) (ht : t ∈ G) (hu : P.underlying t = some (.pointer e)) : e ∈ G := by
  have h := okT hG ht
  simpa [okType, hu] using h
theorem okT_array {m : Nat} (hG : okTypes P G = true) (ht : t ∈ G) (hu : P.underlying t = some (.array m e)) : e ∈ G := by
  have h := okT hG ht
  simpa [okType, hu] using h
theorem okT_map {k : TypeId} (hG : okTypes P G = true) (ht : t ∈ G) (hu : P.underlying t = some (.map k e)) : e ∈ G := by
  have h := okT hG ht
  simpa [okType, hu] using h
theorem okT_struct {fs : Array Field} (hG : okTypes P G = true) (ht : t ∈ G) (hu : P.underlying t = some (.struct fs)) : ∀ f ∈ fs.toList, f.type ∈ G := by
  have h := okT hG ht
  simp only [okType, hu, List.all_eq_true] at h
  intro f hf
  simpa using h f hf
end
/-- as mapM_grows, of the members of the list -/
theorem mapM_grows_mem {α β : Type} {f g : α → Option β} : ∀ {l : List α} {ys : List β}, (∀ x ∈ l, ∀ y, f x = some y → g x = some y) → l.mapM f = some ys → l.mapM g = some ys
  | [], ys, _, e => by simpa using e
  | x :: xs, ys, h, e => by
    rw [List.mapM_cons] at e ⊢
    cases hx : f x with
    | none => simp [hx] at e
    | some y =>
      cases hxs : xs.mapM f with
      | none => simp [hx, hxs] at e
      | some zs =>
        rw [h x (by simp) y hx, mapM_grows_mem (fun z hz => h z (List.mem_cons_of_mem _ hz)) hxs]
        simpa [hx, hxs] using e

section
variable {H : Type} {enc : TypeId × Value → H} {P : Program} {W W' : World} {base : Nat} {sp : Nat → Bool} {G : List TypeId}
theorem bind_grows2 {α β : Type} {f g : α → Option β} {o o' : Option α} (ho : ∀ x, o = some x → o' = some x) (h : ∀ x y, f x = some y → g x = some y) {y : β} (e : o.bind f = some y) : o'.bind g = some y := by
  cases o with
  | none => cases e
  | some x => rw [ho x rfl]; exact h x y e
theorem trod_kept (hk : Kept W W') (hG : okTypes P G = true) (hsp : ∀ b, b < W.heap.size → sp b = true) : ∀ (n : Nat) (t : TypeId) (_ : t ∈ G) (cs : List Value) (x : DataW H × List MemPlace),
    DataW.trod enc P W base (fun _ => true) true n t cs = some x → DataW.trod enc P W' base sp true n t cs = some x
  | 0, _, _, _, _, h => by simp [DataW.trod] at h
  | n + 1, t, ht, cs, d, h => by
    have ih := trod_kept hk hG hsp n
    cases hu : P.underlying t with
    | none => simp [DataW.trod, hu] at h
    | some desc =>
      cases desc
      case pointer e =>
        rcases cs with _ | ⟨c, _ | ⟨c', r⟩⟩
        · simp [DataW.trod, hu] at h
        · cases c
          case pointer a =>
            cases a with
            | none => simpa [DataW.trod, hu] using h
            | some a =>
              simp only [DataW.trod, hu] at h ⊢
              exact map_grows (fun x hx => bind_grows2 (fun y hy => cells_kept hk hy) (ih e (okT_pointer hG ht hu)) hx) _ h
          all_goals simp [DataW.trod, hu] at h
        · simp [DataW.trod, hu] at h
      case slice e =>
        rcases cs with _ | ⟨c, _ | ⟨c', r⟩⟩
        · simp [DataW.trod, hu] at h
        · cases c
          case slice a len cap =>
            cases a with
            | none => cases len <;> cases cap <;> simp [DataW.trod, hu] at h ⊢ <;> exact h
            | some a =>
              simp only [DataW.trod, hu] at h ⊢
              split at h
              · rename_i hc
                rw [if_pos hc]
                have el : ∀ (i : Nat) (y : DataW H × List MemPlace), (W.cells? base (a.add (i * P.cellsOf e)) (P.cellsOf e)).bind (DataW.trod enc P W base (fun _ => true) true n e) = some y → (W'.cells? base (a.add (i * P.cellsOf e)) (P.cellsOf e)).bind (DataW.trod enc P W' base sp true n e) = some y := fun i y hy => bind_grows2 (fun z hz => cells_kept hk hz) (ih e (okT_slice hG ht hu).2) hy
                have hlt : ∀ (i : Nat) (y : DataW H × List MemPlace), (W.cells? base (a.add (i * P.cellsOf e)) (P.cellsOf e)).bind (DataW.trod enc P W base (fun _ => true) true n e) = some y → a.block < W.heap.size := fun i y hy => by
                  cases hq : W.cells? base (a.add (i * P.cellsOf e)) (P.cellsOf e) with
                  | none => rw [hq] at hy; cases hy
                  | some c1 =>
                    have := World.cells?_block hq (okT_slice hG ht hu).1
                    rwa [add_block] at this
                cases h1 : (List.range len).mapM (fun i => (W.cells? base (a.add (i * P.cellsOf e)) (P.cellsOf e)).bind (DataW.trod enc P W base (fun _ => true) true n e)) with
                | none => rw [h1] at h; cases h
                | some elems =>
                  rw [h1] at h
                  rw [mapM_grows el h1]
                  simp only [Option.bind_some, if_true] at h ⊢
                  by_cases hcl : cap - len = 0
                  · rw [hcl] at h ⊢
                    simpa using h
                  · obtain ⟨k, hk1⟩ : ∃ k, cap - len = k + 1 := ⟨cap - len - 1, by omega⟩
                    rw [hk1] at h ⊢
                    have hb : a.block < W.heap.size := by
                      cases h2 : (List.range (k + 1)).mapM (fun j => (W.cells? base (a.add ((len + j) * P.cellsOf e)) (P.cellsOf e)).bind (DataW.trod enc P W base (fun _ => true) true n e)) with
                      | none => rw [h2] at h; cases h
                      | some rest =>
                        rw [List.range_succ_eq_map, List.mapM_cons] at h2
                        cases h3 : (W.cells? base (a.add ((len + 0) * P.cellsOf e)) (P.cellsOf e)).bind (DataW.trod enc P W base (fun _ => true) true n e) with
                        | none => rw [h3] at h2; cases h2
                        | some y => exact hlt _ _ h3
                    rw [hsp _ hb, if_pos rfl]
                    exact map_grows (fun x hx => mapM_grows (fun j y hy => el (len + j) y hy) hx) _ h
              · cases h
          all_goals simp [DataW.trod, hu] at h
        · simp [DataW.trod, hu] at h
      case array m e =>
        simp only [DataW.trod, hu] at h ⊢
        split at h
        · rename_i hc
          rw [if_pos hc]
          exact map_grows (fun x hx => mapM_grows (fun i y hy => ih e (okT_array hG ht hu) _ y hy) hx) _ h
        · cases h
      case struct fs =>
        simp only [DataW.trod, hu] at h ⊢
        split at h
        · rename_i hc
          rw [if_pos hc]
          exact map_grows (fun x hx => mapM_grows_mem (fun f hf y hy => ih f.type (okT_struct hG ht hu f hf) _ y hy) hx) _ h
        · cases h
      case interface ms =>
        rcases cs with _ | ⟨c, _ | ⟨c', r⟩⟩
        · simp [DataW.trod, hu] at h
        · cases c
          case nilIface => simpa [DataW.trod, hu] using h
          case iface u v =>
            simp only [DataW.trod, hu] at h ⊢
            exact h
          all_goals simp [DataW.trod, hu] at h
        · simp [DataW.trod, hu] at h
      case map k e =>
        rcases cs with _ | ⟨c, _ | ⟨c', r⟩⟩
        · simp [DataW.trod, hu] at h
        · cases c
          case map b =>
            cases b with
            | none => simpa [DataW.trod, hu] using h
            | some b =>
              simp only [DataW.trod, hu] at h ⊢
              cases hb : W.heap[b]? with
              | none => simp [hb] at h
              | some o =>
                have hb' : W'.heap[b]? = some o := (kept_block hk (Array.getElem?_eq_some_iff.1 hb).1).trans hb
                cases o
                case map es clock =>
                  simp only [hb, hb'] at h ⊢
                  split at h
                  · rename_i hc
                    rw [if_pos hc]
                    refine bind_grows2 (fun x hx => mapM_grows (fun z y hy => ?_) hx) (fun x y hy => hy) h
                    cases hkx : keyOf P k z.key with
                    | none => simp [hkx] at hy
                    | some key =>
                      simp only [hkx, Option.bind_some] at hy ⊢
                      split at hy
                      · rename_i hf
                        rw [if_pos hf]
                        exact map_grows (fun q hq => ih e (okT_map hG ht hu) _ q hq) _ hy
                      · cases hy
                  · cases h
                all_goals simp [hb] at h
          all_goals simp [DataW.trod, hu] at h
        · simp [DataW.trod, hu] at h
      case chan dir e =>
        rcases cs with _ | ⟨c, _ | ⟨c', r⟩⟩
        · simp [DataW.trod, hu] at h
        · cases c
          case chan r => cases r <;> simp [DataW.trod, hu] at h ⊢ <;> exact h
          all_goals simp [DataW.trod, hu] at h
        · simp [DataW.trod, hu] at h
      case unsafePointer =>
        rcases cs with _ | ⟨c, _ | ⟨c', r⟩⟩
        · simp [DataW.trod, hu] at h
        · cases c
          case pointer a => cases a <;> simp [DataW.trod, hu] at h ⊢ <;> exact h
          all_goals simp [DataW.trod, hu] at h
        · simp [DataW.trod, hu] at h
      all_goals
        rcases cs with _ | ⟨c, _ | ⟨c', r⟩⟩
        · simp [DataW.trod, hu] at h
        · cases c <;> simp [DataW.trod, hu] at h ⊢ <;> exact h
        · simp [DataW.trod, hu] at h
theorem trodAll_kept (hk : Kept W W') (hG : okTypes P G = true) (hsp : ∀ b, b < W.heap.size → sp b = true) : ∀ {ts : List TypeId} {vs : List Value} {ds : List (DataW H)} {ps : List MemPlace}, (∀ t ∈ ts, t ∈ G) →
    DataW.TrodAll enc P W base (fun _ => true) true ts vs ds ps → DataW.TrodAll enc P W' base sp true ts vs ds ps
  | [], _, _, _, _, h => by
    obtain ⟨rfl, rfl, rfl⟩ := trodAll_nil h
    exact trodAll_mk0
  | t :: ts, _, _, _, hts, h => by
    obtain ⟨v, vs1, d, ds1, a, b, rfl, rfl, rfl, ⟨f, h1⟩, h2⟩ := trodAll_cons h
    exact ⟨a, b, ⟨f, trod_kept hk hG hsp f _ (hts t (by simp)) _ _ h1⟩, trodAll_kept hk hG hsp (fun u hu => hts u (List.mem_cons_of_mem _ hu)) h2, rfl⟩
end

/-- the post of a law that answers true, whatever its arguments, where the old memory is kept -/
theorem post_of_law {H : Type} {enc : TypeId × Value → H} {P : Program} {f : Func} {s : ChangeSpec} {apart fresh handsOn again : Bool} {W W' : World} {args : Array Value} {v : Value} {ds gs : List (DataW H)} {before : List MemPlace} {G : List TypeId}
    (hG : okTypes P G = true) (hPG : f.params.toList.all (fun t => G.contains t) = true)
    (hW : DataW.Whole enc P f.params.toList s.vars apart W args.toList ds gs before)
    (hvs : s.vars = []) (hav : (s.fn H (ds ++ gs)).args = ds) (hvv : (s.fn H (ds ++ gs)).vars = [])
    (hres : ∀ (b : Nat) (sp : Nat → Bool) (hd : Bool), DataW.TrodAll enc P W' b sp hd f.resultTypes.toList (v.resultList f.resultTypes.size) (s.fn H (ds ++ gs)).results [])
    (hk : Kept W W')
    (hok : ∀ (j : Nat) (t : TypeId) (r : Value), f.resultTypes[j]? = some t → (v.resultList f.resultTypes.size)[j]? = some r → Value.okWide P W' .any 0 t r) :
    s.post enc P f apart fresh handsOn again W args v W' := by
  obtain ⟨p, q, hA, hV, hpq, hnf, hnd⟩ := id hW
  have hgq : gs = [] ∧ q = [] := by
    rw [hvs] at hV
    cases gs with
    | nil => exact ⟨rfl, hV⟩
    | cons g r => exact hV.elim
  obtain ⟨rfl, rfl⟩ := hgq
  rw [List.append_nil] at hpq
  subst hpq
  have hargs : ∀ sp : Nat → Bool, (∀ b, b < W.heap.size → sp b = true) → DataW.TrodAll enc P W' 0 sp true f.params.toList args.toList (s.fn H (ds ++ [])).args before := fun sp hsp => by
    rw [hav]
    exact trodAll_kept hk hG hsp (fun t ht => by simpa using List.all_eq_true.1 hPG t ht) hA
  have hvars : ∀ sp : Nat → Bool, DataW.TrodVars enc P W' sp s.vars (s.fn H (ds ++ [])).vars [] := fun sp => by
    rw [hvs, hvv]
    exact rfl
  have hlt := fun p hp => hW.lt p hp
  refine ⟨ds, [], before, [], before, [], hW, hres _ _ _, hargs _ (fun b hb => by simpa using hb), hvars _, World.keptBut_mono (fun p hp => hp.elim) hk.1, fun _ => ?_⟩
  refine ⟨hok, _, _, ([] ++ before) ++ [], ⟨[] ++ before, [], trodAll_append (hargs _ (fun _ _ => rfl)) (hres _ _ _), hvars _, rfl, ?_, ?_⟩, ?_⟩
  · intro b off hp
    have hb : MemPlace.cell b off ∈ before := by simpa using hp
    rw [hk.2.1 _ (show b < W.heap.size from hlt _ hb)]
    exact hnf b off hb
  · intro ha
    simpa using hnd ha
  · intro p hp _
    simpa using hp

/-- a list of witnesses -/
theorem list_of {α : Type} {p : Nat → α → Prop} : ∀ (n : Nat), (∀ i, i < n → ∃ c, p i c) → ∃ l : List α, l.length = n ∧ ∀ i c, l[i]? = some c → p i c
  | 0, _ => ⟨[], rfl, fun i c h => by simp at h⟩
  | n + 1, h => by
    obtain ⟨l, hl, hp⟩ := list_of n (fun i hi => h i (by omega))
    obtain ⟨c, hc⟩ := h n (by omega)
    refine ⟨l ++ [c], by simp [hl], fun i d hd => ?_⟩
    rcases Nat.lt_or_ge i n with hi | hi
    · rw [List.getElem?_append_left (by omega)] at hd
      exact hp i d hd
    · rw [List.getElem?_append_right (by omega), hl] at hd
      have : i - n = 0 := by
        rcases Nat.eq_zero_or_pos (i - n) with h0 | h0
        · exact h0
        · rw [List.getElem?_eq_none (by simp; omega)] at hd; cases hd
      rw [this] at hd
      obtain rfl : i = n := by omega
      simp at hd
      rw [← hd]
      exact hc

/-- a slice, by the cells of its elements; each element reads as one of its type -/
def Els {H : Type} (enc : TypeId × Value → H) (P : Program) (e : TypeId) (W : World) (v : Value) (els : List (List Value)) : Prop :=
  ∃ ao cap, v = .slice ao els.length cap ∧ els.length ≤ cap ∧ els.length ≤ maxLen ∧ (∀ c ∈ els, c.length = P.cellsOf e ∧ ∃ fuel y, DataW.trod enc P W 0 (fun _ => true) true fuel e c = some y) ∧
    (els = [] ∨ ∃ g o, ao = some ⟨g, o, none⟩ ∧ g < W.heap.size ∧ ∀ i c, els[i]? = some c → ∀ j u, c[j]? = some u → W.cell? ⟨g, o + i * P.cellsOf e + j, none⟩ = some u)
theorem trod_els {H : Type} {enc : TypeId × Value → H} {P : Program} {W : World} {t e : TypeId} {v : Value} {fuel : Nat} {x : DataW H × List MemPlace} (ht : P.underlying t = some (.slice e)) (hc : 0 < P.cellsOf e)
    (hd : DataW.trod enc P W 0 (fun _ => true) true fuel t [v] = some x) : ∃ els, Els enc P e W v els := by
  rcases DataW.trod_slice ht hd with ⟨h, _⟩ | ⟨a, len, cap, elems, rest, n, _, h, _, _, hl, hm, hlen, hel, _⟩
  · injection h with h
    exact ⟨[], none, 0, h, by simp, by simp, by simp, .inl rfl⟩
  · injection h with h
    have each : ∀ i, i < len → ∃ c, W.cells? 0 (a.add (i * P.cellsOf e)) (P.cellsOf e) = some c ∧ ∃ fuel y, DataW.trod enc P W 0 (fun _ => true) true fuel e c = some y := by
      intro i hi
      have h1 := hel i hi
      rw [List.getElem?_eq_getElem (by omega), Option.bind_eq_some_iff] at h1
      obtain ⟨c, h2, h3⟩ := h1
      exact ⟨c, h2, n, _, h3⟩
    obtain ⟨els, hels, hp⟩ := list_of len each
    refine ⟨els, some a, cap, by rw [h, hels], by omega, by omega, ?_, ?_⟩
    · intro c hcm
      obtain ⟨i, hi⟩ := List.getElem?_of_mem hcm
      obtain ⟨h2, h3⟩ := hp i c hi
      exact ⟨(World.cells?_some h2).2.1, h3⟩
    · rcases Nat.eq_zero_or_pos len with h0 | h0
      · exact .inl (List.eq_nil_of_length_eq_zero (by omega))
      · obtain ⟨c0, hc0⟩ : ∃ c, els[0]? = some c := ⟨_, List.getElem?_eq_getElem (by omega)⟩
        have h2 := (hp 0 c0 hc0).1
        obtain ⟨_, hl0, hcell⟩ := World.cells?_some h2
        have g0 := hcell 0 hc
        rw [List.getElem?_eq_getElem (by omega)] at g0
        obtain ⟨b, off, spot⟩ := a
        have hs : spot = none := by simpa [Addr.add] using World.cell?_spot g0
        subst hs
        have hlt : b < W.heap.size := by
          have := World.cells?_block h2 hc
          rwa [add_block] at this
        refine .inr ⟨b, off, rfl, hlt, fun i c hi j u hu => ?_⟩
        obtain ⟨_, hl1, hcell⟩ := World.cells?_some (hp i c hi).1
        have hj : j < P.cellsOf e := by
          have := (List.getElem?_eq_some_iff.1 hu).1
          omega
        have := hcell j hj
        rw [hu, add_plain, add_plain] at this
        exact this
theorem open_els {H : Type} {enc : TypeId × Value → H} {P : Program} {W : World} {r : Reach} {b0 : Nat} {t e : TypeId} {v : Value} {d : DataW H} {ps : List MemPlace} (ht : P.underlying t = some (.slice e)) (hc : 0 < P.cellsOf e) (hval : Value.okWide P W r b0 t v)
    (hd : DataW.Trod enc P W 0 (fun _ => true) true t v d ps) : ∃ els, Els enc P e W v els := by
  obtain ⟨a, l, c, rfl⟩ := okWide_slice ht hval
  obtain ⟨fuel, hf⟩ := hd
  exact trod_els ht hc (by simpa [Value.cells] using hf)
/-- the slice's elements by what they are -/
theorem Els.rows {H : Type} {enc : TypeId × Value → H} {P : Program} {e : TypeId} {W : World} {v : Value} {els : List (List Value)} (h : Els enc P e W v els) {α : Type} (f : α → List Value) (hf : ∀ c fuel y, c.length = P.cellsOf e → DataW.trod enc P W 0 (fun _ => true) true fuel e c = some y → ∃ q : α, c = f q) :
    ∃ l : List α, els = l.map f := by
  obtain ⟨ao, cap, -, -, -, h1, -⟩ := h
  induction els with
  | nil => exact ⟨[], rfl⟩
  | cons c r ih =>
    obtain ⟨l, hl⟩ := ih (fun c hc => h1 c (List.mem_cons_of_mem _ hc))
    obtain ⟨hc1, fuel, y, hy⟩ := h1 c (by simp)
    obtain ⟨q, hq⟩ := hf c fuel y hc1 hy
    exact ⟨q :: l, by rw [List.map_cons, ← hl, hq]⟩
end Go.Proofs.Ytfmmomdmemcbbaa
