/- The walk of arith.Do. -/
import Derived.Deep.DeepCutAuto
import Derived.Deep.RegionHeld3
import Derived.Test.YtfmmomdmemcbbaaGreatA12
import Derived.Test.YtfmmomdmemcbbaaGreatM2
import Derived.Test.YtfmmomdmemcbbaaGreatM4
set_option maxHeartbeats 4000000
set_option maxRecDepth 100000
namespace Go.Proofs.YtfmmomdmemcbbaaGreat
set_option linter.unusedVariables false
open Go.RowKit
def Pl.nullO : Pl.Ob := (1, false, 0, 0, 0, ⟨#[]⟩)
theorem Pl.may_null : Pl.mayO Pl.nullO := by unfold Pl.mayO Pl.may Pl.nullO Pl.bare; simp
theorem Pl.opT_is2 : ∃ T, Pl.OpT2 T ∧ Pl.opFam T 38 = 1 ∧ Pl.opFam T 39 = 2 ∧ rangedText Tryz.f33 = T := ⟨_, Pl.opT2_is, by decide +kernel, by decide +kernel, rfl⟩
theorem Pl.fam_one {T : ByteArray} (hT : Pl.OpT2 T) (h38 : Pl.opFam T 38 = 1) (n : Int) (h1 : 1 ≤ n) (h2 : n ≤ 38) : Pl.opFam T n = 1 := by
  have a := Pl.fam_bd hT n h1 (by omega)
  have b := Pl.fam_mono hT n 38 h1 h2 (by omega)
  omega
theorem Pl.fam_not {T : ByteArray} (hT : Pl.OpT2 T) (h39 : Pl.opFam T 39 = 2) (n : Int) (h : ¬ (1 ≤ n ∧ n ≤ 38)) : Pl.opFam T n ≠ 1 := by
  by_cases h1 : 1 ≤ n
  · by_cases h2 : n ≤ 162
    · have := Pl.fam_mono hT 39 n (by omega) (by omega) h2
      omega
    · unfold Pl.opFam
      rw [Pl.opAt_high T n (by rw [hT.1.2.2.1]; omega)]
      decide
  · unfold Pl.opFam
    rw [Pl.opAt_low T n (by omega)]
    decide
theorem fam_yes (n : Int) (h1 : 1 ≤ n) (h2 : n ≤ 38) (W : World) : Calls Tryz.prog 18 #[.int .i64 n] W fun e w' => e = .returned (.int .i64 1) ∧ Grown W w' := by
  obtain ⟨T, hT, h38, _, _⟩ := Pl.opT_is2
  have := family_any T hT.1 n W
  rw [Pl.fam_one hT h38 n h1 h2] at this
  exact this
theorem fam_no (n : Int) (h : ¬ (1 ≤ n ∧ n ≤ 38)) : ∃ k, (k == 1) = false ∧ ∀ W, Calls Tryz.prog 18 #[.int .i64 n] W fun e w' => e = .returned (.int .i64 k) ∧ Grown W w' := by
  obtain ⟨T, hT, _, h39, _⟩ := Pl.opT_is2
  exact ⟨_, beq_eq_false_iff_ne.2 (Pl.fam_not hT h39 n h), fun W => family_any T hT.1 n W⟩
theorem Stk.frP {W0 : World} {Pr P : Nat → Prop} {p : Nat} {L : List Pl.Ob} {W W' : World} (h : Stk W0 Pr p L W) (k : Fr P W W') (hP : ∀ c, P c → Pr c) (hb : ∀ c, P c → W0.heap.size ≤ c) : Stk W0 Pr p L W' := by
  obtain ⟨v, hS, h1, h2, h3, h4, h5⟩ := h
  exact ⟨v, hS.fr k (fun q => h3 (hP _ q)) (fun g q r => h4 g q (hP _ r)), h1, h2.fr k hb, h3, h4, fun c q => Nat.lt_of_lt_of_le (h5 c q) k.2.2.1⟩
def Pl.mm (n : Int) (o0 o1 : Pl.Ob) : Pl.Ob := if n = 36 then (if Pl.sz o0.1 o0.2.2.1 < Pl.sz o1.1 o1.2.2.1 then o1 else o0) else (if Pl.sz o1.1 o1.2.2.1 < Pl.sz o0.1 o0.2.2.1 then o1 else o0)
def Pl.mmR (L : List Pl.Ob) (n : Int) : Int × List Pl.Ob := match L.reverse with
  | o1 :: o0 :: _ => if Pl.fits 24 o1.1 = true ∧ Pl.fits 24 o0.1 = true then Pl.giveR L 2 [Pl.mm n o0 o1] else (6, L)
  | _ => (7, L)
theorem Pl.mmR_cases (L : List Pl.Ob) (n : Int) : (L.length < 2 ∧ Pl.mmR L n = (7, L)) ∨ ∃ o0 o1, L.reverse[0]? = some o1 ∧ L.reverse[1]? = some o0 ∧ 2 ≤ L.length ∧ Pl.mmR L n = if Pl.fits 24 o1.1 = true ∧ Pl.fits 24 o0.1 = true then Pl.giveR L 2 [Pl.mm n o0 o1] else (6, L) := by
  have hl := (List.length_reverse : L.reverse.length = L.length)
  unfold Pl.mmR
  match hL : L.reverse with
  | [] => rw [hL] at hl; simp at hl; exact .inl ⟨by omega, rfl⟩
  | [o] => rw [hL] at hl; simp at hl; exact .inl ⟨by omega, rfl⟩
  | o1 :: o0 :: r => rw [hL] at hl; simp at hl; exact .inr ⟨o0, o1, rfl, rfl, by omega, rfl⟩
def Pl.doR (L : List Pl.Ob) (n : Int) : Int × List Pl.Ob :=
  if ¬ (1 ≤ n ∧ n ≤ 38) then (1, L)
  else if n ≤ 10 then Pl.roundR L n
  else if n ≤ 16 ∨ n = 26 ∨ n = 27 ∨ n = 28 ∨ n = 29 ∨ n = 31 then Pl.twoR L n
  else if n ≤ 25 ∨ n = 30 then Pl.oneR L n
  else if n = 35 ∨ n = 36 then Pl.mmR L n
  else if n = 32 ∨ n = 33 then Pl.giveR L 0 [Pl.truth (n == 32)]
  else if n = 34 then Pl.giveR L 0 [Pl.nullO]
  else Pl.giveR L 0 [Pl.markO]
def AB2 (W0 : World) (Pr : Nat → Prop) (p : Nat) (L : List Pl.Ob) (W : World) (g : Nat) (o0 o1 : Pl.Ob) (pa pb : Nat) (Z : World) : Prop := Blk W pa (Pl.oc o0) Z ∧ Blk W pb (Pl.oc o1) Z ∧ Blk W g (Pl.oc o0 ++ Pl.oc o1) Z ∧ (pa ≠ pb ∧ pb ≠ pa ∧ g ≠ pa ∧ g ≠ pb) ∧ Grown W Z ∧ Stk W0 (fun c => Pr c ∨ c = pa ∨ c = pb) p L Z
section
variable {W0 : World} {Pr : Nat → Prop} {p : Nat} {L : List Pl.Ob} {W w : World} {g : Nat} (hG : Grown W w) (hS : Stk W0 Pr p L w) (o0 o1 : Pl.Ob) (hg : Blk W g (Pl.oc o0 ++ Pl.oc o1) w) (A B : Array Value) (hA : A.toList = Pl.oc o0) (hB : B.toList = Pl.oc o1)
include hG hS hg hA hB
theorem AB2.one : AB2 W0 Pr p L W g o0 o1 w.heap.size (w.heap.size + 1) ((w.alloc (.cells A 25)).alloc (.cells B 25)).drew := by
  have h1 := (Blk.new (W := W) (Z := w) A 25 hG.2.2).alloc B 25
  have h2 := Blk.new (W := W) (Z := w.alloc (.cells A 25)) B 25 (Nat.le_trans hG.2.2 (by simp))
  have hs := (hS.box (.cells A 25)).box (.cells B 25)
  rw [show (w.alloc (.cells A 25)).heap.size = w.heap.size + 1 by simp] at h2 hs
  rw [hA] at h1
  rw [hB] at h2
  have hlt := hg.2.1
  refine ⟨h1, h2, (hg.alloc _ _).alloc _ _, ⟨by omega, by omega, by omega, by omega⟩, (hG.alloc _ _).alloc _ _, hs.protect (Fr.refl _ _) (fun c q _ => ?_) (fun c q => ?_)⟩
  · rcases q with q | q | q
    · exact .inl (.inl q)
    · exact .inl (.inr q)
    · exact .inr q
  · obtain ⟨_, _, _, _, _, _, h5⟩ := hs
    rcases q with q | q | q
    · exact h5 c (.inl (.inl q))
    · exact h5 c (.inl (.inr q))
    · exact h5 c (.inr q)
theorem AB2.two : AB2 W0 Pr p L W g o0 o1 (w.heap.size + 1) w.heap.size ((w.alloc (.cells B 25)).alloc (.cells A 25)).drew := by
  have h1 := (Blk.new (W := W) (Z := w) B 25 hG.2.2).alloc A 25
  have h2 := Blk.new (W := W) (Z := w.alloc (.cells B 25)) A 25 (Nat.le_trans hG.2.2 (by simp))
  have hs := (hS.box (.cells B 25)).box (.cells A 25)
  rw [show (w.alloc (.cells B 25)).heap.size = w.heap.size + 1 by simp] at h2 hs
  rw [hB] at h1
  rw [hA] at h2
  have hlt := hg.2.1
  refine ⟨h2, h1, (hg.alloc _ _).alloc _ _, ⟨by omega, by omega, by omega, by omega⟩, (hG.alloc _ _).alloc _ _, hs.protect (Fr.refl _ _) (fun c q _ => ?_) (fun c q => ?_)⟩
  · rcases q with q | q | q
    · exact .inl (.inl q)
    · exact .inr q
    · exact .inl (.inr q)
  · obtain ⟨_, _, _, _, _, _, h5⟩ := hs
    rcases q with q | q | q
    · exact h5 c (.inl (.inl q))
    · exact h5 c (.inr q)
    · exact h5 c (.inl (.inr q))
end
theorem Stk.unprotect2 {W0 : World} {Pr : Nat → Prop} {g g2 p : Nat} {L : List Pl.Ob} {W : World} (h : Stk W0 (fun c => Pr c ∨ c = g ∨ c = g2) p L W) : Stk W0 Pr p L W := by
  obtain ⟨_, _, _, _, _, _, h5⟩ := id h
  exact h.protect (Fr.refl _ _) (fun c q _ => .inl q) (fun c q => h5 c (.inl q))
theorem Blk.other_six {W Z : World} {r q : Nat} {E : List Value} {a' b' c' d' e' f' : Value} (h : Blk W r E Z) (hp : r ≠ q) : Blk W r E ((((((Z.setCell ⟨q, 0, none⟩ a').setCell ⟨q, 1, none⟩ b').setCell ⟨q, 2, none⟩ c').setCell ⟨q, 3, none⟩ d').setCell ⟨q, 4, none⟩ e').setCell ⟨q, 5, none⟩ f') := (Blk.other (Blk.other (Blk.other (Blk.other (Blk.other (Blk.other h hp a') hp b') hp c') hp d') hp e') hp f')
theorem Fr.six {P : Nat → Prop} {Z : World} {q : Nat} {a' b' c' d' e' f' : Value} (h : P q) : Fr P Z ((((((Z.setCell ⟨q, 0, none⟩ a').setCell ⟨q, 1, none⟩ b').setCell ⟨q, 2, none⟩ c').setCell ⟨q, 3, none⟩ d').setCell ⟨q, 4, none⟩ e').setCell ⟨q, 5, none⟩ f') :=
  (((((Fr.setCell P Z ⟨q, 0, none⟩ a' h).trans (Fr.setCell P _ ⟨q, 1, none⟩ b' h)).trans (Fr.setCell P _ ⟨q, 2, none⟩ c' h)).trans (Fr.setCell P _ ⟨q, 3, none⟩ d' h)).trans (Fr.setCell P _ ⟨q, 4, none⟩ e' h)).trans (Fr.setCell P _ ⟨q, 5, none⟩ f' h)
section
variable (W0 : World) (Pr : Nat → Prop) (p : Nat) (L : List Pl.Ob) (W : World) (hlen : L.length ≤ 200) (h : Stk W0 Pr p L W)
include h hlen
omit hlen in
theorem do_no (n : Int) (hn : ¬ (1 ≤ n ∧ n ≤ 38)) :
    Calls Tryz.prog 9 #[.pointer (some ⟨p, 0, none⟩), .int .i64 n] W fun e w' => e = .returned (.int .i64 (((1, L) : Int × List Pl.Ob)).1) ∧ Stk W0 Pr p (((1, L) : Int × List Pl.Ob)).2 w' ∧ FrS W0 Pr W w' := by
  obtain ⟨k, hk, FM0⟩ := fam_no n hn
  have FM := Lib.hid FM0
  have HS := Lib.hid h
  clear h hn FM0
  go_enter Tryz.func9, Tryz.ntmps9
  go_wp2_with fail
  refine (FM.out _).mono ?_
  rintro e w1 ⟨rfl, g1⟩
  have G1 := Lib.hid g1
  have HS1 := Lib.hid (HS.out.grown g1)
  clear g1 FM HS
  go_wp2_with fail
  go_ret
  exact ⟨rfl, HS1.out, Fr.of_grown _ G1.out⟩
theorem do_round (hall : ∀ o ∈ L, Pl.mayO o) (n : Int) (hn : n = 1 ∨ n = 2 ∨ n = 3 ∨ n = 4 ∨ n = 5 ∨ n = 6 ∨ n = 7 ∨ n = 8 ∨ n = 9 ∨ n = 10) :
    Calls Tryz.prog 9 #[.pointer (some ⟨p, 0, none⟩), .int .i64 n] W fun e w' => e = .returned (.int .i64 (Pl.roundR L n).1) ∧ Stk W0 Pr p (Pl.roundR L n).2 w' ∧ FrS W0 Pr W w' := by
  have CX := Lib.hid (fun Z (hS : Stk W0 Pr p L Z) => round_any W0 Pr p L Z hlen hS hall n hn)
  have FM := Lib.hid (fun Z => fam_yes n (by omega) (by omega) Z)
  have HS := Lib.hid h
  clear h hlen hall
  rcases hn with rfl | rfl | rfl | rfl | rfl | rfl | rfl | rfl | rfl | rfl
  all_goals
    go_enter Tryz.func9, Tryz.ntmps9
    go_wp2_with fail
    refine (FM.out _).mono ?_
    rintro e w1 ⟨rfl, g1⟩
    have G1 := Lib.hid g1
    have HS1 := Lib.hid (HS.out.grown g1)
    clear g1 FM HS
    go_wp2_with fail
    refine (CX.out _ HS1.out).mono ?_
    rintro e w2 ⟨rfl, hs, hf⟩
    have H2 := Lib.hid (And.intro hs ((Fr.of_grown _ G1.out).trans hf))
    clear hs hf CX
    go_wp2_with fail
    go_ret
    exact ⟨rfl, H2.out⟩
theorem do_two (hall : ∀ o ∈ L, Pl.mayO o) (n : Int) (hn : n = 11 ∨ n = 12 ∨ n = 13 ∨ n = 14 ∨ n = 26 ∨ n = 15 ∨ n = 16 ∨ n = 31 ∨ n = 27 ∨ n = 28 ∨ n = 29) :
    Calls Tryz.prog 9 #[.pointer (some ⟨p, 0, none⟩), .int .i64 n] W fun e w' => e = .returned (.int .i64 (Pl.twoR L n).1) ∧ Stk W0 Pr p (Pl.twoR L n).2 w' ∧ FrS W0 Pr W w' := by
  have CX := Lib.hid (fun Z (hS : Stk W0 Pr p L Z) => two_any W0 Pr p L Z hlen hS hall n hn)
  have FM := Lib.hid (fun Z => fam_yes n (by omega) (by omega) Z)
  have HS := Lib.hid h
  clear h hlen hall
  rcases hn with rfl | rfl | rfl | rfl | rfl | rfl | rfl | rfl | rfl | rfl | rfl
  all_goals
    go_enter Tryz.func9, Tryz.ntmps9
    go_wp2_with fail
    refine (FM.out _).mono ?_
    rintro e w1 ⟨rfl, g1⟩
    have G1 := Lib.hid g1
    have HS1 := Lib.hid (HS.out.grown g1)
    clear g1 FM HS
    go_wp2_with fail
    refine (CX.out _ HS1.out).mono ?_
    rintro e w2 ⟨rfl, hs, hf⟩
    have H2 := Lib.hid (And.intro hs ((Fr.of_grown _ G1.out).trans hf))
    clear hs hf CX
    go_wp2_with fail
    go_ret
    exact ⟨rfl, H2.out⟩
theorem do_one (hall : ∀ o ∈ L, Pl.mayO o) (n : Int) (hn : n = 17 ∨ n = 18 ∨ n = 19 ∨ n = 20 ∨ n = 21 ∨ n = 22 ∨ n = 23 ∨ n = 24 ∨ n = 25 ∨ n = 30) :
    Calls Tryz.prog 9 #[.pointer (some ⟨p, 0, none⟩), .int .i64 n] W fun e w' => e = .returned (.int .i64 (Pl.oneR L n).1) ∧ Stk W0 Pr p (Pl.oneR L n).2 w' ∧ FrS W0 Pr W w' := by
  have CX := Lib.hid (fun Z (hS : Stk W0 Pr p L Z) => one_any W0 Pr p L Z hlen hS hall n hn)
  have FM := Lib.hid (fun Z => fam_yes n (by omega) (by omega) Z)
  have HS := Lib.hid h
  clear h hlen hall
  rcases hn with rfl | rfl | rfl | rfl | rfl | rfl | rfl | rfl | rfl | rfl
  all_goals
    go_enter Tryz.func9, Tryz.ntmps9
    go_wp2_with fail
    refine (FM.out _).mono ?_
    rintro e w1 ⟨rfl, g1⟩
    have G1 := Lib.hid g1
    have HS1 := Lib.hid (HS.out.grown g1)
    clear g1 FM HS
    go_wp2_with fail
    refine (CX.out _ HS1.out).mono ?_
    rintro e w2 ⟨rfl, hs, hf⟩
    have H2 := Lib.hid (And.intro hs ((Fr.of_grown _ G1.out).trans hf))
    clear hs hf CX
    go_wp2_with fail
    go_ret
    exact ⟨rfl, H2.out⟩
theorem do_32 :
    Calls Tryz.prog 9 #[.pointer (some ⟨p, 0, none⟩), .int .i64 32] W fun e w' => e = .returned (.int .i64 (Pl.giveR L 0 [Pl.truth true]).1) ∧ Stk W0 Pr p (Pl.giveR L 0 [Pl.truth true]).2 w' ∧ FrS W0 Pr W w' := by
  have TR := Lib.hid (fun Z => truth_obj true Z)
  unfold Pl.truth at TR
  have HG := Lib.hid (fun Z (hS : Stk W0 Pr p L Z) b (hb : b = Z.heap.size) => give_row0 W0 Pr p L Z hlen hS (Pl.truth true) #[.int .i64 2, .bool false, .int .i64 1, .int .i64 0, .int .i64 0, .string ⟨#[]⟩] rfl (Pl.truth_may _) b hb)
  have FM := Lib.hid (fun Z => fam_yes 32 (by omega) (by omega) Z)
  have HS := Lib.hid h
  clear h hlen
  go_enter Tryz.func9, Tryz.ntmps9
  go_wp2_with fail
  refine (FM.out _).mono ?_
  rintro e w1 ⟨rfl, g1⟩
  have G1 := Lib.hid g1
  have HS1 := Lib.hid (HS.out.grown g1)
  clear g1 FM HS
  go_wp2_with fail
  refine (TR.out _).mono ?_
  rintro e w2 ⟨rfl, g2⟩
  have G2 := Lib.hid (grown_trans G1.out g2)
  have HS2 := Lib.hid (HS1.out.grown g2)
  clear g2 TR G1 HS1
  go_wp2_with fail
  with_reducible refine (HG.out _ HS2.out _ (by simp)).mono ?_
  rintro e w3 ⟨rfl, hs, hf⟩
  have H2 := Lib.hid (And.intro hs ((Fr.of_grown _ G2.out).trans hf))
  clear hs hf HG
  go_wp2_with fail
  go_ret
  exact ⟨rfl, H2.out⟩
theorem do_33 :
    Calls Tryz.prog 9 #[.pointer (some ⟨p, 0, none⟩), .int .i64 33] W fun e w' => e = .returned (.int .i64 (Pl.giveR L 0 [Pl.truth false]).1) ∧ Stk W0 Pr p (Pl.giveR L 0 [Pl.truth false]).2 w' ∧ FrS W0 Pr W w' := by
  have TR := Lib.hid (fun Z => truth_obj false Z)
  unfold Pl.truth at TR
  have HG := Lib.hid (fun Z (hS : Stk W0 Pr p L Z) b (hb : b = Z.heap.size) => give_row0 W0 Pr p L Z hlen hS (Pl.truth false) #[.int .i64 2, .bool false, .int .i64 0, .int .i64 0, .int .i64 0, .string ⟨#[]⟩] rfl (Pl.truth_may _) b hb)
  have FM := Lib.hid (fun Z => fam_yes 33 (by omega) (by omega) Z)
  have HS := Lib.hid h
  clear h hlen
  go_enter Tryz.func9, Tryz.ntmps9
  go_wp2_with fail
  refine (FM.out _).mono ?_
  rintro e w1 ⟨rfl, g1⟩
  have G1 := Lib.hid g1
  have HS1 := Lib.hid (HS.out.grown g1)
  clear g1 FM HS
  go_wp2_with fail
  refine (TR.out _).mono ?_
  rintro e w2 ⟨rfl, g2⟩
  have G2 := Lib.hid (grown_trans G1.out g2)
  have HS2 := Lib.hid (HS1.out.grown g2)
  clear g2 TR G1 HS1
  go_wp2_with fail
  with_reducible refine (HG.out _ HS2.out _ (by simp)).mono ?_
  rintro e w3 ⟨rfl, hs, hf⟩
  have H2 := Lib.hid (And.intro hs ((Fr.of_grown _ G2.out).trans hf))
  clear hs hf HG
  go_wp2_with fail
  go_ret
  exact ⟨rfl, H2.out⟩
theorem do_34 :
    Calls Tryz.prog 9 #[.pointer (some ⟨p, 0, none⟩), .int .i64 34] W fun e w' => e = .returned (.int .i64 (Pl.giveR L 0 [Pl.nullO]).1) ∧ Stk W0 Pr p (Pl.giveR L 0 [Pl.nullO]).2 w' ∧ FrS W0 Pr W w' := by
  have HG := Lib.hid (fun Z (hS : Stk W0 Pr p L Z) b (hb : b = Z.heap.size) => give_row0 W0 Pr p L Z hlen hS Pl.nullO #[.int .i64 1, .bool false, .int .i64 0, .int .i64 0, .int .i64 0, .string ⟨#[]⟩] rfl Pl.may_null b hb)
  have FM := Lib.hid (fun Z => fam_yes 34 (by omega) (by omega) Z)
  have HS := Lib.hid h
  clear h hlen
  go_enter Tryz.func9, Tryz.ntmps9
  go_wp2_with fail
  refine (FM.out _).mono ?_
  rintro e w1 ⟨rfl, g1⟩
  have G1 := Lib.hid g1
  have HS1 := Lib.hid (HS.out.grown g1)
  clear g1 FM HS
  go_wp2_with fail
  with_reducible refine (HG.out _ HS1.out _ (by simp)).mono ?_
  rintro e w3 ⟨rfl, hs, hf⟩
  have H2 := Lib.hid (And.intro hs ((Fr.of_grown _ G1.out).trans hf))
  clear hs hf HG
  go_wp2_with fail
  go_ret
  exact ⟨rfl, H2.out⟩
theorem do_37 :
    Calls Tryz.prog 9 #[.pointer (some ⟨p, 0, none⟩), .int .i64 37] W fun e w' => e = .returned (.int .i64 (Pl.giveR L 0 [Pl.markO]).1) ∧ Stk W0 Pr p (Pl.giveR L 0 [Pl.markO]).2 w' ∧ FrS W0 Pr W w' := by
  have HG := Lib.hid (fun Z (hS : Stk W0 Pr p L Z) b (hb : b = Z.heap.size) => give_row0 W0 Pr p L Z hlen hS Pl.markO #[.int .i64 6, .bool false, .int .i64 0, .int .i64 0, .int .i64 0, .string ⟨#[]⟩] rfl Pl.may_mark b hb)
  have FM := Lib.hid (fun Z => fam_yes 37 (by omega) (by omega) Z)
  have HS := Lib.hid h
  clear h hlen
  go_enter Tryz.func9, Tryz.ntmps9
  go_wp2_with fail
  refine (FM.out _).mono ?_
  rintro e w1 ⟨rfl, g1⟩
  have G1 := Lib.hid g1
  have HS1 := Lib.hid (HS.out.grown g1)
  clear g1 FM HS
  go_wp2_with fail
  with_reducible refine (HG.out _ HS1.out _ (by simp)).mono ?_
  rintro e w3 ⟨rfl, hs, hf⟩
  have H2 := Lib.hid (And.intro hs ((Fr.of_grown _ G1.out).trans hf))
  clear hs hf HG
  go_wp2_with fail
  go_ret
  exact ⟨rfl, H2.out⟩
theorem do_38 :
    Calls Tryz.prog 9 #[.pointer (some ⟨p, 0, none⟩), .int .i64 38] W fun e w' => e = .returned (.int .i64 (Pl.giveR L 0 [Pl.markO]).1) ∧ Stk W0 Pr p (Pl.giveR L 0 [Pl.markO]).2 w' ∧ FrS W0 Pr W w' := by
  have HG := Lib.hid (fun Z (hS : Stk W0 Pr p L Z) b (hb : b = Z.heap.size) => give_row0 W0 Pr p L Z hlen hS Pl.markO #[.int .i64 6, .bool false, .int .i64 0, .int .i64 0, .int .i64 0, .string ⟨#[]⟩] rfl Pl.may_mark b hb)
  have FM := Lib.hid (fun Z => fam_yes 38 (by omega) (by omega) Z)
  have HS := Lib.hid h
  clear h hlen
  go_enter Tryz.func9, Tryz.ntmps9
  go_wp2_with fail
  refine (FM.out _).mono ?_
  rintro e w1 ⟨rfl, g1⟩
  have G1 := Lib.hid g1
  have HS1 := Lib.hid (HS.out.grown g1)
  clear g1 FM HS
  go_wp2_with fail
  with_reducible refine (HG.out _ HS1.out _ (by simp)).mono ?_
  rintro e w3 ⟨rfl, hs, hf⟩
  have H2 := Lib.hid (And.intro hs ((Fr.of_grown _ G1.out).trans hf))
  clear hs hf HG
  go_wp2_with fail
  go_ret
  exact ⟨rfl, H2.out⟩
omit hlen in
theorem do_35_under (hL : L.length < 2) :
    Calls Tryz.prog 9 #[.pointer (some ⟨p, 0, none⟩), .int .i64 35] W fun e w' => e = .returned (.int .i64 (((7, L) : Int × List Pl.Ob)).1) ∧ Stk W0 Pr p (((7, L) : Int × List Pl.Ob)).2 w' ∧ FrS W0 Pr W w' := by
  have FM := Lib.hid (fun Z => fam_yes 35 (by omega) (by omega) Z)
  have TK := Lib.hid (fun (Z : World) (hS : Stk W0 Pr p L Z) b => take2_under W0 Pr p L Z hS hL b 2)
  have HS := Lib.hid h
  clear h hL
  go_enter Tryz.func9, Tryz.ntmps9
  go_wp2_with fail
  refine (FM.out _).mono ?_
  rintro e w1 ⟨rfl, g1⟩
  have G1 := Lib.hid g1
  have HS1 := Lib.hid (HS.out.grown g1)
  clear g1 FM HS
  go_wp2_with fail
  refine (TK.out _ (HS1.out.grown ((Grown.refl _).alloc #[.int .i64 24, .int .i64 24] 3)) _).mono ?_
  rintro e w2 ⟨rfl, rfl⟩
  clear TK
  go_wp2_with fail
  go_ret
  exact ⟨rfl, HS1.out.grown ((Grown.refl _).alloc _ _), Fr.of_grown _ (G1.out.alloc _ _)⟩
theorem do_35_bad1 (o0 o1 : Pl.Ob) (ho1 : L.reverse[0]? = some o1) (ho0 : L.reverse[1]? = some o0) (hm0 : Pl.mayO o0) (hm1 : Pl.mayO o1) (hf : Pl.fits 24 o1.1 = false) :
    Calls Tryz.prog 9 #[.pointer (some ⟨p, 0, none⟩), .int .i64 35] W fun e w' => e = .returned (.int .i64 (((6, L) : Int × List Pl.Ob)).1) ∧ Stk W0 Pr p (((6, L) : Int × List Pl.Ob)).2 w' ∧ FrS W0 Pr W w' := by
  have FM := Lib.hid (fun Z => fam_yes 35 (by omega) (by omega) Z)
  have TK := Lib.hid (fun (Z : World) (hS : Stk W0 Pr p L (Z.alloc (.cells #[.int .i64 24, .int .i64 24] 3))) => take2_bad1 W0 Pr p L _ hlen hS o0 o1 ho1 ho0 (Pl.mayO_kind hm0) (Pl.mayO_kind hm1) Z.heap.size 2 (Nat.le_refl _) 24 24 (by simp [go_sem]) (by simp [go_sem]) hf)
  have HS := Lib.hid h
  clear h hlen ho0 ho1 hm0 hm1 hf
  go_enter Tryz.func9, Tryz.ntmps9
  go_wp2_with fail
  refine (FM.out _).mono ?_
  rintro e w1 ⟨rfl, g1⟩
  have G1 := Lib.hid g1
  have HS1 := Lib.hid (HS.out.grown g1)
  clear g1 FM HS
  go_wp2_with fail
  refine (TK.out _ (HS1.out.grown ((Grown.refl _).alloc #[.int .i64 24, .int .i64 24] 3))).mono ?_
  rintro e w2 ⟨g2, rfl⟩
  have G2 := Lib.hid (grown_trans (G1.out.alloc #[.int .i64 24, .int .i64 24] 3) g2)
  have HS2 := Lib.hid ((HS1.out.grown ((Grown.refl _).alloc #[.int .i64 24, .int .i64 24] 3)).grown g2)
  clear TK g2
  go_wp2_with fail
  go_ret
  exact ⟨rfl, HS2.out, Fr.of_grown _ G2.out⟩
theorem do_35_bad0 (o0 o1 : Pl.Ob) (ho1 : L.reverse[0]? = some o1) (ho0 : L.reverse[1]? = some o0) (hm0 : Pl.mayO o0) (hm1 : Pl.mayO o1) (hf : Pl.fits 24 o1.1 = true) (hf0 : Pl.fits 24 o0.1 = false) :
    Calls Tryz.prog 9 #[.pointer (some ⟨p, 0, none⟩), .int .i64 35] W fun e w' => e = .returned (.int .i64 (((6, L) : Int × List Pl.Ob)).1) ∧ Stk W0 Pr p (((6, L) : Int × List Pl.Ob)).2 w' ∧ FrS W0 Pr W w' := by
  have FM := Lib.hid (fun Z => fam_yes 35 (by omega) (by omega) Z)
  have TK := Lib.hid (fun (Z : World) (hS : Stk W0 Pr p L (Z.alloc (.cells #[.int .i64 24, .int .i64 24] 3))) => take2_bad0 W0 Pr p L _ hlen hS o0 o1 ho1 ho0 (Pl.mayO_kind hm0) (Pl.mayO_kind hm1) Z.heap.size 2 (Nat.le_refl _) 24 24 (by simp [go_sem]) (by simp [go_sem]) hf hf0)
  have HS := Lib.hid h
  clear h hlen ho0 ho1 hm0 hm1 hf hf0
  go_enter Tryz.func9, Tryz.ntmps9
  go_wp2_with fail
  refine (FM.out _).mono ?_
  rintro e w1 ⟨rfl, g1⟩
  have G1 := Lib.hid g1
  have HS1 := Lib.hid (HS.out.grown g1)
  clear g1 FM HS
  go_wp2_with fail
  refine (TK.out _ (HS1.out.grown ((Grown.refl _).alloc #[.int .i64 24, .int .i64 24] 3))).mono ?_
  rintro e w2 ⟨g2, rfl⟩
  have G2 := Lib.hid (grown_trans (G1.out.alloc #[.int .i64 24, .int .i64 24] 3) g2)
  have HS2 := Lib.hid ((HS1.out.grown ((Grown.refl _).alloc #[.int .i64 24, .int .i64 24] 3)).grown g2)
  clear TK g2
  go_wp2_with fail
  go_ret
  exact ⟨rfl, HS2.out, Fr.of_grown _ G2.out⟩
theorem do_35_true (k0 k1 a b : Int) (q0 : k0 = 3 ∨ k0 = 4) (q1 : k1 = 3 ∨ k1 = 4) (x y : Bool) (ho1 : L.reverse[0]? = some (k1, y, b, 0, 0, ⟨#[]⟩)) (ho0 : L.reverse[1]? = some (k0, x, a, 0, 0, ⟨#[]⟩)) (h2 : 2 ≤ L.length) (hm0 : Pl.mayO (k0, x, a, 0, 0, ⟨#[]⟩)) (hm1 : Pl.mayO (k1, y, b, 0, 0, ⟨#[]⟩)) (hl : (Pl.sz k1 b < Pl.sz k0 a)) :
    Calls Tryz.prog 9 #[.pointer (some ⟨p, 0, none⟩), .int .i64 35] W fun e w' => e = .returned (.int .i64 (Pl.giveR L 2 [(k1, y, b, 0, 0, ⟨#[]⟩)]).1) ∧ Stk W0 Pr p (Pl.giveR L 2 [(k1, y, b, 0, 0, ⟨#[]⟩)]).2 w' ∧ FrS W0 Pr W w' := by
  have hi0 : Pl.isn k0 a := by
    have e := (Pl.mayO_num hm0 q0).choose_spec.2
    rcases q0 with rfl | rfl
    · exact .inl ⟨rfl, e.1 rfl⟩
    · exact .inr ⟨rfl, e.2 rfl⟩
  have hi1 : Pl.isn k1 b := by
    have e := (Pl.mayO_num hm1 q1).choose_spec.2
    rcases q1 with rfl | rfl
    · exact .inl ⟨rfl, e.1 rfl⟩
    · exact .inr ⟨rfl, e.2 rfl⟩
  have LS := Lib.hid (fun Z => less_num k1 y b hi1 k0 x a hi0 Z)
  rw [decide_eq_true hl] at LS
  have FM := Lib.hid (fun Z => fam_yes 35 (by omega) (by omega) Z)
  have TK := Lib.hid (fun (Z : World) (hS : Stk W0 Pr p L (Z.alloc (.cells #[.int .i64 24, .int .i64 24] 3))) => take2_ok W0 Pr p L _ hlen hS (k0, x, a, 0, 0, ⟨#[]⟩) (k1, y, b, 0, 0, ⟨#[]⟩) ho1 ho0 (Pl.mayO_kind hm0) (Pl.mayO_kind hm1) Z.heap.size 2 (Nat.le_refl _) 24 24 (by simp [go_sem]) (by simp [go_sem]) (show Pl.fits 24 k1 = true by rcases q1 with rfl | rfl <;> decide) (show Pl.fits 24 k0 = true by rcases q0 with rfl | rfl <;> decide))
  have HG := Lib.hid (fun Z (Pr2 : Nat → Prop) (hS : Stk W0 Pr2 p L Z) bq (hb : bq = Z.heap.size) => give_row2 W0 Pr2 p L Z hlen hS (k1, y, b, 0, 0, ⟨#[]⟩) #[.int .i64 k1, .bool y, .int .i64 b, .int .i64 0, .int .i64 0, .string ⟨#[]⟩] rfl h2 hm1 bq hb)
  have HS := Lib.hid h
  have hW0 : W0.heap.size ≤ W.heap.size := by obtain ⟨_, _, _, hk, _⟩ := h; exact hk.2.2
  have HW0 := Lib.hid hW0
  clear h hlen ho0 ho1 h2 hl hi0 hi1 hm0 hm1 hW0 q0 q1
  go_enter Tryz.func9, Tryz.ntmps9
  go_wp2_with fail
  refine (FM.out _).mono ?_
  rintro e w1 ⟨rfl, g1⟩
  have G1 := Lib.hid g1
  have HS1 := Lib.hid (HS.out.grown g1)
  clear g1 FM HS
  go_wp2_with fail
  refine (TK.out _ (HS1.out.grown ((Grown.refl _).alloc #[.int .i64 24, .int .i64 24] 3))).mono ?_
  rintro e w2 ⟨g2, g, B2, rfl⟩
  have G2 := Lib.hid (grown_trans (G1.out.alloc #[.int .i64 24, .int .i64 24] 3) g2)
  have HS2 := Lib.hid ((HS1.out.grown ((Grown.refl _).alloc #[.int .i64 24, .int .i64 24] 3)).grown g2)
  have B2' : Hid (Blk W g (Pl.oc (k0, x, a, 0, 0, ⟨#[]⟩) ++ Pl.oc (k1, y, b, 0, 0, ⟨#[]⟩)) w2) := Lib.hid ⟨Nat.le_trans (G1.out.alloc #[.int .i64 24, .int .i64 24] 3).2.2 B2.1, B2.2⟩
  obtain ⟨c0, c1, c2, c3, c4, c5, d0, d1, d2, d3, d4, d5⟩ := B2.at12
  clear TK g2 HS1 G1 B2
  have X1 := Lib.hid (AB2.one G2.out HS2.out (k0, x, a, 0, 0, ⟨#[]⟩) (k1, y, b, 0, 0, ⟨#[]⟩) B2'.out #[.int .i64 k0, .bool x, .int .i64 a, .int .i64 0, .int .i64 0, .string ⟨#[]⟩] #[.int .i64 k1, .bool y, .int .i64 b, .int .i64 0, .int .i64 0, .string ⟨#[]⟩] rfl rfl)
  have X2 := Lib.hid (AB2.two G2.out HS2.out (k0, x, a, 0, 0, ⟨#[]⟩) (k1, y, b, 0, 0, ⟨#[]⟩) B2'.out #[.int .i64 k0, .bool x, .int .i64 a, .int .i64 0, .int .i64 0, .string ⟨#[]⟩] #[.int .i64 k1, .bool y, .int .i64 b, .int .i64 0, .int .i64 0, .string ⟨#[]⟩] rfl rfl)
  clear G2 HS2 B2'
  go_upto_region 17 with fail
  go_cut [7, 8] (fun sa sb wx => ∃ pa pb, sa = .pointer (some ⟨pa, 0, none⟩) ∧ sb = .pointer (some ⟨pb, 0, none⟩) ∧ Hid (AB2 W0 Pr p L W g (k0, x, a, 0, 0, ⟨#[]⟩) (k1, y, b, 0, 0, ⟨#[]⟩) pa pb wx))
  case first =>
    have hne := World.new_ne w2 _ c0
    go_region_held3 (fun Z => Z.cell? ⟨g, 0, none⟩ = some (.int .i64 k0) ∧ Z.cell? ⟨g, 1, none⟩ = some (.bool x) ∧ Z.cell? ⟨g, 2, none⟩ = some (.int .i64 a) ∧ Z.cell? ⟨g, 3, none⟩ = some (.int .i64 0) ∧ Z.cell? ⟨g, 4, none⟩ = some (.int .i64 0) ∧ Z.cell? ⟨g, 5, none⟩ = some (.string ⟨#[]⟩) ∧ Z.cell? ⟨g, 6, none⟩ = some (.int .i64 k1) ∧ Z.cell? ⟨g, 7, none⟩ = some (.bool y) ∧ Z.cell? ⟨g, 8, none⟩ = some (.int .i64 b) ∧ Z.cell? ⟨g, 9, none⟩ = some (.int .i64 0) ∧ Z.cell? ⟨g, 10, none⟩ = some (.int .i64 0) ∧ Z.cell? ⟨g, 11, none⟩ = some (.string ⟨#[]⟩)) (go_keep) (fail)
    all_goals
      go_wp2_with fail
      go_meet
      case rel => first | exact ⟨_, _, rfl, rfl, X1⟩ | exact ⟨_, _, rfl, rfl, X2⟩
  case rest =>
    obtain ⟨pa, pb, rfl, rfl, HAB⟩ := hcut
    clear c0 c1 c2 c3 c4 c5 d0 d1 d2 d3 d4 d5 X1 X2
    obtain ⟨a0, a1, a2, a3, a4, a5⟩ := HAB.out.1.at6
    obtain ⟨b0, b1, b2, b3, b4, b5⟩ := HAB.out.2.1.at6
    obtain ⟨c0, c1, c2, c3, c4, c5, d0, d1, d2, d3, d4, d5⟩ := HAB.out.2.2.1.at12
    have fa := HAB.out.1.2.2.2
    have fb := HAB.out.2.1.2.2.2
    obtain ⟨n1, n2, n3, n4⟩ := HAB.out.2.2.2.1
    have a0q := fun (A : Array Value) (t : TypeId) => grown_cell ((Grown.refl wc).alloc A t) a0
    have a1q := fun (A : Array Value) (t : TypeId) => grown_cell ((Grown.refl wc).alloc A t) a1
    have a2q := fun (A : Array Value) (t : TypeId) => grown_cell ((Grown.refl wc).alloc A t) a2
    have a3q := fun (A : Array Value) (t : TypeId) => grown_cell ((Grown.refl wc).alloc A t) a3
    have a4q := fun (A : Array Value) (t : TypeId) => grown_cell ((Grown.refl wc).alloc A t) a4
    have a5q := fun (A : Array Value) (t : TypeId) => grown_cell ((Grown.refl wc).alloc A t) a5
    have b0q := fun (A : Array Value) (t : TypeId) => grown_cell ((Grown.refl wc).alloc A t) b0
    have b1q := fun (A : Array Value) (t : TypeId) => grown_cell ((Grown.refl wc).alloc A t) b1
    have b2q := fun (A : Array Value) (t : TypeId) => grown_cell ((Grown.refl wc).alloc A t) b2
    have b3q := fun (A : Array Value) (t : TypeId) => grown_cell ((Grown.refl wc).alloc A t) b3
    have b4q := fun (A : Array Value) (t : TypeId) => grown_cell ((Grown.refl wc).alloc A t) b4
    have b5q := fun (A : Array Value) (t : TypeId) => grown_cell ((Grown.refl wc).alloc A t) b5
    have c0q := fun (A : Array Value) (t : TypeId) => grown_cell ((Grown.refl wc).alloc A t) c0
    have c1q := fun (A : Array Value) (t : TypeId) => grown_cell ((Grown.refl wc).alloc A t) c1
    have c2q := fun (A : Array Value) (t : TypeId) => grown_cell ((Grown.refl wc).alloc A t) c2
    have c3q := fun (A : Array Value) (t : TypeId) => grown_cell ((Grown.refl wc).alloc A t) c3
    have c4q := fun (A : Array Value) (t : TypeId) => grown_cell ((Grown.refl wc).alloc A t) c4
    have c5q := fun (A : Array Value) (t : TypeId) => grown_cell ((Grown.refl wc).alloc A t) c5
    have d0q := fun (A : Array Value) (t : TypeId) => grown_cell ((Grown.refl wc).alloc A t) d0
    have d1q := fun (A : Array Value) (t : TypeId) => grown_cell ((Grown.refl wc).alloc A t) d1
    have d2q := fun (A : Array Value) (t : TypeId) => grown_cell ((Grown.refl wc).alloc A t) d2
    have d3q := fun (A : Array Value) (t : TypeId) => grown_cell ((Grown.refl wc).alloc A t) d3
    have d4q := fun (A : Array Value) (t : TypeId) => grown_cell ((Grown.refl wc).alloc A t) d4
    have d5q := fun (A : Array Value) (t : TypeId) => grown_cell ((Grown.refl wc).alloc A t) d5
    have HS9 := Lib.hid HAB.out.2.2.2.2.2
    have G9 := Lib.hid HAB.out.2.2.2.2.1
    have BG := Lib.hid HAB.out.2.2.1
    go_wp2_with fail
    refine (LS.out _).mono ?_
    rintro e w5 ⟨rfl, g5⟩
    have G5 := Lib.hid (grown_trans (G9.out.alloc #[.int .i64 k0, .bool x, .int .i64 a, .int .i64 0, .int .i64 0, .string ⟨#[]⟩] 25) g5)
    have HS5 := Lib.hid ((HS9.out.box (.cells #[.int .i64 k0, .bool x, .int .i64 a, .int .i64 0, .int .i64 0, .string ⟨#[]⟩] 25)).grown g5)
    have BG5 := Lib.hid ((BG.out.alloc #[.int .i64 k0, .bool x, .int .i64 a, .int .i64 0, .int .i64 0, .string ⟨#[]⟩] 25).grow g5)
    have BO := Lib.hid ((Blk.new (W := W) (Z := wc) #[.int .i64 k0, .bool x, .int .i64 a, .int .i64 0, .int .i64 0, .string ⟨#[]⟩] 25 G9.out.2.2).grow g5)
    clear a0 a1 a2 a3 a4 a5 b0 b1 b2 b3 b4 b5 c0 c1 c2 c3 c4 c5 d0 d1 d2 d3 d4 d5
    clear a0q a1q a2q a3q a4q a5q b0q b1q b2q b3q b4q b5q c0q c1q c2q c3q c4q c5q d0q d1q d2q d3q d4q d5q
    clear g5 LS HAB HS9 G9 BG n1 n2 n3 n4 fa fb
    obtain ⟨o, ho⟩ : ∃ o, o = wc.heap.size := ⟨_, rfl⟩
    rw [← ho] at BO HS5 ⊢
    clear ho
    obtain ⟨e0, e1, e2, e3, e4, e5⟩ := BO.out.at6
    obtain ⟨c0, c1, c2, c3, c4, c5, d0, d1, d2, d3, d4, d5⟩ := BG5.out.at12
    have fo := BO.out.2.2.2
    go_upto_region 24 with fail
    generalize hZ : World.setCell _ _ _ = Z6
    have BO6 : Blk W o (Pl.oc (k1, y, b, 0, 0, ⟨#[]⟩)) Z6 := by rw [← hZ]; exact BO.out.six
    have G6 : Grown W Z6 := by rw [← hZ]; exact grown_six (o := 0) G5.out BO.out.1
    have S6 : Hid (Stk W0 Pr p L Z6) := Lib.hid (by
      rw [← hZ]
      exact (HS5.out.frP (P := fun c => c = o) (Fr.six rfl) (fun c q => .inr q) (fun c q => Nat.le_trans HW0.out (q ▸ BO.out.1))).unprotect.unprotect2)
    clear hZ
    obtain ⟨e0, e1, e2, e3, e4, e5⟩ := BO6.at6
    have G6' := Lib.hid G6
    clear G6 BO6
    go_wp2_with fail
    with_reducible refine (HG.out _ _ S6.out _ (by first | rfl | simp)).mono ?_
    rintro e w7 ⟨rfl, hs, hf⟩
    have H7 := Lib.hid (And.intro hs ((Fr.of_grown _ G6'.out).trans hf))
    clear hs hf HG
    go_wp2_with fail
    go_ret
    exact ⟨rfl, H7.out⟩
theorem do_35_false (k0 k1 a b : Int) (q0 : k0 = 3 ∨ k0 = 4) (q1 : k1 = 3 ∨ k1 = 4) (x y : Bool) (ho1 : L.reverse[0]? = some (k1, y, b, 0, 0, ⟨#[]⟩)) (ho0 : L.reverse[1]? = some (k0, x, a, 0, 0, ⟨#[]⟩)) (h2 : 2 ≤ L.length) (hm0 : Pl.mayO (k0, x, a, 0, 0, ⟨#[]⟩)) (hm1 : Pl.mayO (k1, y, b, 0, 0, ⟨#[]⟩)) (hl : ¬ (Pl.sz k1 b < Pl.sz k0 a)) :
    Calls Tryz.prog 9 #[.pointer (some ⟨p, 0, none⟩), .int .i64 35] W fun e w' => e = .returned (.int .i64 (Pl.giveR L 2 [(k0, x, a, 0, 0, ⟨#[]⟩)]).1) ∧ Stk W0 Pr p (Pl.giveR L 2 [(k0, x, a, 0, 0, ⟨#[]⟩)]).2 w' ∧ FrS W0 Pr W w' := by
  have hi0 : Pl.isn k0 a := by
    have e := (Pl.mayO_num hm0 q0).choose_spec.2
    rcases q0 with rfl | rfl
    · exact .inl ⟨rfl, e.1 rfl⟩
    · exact .inr ⟨rfl, e.2 rfl⟩
  have hi1 : Pl.isn k1 b := by
    have e := (Pl.mayO_num hm1 q1).choose_spec.2
    rcases q1 with rfl | rfl
    · exact .inl ⟨rfl, e.1 rfl⟩
    · exact .inr ⟨rfl, e.2 rfl⟩
  have LS := Lib.hid (fun Z => less_num k1 y b hi1 k0 x a hi0 Z)
  rw [decide_eq_false hl] at LS
  have FM := Lib.hid (fun Z => fam_yes 35 (by omega) (by omega) Z)
  have TK := Lib.hid (fun (Z : World) (hS : Stk W0 Pr p L (Z.alloc (.cells #[.int .i64 24, .int .i64 24] 3))) => take2_ok W0 Pr p L _ hlen hS (k0, x, a, 0, 0, ⟨#[]⟩) (k1, y, b, 0, 0, ⟨#[]⟩) ho1 ho0 (Pl.mayO_kind hm0) (Pl.mayO_kind hm1) Z.heap.size 2 (Nat.le_refl _) 24 24 (by simp [go_sem]) (by simp [go_sem]) (show Pl.fits 24 k1 = true by rcases q1 with rfl | rfl <;> decide) (show Pl.fits 24 k0 = true by rcases q0 with rfl | rfl <;> decide))
  have HG := Lib.hid (fun Z (Pr2 : Nat → Prop) (hS : Stk W0 Pr2 p L Z) bq (hb : bq = Z.heap.size) => give_row2 W0 Pr2 p L Z hlen hS (k0, x, a, 0, 0, ⟨#[]⟩) #[.int .i64 k0, .bool x, .int .i64 a, .int .i64 0, .int .i64 0, .string ⟨#[]⟩] rfl h2 hm0 bq hb)
  have HS := Lib.hid h
  have hW0 : W0.heap.size ≤ W.heap.size := by obtain ⟨_, _, _, hk, _⟩ := h; exact hk.2.2
  have HW0 := Lib.hid hW0
  clear h hlen ho0 ho1 h2 hl hi0 hi1 hm0 hm1 hW0 q0 q1
  go_enter Tryz.func9, Tryz.ntmps9
  go_wp2_with fail
  refine (FM.out _).mono ?_
  rintro e w1 ⟨rfl, g1⟩
  have G1 := Lib.hid g1
  have HS1 := Lib.hid (HS.out.grown g1)
  clear g1 FM HS
  go_wp2_with fail
  refine (TK.out _ (HS1.out.grown ((Grown.refl _).alloc #[.int .i64 24, .int .i64 24] 3))).mono ?_
  rintro e w2 ⟨g2, g, B2, rfl⟩
  have G2 := Lib.hid (grown_trans (G1.out.alloc #[.int .i64 24, .int .i64 24] 3) g2)
  have HS2 := Lib.hid ((HS1.out.grown ((Grown.refl _).alloc #[.int .i64 24, .int .i64 24] 3)).grown g2)
  have B2' : Hid (Blk W g (Pl.oc (k0, x, a, 0, 0, ⟨#[]⟩) ++ Pl.oc (k1, y, b, 0, 0, ⟨#[]⟩)) w2) := Lib.hid ⟨Nat.le_trans (G1.out.alloc #[.int .i64 24, .int .i64 24] 3).2.2 B2.1, B2.2⟩
  obtain ⟨c0, c1, c2, c3, c4, c5, d0, d1, d2, d3, d4, d5⟩ := B2.at12
  clear TK g2 HS1 G1 B2
  have X1 := Lib.hid (AB2.one G2.out HS2.out (k0, x, a, 0, 0, ⟨#[]⟩) (k1, y, b, 0, 0, ⟨#[]⟩) B2'.out #[.int .i64 k0, .bool x, .int .i64 a, .int .i64 0, .int .i64 0, .string ⟨#[]⟩] #[.int .i64 k1, .bool y, .int .i64 b, .int .i64 0, .int .i64 0, .string ⟨#[]⟩] rfl rfl)
  have X2 := Lib.hid (AB2.two G2.out HS2.out (k0, x, a, 0, 0, ⟨#[]⟩) (k1, y, b, 0, 0, ⟨#[]⟩) B2'.out #[.int .i64 k0, .bool x, .int .i64 a, .int .i64 0, .int .i64 0, .string ⟨#[]⟩] #[.int .i64 k1, .bool y, .int .i64 b, .int .i64 0, .int .i64 0, .string ⟨#[]⟩] rfl rfl)
  clear G2 HS2 B2'
  go_upto_region 17 with fail
  go_cut [7, 8] (fun sa sb wx => ∃ pa pb, sa = .pointer (some ⟨pa, 0, none⟩) ∧ sb = .pointer (some ⟨pb, 0, none⟩) ∧ Hid (AB2 W0 Pr p L W g (k0, x, a, 0, 0, ⟨#[]⟩) (k1, y, b, 0, 0, ⟨#[]⟩) pa pb wx))
  case first =>
    have hne := World.new_ne w2 _ c0
    go_region_held3 (fun Z => Z.cell? ⟨g, 0, none⟩ = some (.int .i64 k0) ∧ Z.cell? ⟨g, 1, none⟩ = some (.bool x) ∧ Z.cell? ⟨g, 2, none⟩ = some (.int .i64 a) ∧ Z.cell? ⟨g, 3, none⟩ = some (.int .i64 0) ∧ Z.cell? ⟨g, 4, none⟩ = some (.int .i64 0) ∧ Z.cell? ⟨g, 5, none⟩ = some (.string ⟨#[]⟩) ∧ Z.cell? ⟨g, 6, none⟩ = some (.int .i64 k1) ∧ Z.cell? ⟨g, 7, none⟩ = some (.bool y) ∧ Z.cell? ⟨g, 8, none⟩ = some (.int .i64 b) ∧ Z.cell? ⟨g, 9, none⟩ = some (.int .i64 0) ∧ Z.cell? ⟨g, 10, none⟩ = some (.int .i64 0) ∧ Z.cell? ⟨g, 11, none⟩ = some (.string ⟨#[]⟩)) (go_keep) (fail)
    all_goals
      go_wp2_with fail
      go_meet
      case rel => first | exact ⟨_, _, rfl, rfl, X1⟩ | exact ⟨_, _, rfl, rfl, X2⟩
  case rest =>
    obtain ⟨pa, pb, rfl, rfl, HAB⟩ := hcut
    clear c0 c1 c2 c3 c4 c5 d0 d1 d2 d3 d4 d5 X1 X2
    obtain ⟨a0, a1, a2, a3, a4, a5⟩ := HAB.out.1.at6
    obtain ⟨b0, b1, b2, b3, b4, b5⟩ := HAB.out.2.1.at6
    obtain ⟨c0, c1, c2, c3, c4, c5, d0, d1, d2, d3, d4, d5⟩ := HAB.out.2.2.1.at12
    have fa := HAB.out.1.2.2.2
    have fb := HAB.out.2.1.2.2.2
    obtain ⟨n1, n2, n3, n4⟩ := HAB.out.2.2.2.1
    have a0q := fun (A : Array Value) (t : TypeId) => grown_cell ((Grown.refl wc).alloc A t) a0
    have a1q := fun (A : Array Value) (t : TypeId) => grown_cell ((Grown.refl wc).alloc A t) a1
    have a2q := fun (A : Array Value) (t : TypeId) => grown_cell ((Grown.refl wc).alloc A t) a2
    have a3q := fun (A : Array Value) (t : TypeId) => grown_cell ((Grown.refl wc).alloc A t) a3
    have a4q := fun (A : Array Value) (t : TypeId) => grown_cell ((Grown.refl wc).alloc A t) a4
    have a5q := fun (A : Array Value) (t : TypeId) => grown_cell ((Grown.refl wc).alloc A t) a5
    have b0q := fun (A : Array Value) (t : TypeId) => grown_cell ((Grown.refl wc).alloc A t) b0
    have b1q := fun (A : Array Value) (t : TypeId) => grown_cell ((Grown.refl wc).alloc A t) b1
    have b2q := fun (A : Array Value) (t : TypeId) => grown_cell ((Grown.refl wc).alloc A t) b2
    have b3q := fun (A : Array Value) (t : TypeId) => grown_cell ((Grown.refl wc).alloc A t) b3
    have b4q := fun (A : Array Value) (t : TypeId) => grown_cell ((Grown.refl wc).alloc A t) b4
    have b5q := fun (A : Array Value) (t : TypeId) => grown_cell ((Grown.refl wc).alloc A t) b5
    have c0q := fun (A : Array Value) (t : TypeId) => grown_cell ((Grown.refl wc).alloc A t) c0
    have c1q := fun (A : Array Value) (t : TypeId) => grown_cell ((Grown.refl wc).alloc A t) c1
    have c2q := fun (A : Array Value) (t : TypeId) => grown_cell ((Grown.refl wc).alloc A t) c2
    have c3q := fun (A : Array Value) (t : TypeId) => grown_cell ((Grown.refl wc).alloc A t) c3
    have c4q := fun (A : Array Value) (t : TypeId) => grown_cell ((Grown.refl wc).alloc A t) c4
    have c5q := fun (A : Array Value) (t : TypeId) => grown_cell ((Grown.refl wc).alloc A t) c5
    have d0q := fun (A : Array Value) (t : TypeId) => grown_cell ((Grown.refl wc).alloc A t) d0
    have d1q := fun (A : Array Value) (t : TypeId) => grown_cell ((Grown.refl wc).alloc A t) d1
    have d2q := fun (A : Array Value) (t : TypeId) => grown_cell ((Grown.refl wc).alloc A t) d2
    have d3q := fun (A : Array Value) (t : TypeId) => grown_cell ((Grown.refl wc).alloc A t) d3
    have d4q := fun (A : Array Value) (t : TypeId) => grown_cell ((Grown.refl wc).alloc A t) d4
    have d5q := fun (A : Array Value) (t : TypeId) => grown_cell ((Grown.refl wc).alloc A t) d5
    have HS9 := Lib.hid HAB.out.2.2.2.2.2
    have G9 := Lib.hid HAB.out.2.2.2.2.1
    have BG := Lib.hid HAB.out.2.2.1
    go_wp2_with fail
    refine (LS.out _).mono ?_
    rintro e w5 ⟨rfl, g5⟩
    have G5 := Lib.hid (grown_trans (G9.out.alloc #[.int .i64 k0, .bool x, .int .i64 a, .int .i64 0, .int .i64 0, .string ⟨#[]⟩] 25) g5)
    have HS5 := Lib.hid ((HS9.out.box (.cells #[.int .i64 k0, .bool x, .int .i64 a, .int .i64 0, .int .i64 0, .string ⟨#[]⟩] 25)).grown g5)
    have BG5 := Lib.hid ((BG.out.alloc #[.int .i64 k0, .bool x, .int .i64 a, .int .i64 0, .int .i64 0, .string ⟨#[]⟩] 25).grow g5)
    have BO := Lib.hid ((Blk.new (W := W) (Z := wc) #[.int .i64 k0, .bool x, .int .i64 a, .int .i64 0, .int .i64 0, .string ⟨#[]⟩] 25 G9.out.2.2).grow g5)
    clear a0 a1 a2 a3 a4 a5 b0 b1 b2 b3 b4 b5 c0 c1 c2 c3 c4 c5 d0 d1 d2 d3 d4 d5
    clear a0q a1q a2q a3q a4q a5q b0q b1q b2q b3q b4q b5q c0q c1q c2q c3q c4q c5q d0q d1q d2q d3q d4q d5q
    clear g5 LS HAB HS9 G9 BG n1 n2 n3 n4 fa fb
    obtain ⟨o, ho⟩ : ∃ o, o = wc.heap.size := ⟨_, rfl⟩
    rw [← ho] at BO HS5 ⊢
    clear ho
    obtain ⟨e0, e1, e2, e3, e4, e5⟩ := BO.out.at6
    obtain ⟨c0, c1, c2, c3, c4, c5, d0, d1, d2, d3, d4, d5⟩ := BG5.out.at12
    have fo := BO.out.2.2.2
    have G6' := G5
    have S6 := Lib.hid HS5.out.unprotect.unprotect2
    go_wp2_with fail
    with_reducible refine (HG.out _ _ S6.out _ (by first | rfl | simp)).mono ?_
    rintro e w7 ⟨rfl, hs, hf⟩
    have H7 := Lib.hid (And.intro hs ((Fr.of_grown _ G6'.out).trans hf))
    clear hs hf HG
    go_wp2_with fail
    go_ret
    exact ⟨rfl, H7.out⟩
omit hlen in
theorem do_36_under (hL : L.length < 2) :
    Calls Tryz.prog 9 #[.pointer (some ⟨p, 0, none⟩), .int .i64 36] W fun e w' => e = .returned (.int .i64 (((7, L) : Int × List Pl.Ob)).1) ∧ Stk W0 Pr p (((7, L) : Int × List Pl.Ob)).2 w' ∧ FrS W0 Pr W w' := by
  have FM := Lib.hid (fun Z => fam_yes 36 (by omega) (by omega) Z)
  have TK := Lib.hid (fun (Z : World) (hS : Stk W0 Pr p L Z) b => take2_under W0 Pr p L Z hS hL b 2)
  have HS := Lib.hid h
  clear h hL
  go_enter Tryz.func9, Tryz.ntmps9
  go_wp2_with fail
  refine (FM.out _).mono ?_
  rintro e w1 ⟨rfl, g1⟩
  have G1 := Lib.hid g1
  have HS1 := Lib.hid (HS.out.grown g1)
  clear g1 FM HS
  go_wp2_with fail
  refine (TK.out _ (HS1.out.grown ((Grown.refl _).alloc #[.int .i64 24, .int .i64 24] 3)) _).mono ?_
  rintro e w2 ⟨rfl, rfl⟩
  clear TK
  go_wp2_with fail
  go_ret
  exact ⟨rfl, HS1.out.grown ((Grown.refl _).alloc _ _), Fr.of_grown _ (G1.out.alloc _ _)⟩
theorem do_36_bad1 (o0 o1 : Pl.Ob) (ho1 : L.reverse[0]? = some o1) (ho0 : L.reverse[1]? = some o0) (hm0 : Pl.mayO o0) (hm1 : Pl.mayO o1) (hf : Pl.fits 24 o1.1 = false) :
    Calls Tryz.prog 9 #[.pointer (some ⟨p, 0, none⟩), .int .i64 36] W fun e w' => e = .returned (.int .i64 (((6, L) : Int × List Pl.Ob)).1) ∧ Stk W0 Pr p (((6, L) : Int × List Pl.Ob)).2 w' ∧ FrS W0 Pr W w' := by
  have FM := Lib.hid (fun Z => fam_yes 36 (by omega) (by omega) Z)
  have TK := Lib.hid (fun (Z : World) (hS : Stk W0 Pr p L (Z.alloc (.cells #[.int .i64 24, .int .i64 24] 3))) => take2_bad1 W0 Pr p L _ hlen hS o0 o1 ho1 ho0 (Pl.mayO_kind hm0) (Pl.mayO_kind hm1) Z.heap.size 2 (Nat.le_refl _) 24 24 (by simp [go_sem]) (by simp [go_sem]) hf)
  have HS := Lib.hid h
  clear h hlen ho0 ho1 hm0 hm1 hf
  go_enter Tryz.func9, Tryz.ntmps9
  go_wp2_with fail
  refine (FM.out _).mono ?_
  rintro e w1 ⟨rfl, g1⟩
  have G1 := Lib.hid g1
  have HS1 := Lib.hid (HS.out.grown g1)
  clear g1 FM HS
  go_wp2_with fail
  refine (TK.out _ (HS1.out.grown ((Grown.refl _).alloc #[.int .i64 24, .int .i64 24] 3))).mono ?_
  rintro e w2 ⟨g2, rfl⟩
  have G2 := Lib.hid (grown_trans (G1.out.alloc #[.int .i64 24, .int .i64 24] 3) g2)
  have HS2 := Lib.hid ((HS1.out.grown ((Grown.refl _).alloc #[.int .i64 24, .int .i64 24] 3)).grown g2)
  clear TK g2
  go_wp2_with fail
  go_ret
  exact ⟨rfl, HS2.out, Fr.of_grown _ G2.out⟩
theorem do_36_bad0 (o0 o1 : Pl.Ob) (ho1 : L.reverse[0]? = some o1) (ho0 : L.reverse[1]? = some o0) (hm0 : Pl.mayO o0) (hm1 : Pl.mayO o1) (hf : Pl.fits 24 o1.1 = true) (hf0 : Pl.fits 24 o0.1 = false) :
    Calls Tryz.prog 9 #[.pointer (some ⟨p, 0, none⟩), .int .i64 36] W fun e w' => e = .returned (.int .i64 (((6, L) : Int × List Pl.Ob)).1) ∧ Stk W0 Pr p (((6, L) : Int × List Pl.Ob)).2 w' ∧ FrS W0 Pr W w' := by
  have FM := Lib.hid (fun Z => fam_yes 36 (by omega) (by omega) Z)
  have TK := Lib.hid (fun (Z : World) (hS : Stk W0 Pr p L (Z.alloc (.cells #[.int .i64 24, .int .i64 24] 3))) => take2_bad0 W0 Pr p L _ hlen hS o0 o1 ho1 ho0 (Pl.mayO_kind hm0) (Pl.mayO_kind hm1) Z.heap.size 2 (Nat.le_refl _) 24 24 (by simp [go_sem]) (by simp [go_sem]) hf hf0)
  have HS := Lib.hid h
  clear h hlen ho0 ho1 hm0 hm1 hf hf0
  go_enter Tryz.func9, Tryz.ntmps9
  go_wp2_with fail
  refine (FM.out _).mono ?_
  rintro e w1 ⟨rfl, g1⟩
  have G1 := Lib.hid g1
  have HS1 := Lib.hid (HS.out.grown g1)
  clear g1 FM HS
  go_wp2_with fail
  refine (TK.out _ (HS1.out.grown ((Grown.refl _).alloc #[.int .i64 24, .int .i64 24] 3))).mono ?_
  rintro e w2 ⟨g2, rfl⟩
  have G2 := Lib.hid (grown_trans (G1.out.alloc #[.int .i64 24, .int .i64 24] 3) g2)
  have HS2 := Lib.hid ((HS1.out.grown ((Grown.refl _).alloc #[.int .i64 24, .int .i64 24] 3)).grown g2)
  clear TK g2
  go_wp2_with fail
  go_ret
  exact ⟨rfl, HS2.out, Fr.of_grown _ G2.out⟩
theorem do_36_true (k0 k1 a b : Int) (q0 : k0 = 3 ∨ k0 = 4) (q1 : k1 = 3 ∨ k1 = 4) (x y : Bool) (ho1 : L.reverse[0]? = some (k1, y, b, 0, 0, ⟨#[]⟩)) (ho0 : L.reverse[1]? = some (k0, x, a, 0, 0, ⟨#[]⟩)) (h2 : 2 ≤ L.length) (hm0 : Pl.mayO (k0, x, a, 0, 0, ⟨#[]⟩)) (hm1 : Pl.mayO (k1, y, b, 0, 0, ⟨#[]⟩)) (hl : (Pl.sz k0 a < Pl.sz k1 b)) :
    Calls Tryz.prog 9 #[.pointer (some ⟨p, 0, none⟩), .int .i64 36] W fun e w' => e = .returned (.int .i64 (Pl.giveR L 2 [(k1, y, b, 0, 0, ⟨#[]⟩)]).1) ∧ Stk W0 Pr p (Pl.giveR L 2 [(k1, y, b, 0, 0, ⟨#[]⟩)]).2 w' ∧ FrS W0 Pr W w' := by
  have hi0 : Pl.isn k0 a := by
    have e := (Pl.mayO_num hm0 q0).choose_spec.2
    rcases q0 with rfl | rfl
    · exact .inl ⟨rfl, e.1 rfl⟩
    · exact .inr ⟨rfl, e.2 rfl⟩
  have hi1 : Pl.isn k1 b := by
    have e := (Pl.mayO_num hm1 q1).choose_spec.2
    rcases q1 with rfl | rfl
    · exact .inl ⟨rfl, e.1 rfl⟩
    · exact .inr ⟨rfl, e.2 rfl⟩
  have LS := Lib.hid (fun Z => less_num k0 x a hi0 k1 y b hi1 Z)
  rw [decide_eq_true hl] at LS
  have FM := Lib.hid (fun Z => fam_yes 36 (by omega) (by omega) Z)
  have TK := Lib.hid (fun (Z : World) (hS : Stk W0 Pr p L (Z.alloc (.cells #[.int .i64 24, .int .i64 24] 3))) => take2_ok W0 Pr p L _ hlen hS (k0, x, a, 0, 0, ⟨#[]⟩) (k1, y, b, 0, 0, ⟨#[]⟩) ho1 ho0 (Pl.mayO_kind hm0) (Pl.mayO_kind hm1) Z.heap.size 2 (Nat.le_refl _) 24 24 (by simp [go_sem]) (by simp [go_sem]) (show Pl.fits 24 k1 = true by rcases q1 with rfl | rfl <;> decide) (show Pl.fits 24 k0 = true by rcases q0 with rfl | rfl <;> decide))
  have HG := Lib.hid (fun Z (Pr2 : Nat → Prop) (hS : Stk W0 Pr2 p L Z) bq (hb : bq = Z.heap.size) => give_row2 W0 Pr2 p L Z hlen hS (k1, y, b, 0, 0, ⟨#[]⟩) #[.int .i64 k1, .bool y, .int .i64 b, .int .i64 0, .int .i64 0, .string ⟨#[]⟩] rfl h2 hm1 bq hb)
  have HS := Lib.hid h
  have hW0 : W0.heap.size ≤ W.heap.size := by obtain ⟨_, _, _, hk, _⟩ := h; exact hk.2.2
  have HW0 := Lib.hid hW0
  clear h hlen ho0 ho1 h2 hl hi0 hi1 hm0 hm1 hW0 q0 q1
  go_enter Tryz.func9, Tryz.ntmps9
  go_wp2_with fail
  refine (FM.out _).mono ?_
  rintro e w1 ⟨rfl, g1⟩
  have G1 := Lib.hid g1
  have HS1 := Lib.hid (HS.out.grown g1)
  clear g1 FM HS
  go_wp2_with fail
  refine (TK.out _ (HS1.out.grown ((Grown.refl _).alloc #[.int .i64 24, .int .i64 24] 3))).mono ?_
  rintro e w2 ⟨g2, g, B2, rfl⟩
  have G2 := Lib.hid (grown_trans (G1.out.alloc #[.int .i64 24, .int .i64 24] 3) g2)
  have HS2 := Lib.hid ((HS1.out.grown ((Grown.refl _).alloc #[.int .i64 24, .int .i64 24] 3)).grown g2)
  have B2' : Hid (Blk W g (Pl.oc (k0, x, a, 0, 0, ⟨#[]⟩) ++ Pl.oc (k1, y, b, 0, 0, ⟨#[]⟩)) w2) := Lib.hid ⟨Nat.le_trans (G1.out.alloc #[.int .i64 24, .int .i64 24] 3).2.2 B2.1, B2.2⟩
  obtain ⟨c0, c1, c2, c3, c4, c5, d0, d1, d2, d3, d4, d5⟩ := B2.at12
  clear TK g2 HS1 G1 B2
  have X1 := Lib.hid (AB2.one G2.out HS2.out (k0, x, a, 0, 0, ⟨#[]⟩) (k1, y, b, 0, 0, ⟨#[]⟩) B2'.out #[.int .i64 k0, .bool x, .int .i64 a, .int .i64 0, .int .i64 0, .string ⟨#[]⟩] #[.int .i64 k1, .bool y, .int .i64 b, .int .i64 0, .int .i64 0, .string ⟨#[]⟩] rfl rfl)
  have X2 := Lib.hid (AB2.two G2.out HS2.out (k0, x, a, 0, 0, ⟨#[]⟩) (k1, y, b, 0, 0, ⟨#[]⟩) B2'.out #[.int .i64 k0, .bool x, .int .i64 a, .int .i64 0, .int .i64 0, .string ⟨#[]⟩] #[.int .i64 k1, .bool y, .int .i64 b, .int .i64 0, .int .i64 0, .string ⟨#[]⟩] rfl rfl)
  clear G2 HS2 B2'
  go_upto_region 17 with fail
  go_cut [7, 8] (fun sa sb wx => ∃ pa pb, sa = .pointer (some ⟨pa, 0, none⟩) ∧ sb = .pointer (some ⟨pb, 0, none⟩) ∧ Hid (AB2 W0 Pr p L W g (k0, x, a, 0, 0, ⟨#[]⟩) (k1, y, b, 0, 0, ⟨#[]⟩) pa pb wx))
  case first =>
    have hne := World.new_ne w2 _ c0
    go_region_held3 (fun Z => Z.cell? ⟨g, 0, none⟩ = some (.int .i64 k0) ∧ Z.cell? ⟨g, 1, none⟩ = some (.bool x) ∧ Z.cell? ⟨g, 2, none⟩ = some (.int .i64 a) ∧ Z.cell? ⟨g, 3, none⟩ = some (.int .i64 0) ∧ Z.cell? ⟨g, 4, none⟩ = some (.int .i64 0) ∧ Z.cell? ⟨g, 5, none⟩ = some (.string ⟨#[]⟩) ∧ Z.cell? ⟨g, 6, none⟩ = some (.int .i64 k1) ∧ Z.cell? ⟨g, 7, none⟩ = some (.bool y) ∧ Z.cell? ⟨g, 8, none⟩ = some (.int .i64 b) ∧ Z.cell? ⟨g, 9, none⟩ = some (.int .i64 0) ∧ Z.cell? ⟨g, 10, none⟩ = some (.int .i64 0) ∧ Z.cell? ⟨g, 11, none⟩ = some (.string ⟨#[]⟩)) (go_keep) (fail)
    all_goals
      go_wp2_with fail
      go_meet
      case rel => first | exact ⟨_, _, rfl, rfl, X1⟩ | exact ⟨_, _, rfl, rfl, X2⟩
  case rest =>
    obtain ⟨pa, pb, rfl, rfl, HAB⟩ := hcut
    clear c0 c1 c2 c3 c4 c5 d0 d1 d2 d3 d4 d5 X1 X2
    obtain ⟨a0, a1, a2, a3, a4, a5⟩ := HAB.out.1.at6
    obtain ⟨b0, b1, b2, b3, b4, b5⟩ := HAB.out.2.1.at6
    obtain ⟨c0, c1, c2, c3, c4, c5, d0, d1, d2, d3, d4, d5⟩ := HAB.out.2.2.1.at12
    have fa := HAB.out.1.2.2.2
    have fb := HAB.out.2.1.2.2.2
    obtain ⟨n1, n2, n3, n4⟩ := HAB.out.2.2.2.1
    go_upto_region 20 with fail
    generalize hZ : World.setCell _ _ _ = Z3
    have BA : Blk W pa (Pl.oc (k1, y, b, 0, 0, ⟨#[]⟩)) Z3 := by rw [← hZ]; exact (HAB.out.1.six).other_six n1
    have BB : Blk W pb (Pl.oc (k0, x, a, 0, 0, ⟨#[]⟩)) Z3 := by rw [← hZ]; exact (HAB.out.2.1.other_six n2).six
    have BG0 : Blk W g (Pl.oc (k0, x, a, 0, 0, ⟨#[]⟩) ++ Pl.oc (k1, y, b, 0, 0, ⟨#[]⟩)) Z3 := by rw [← hZ]; exact (HAB.out.2.2.1.other_six n3).other_six n4
    have F3 : Fr (fun c => c = pa ∨ c = pb) wc Z3 := by rw [← hZ]; exact (Fr.six (.inl rfl)).trans (Fr.six (.inr rfl))
    have G3 : Grown W Z3 := by rw [← hZ]; exact grown_six (o := 0) (grown_six (o := 0) HAB.out.2.2.2.2.1 HAB.out.1.1) HAB.out.2.1.1
    have S3 : Stk W0 (fun c => Pr c ∨ c = pa ∨ c = pb) p L Z3 := HAB.out.2.2.2.2.2.frP F3 (fun c q => .inr q) (fun c q => Nat.le_trans HW0.out (q.elim (fun e => e ▸ HAB.out.1.1) (fun e => e ▸ HAB.out.2.1.1)))
    clear hZ a0 a1 a2 a3 a4 a5 b0 b1 b2 b3 b4 b5 c0 c1 c2 c3 c4 c5 d0 d1 d2 d3 d4 d5 fa fb
    obtain ⟨a0, a1, a2, a3, a4, a5⟩ := BA.at6
    obtain ⟨b0, b1, b2, b3, b4, b5⟩ := BB.at6
    obtain ⟨c0, c1, c2, c3, c4, c5, d0, d1, d2, d3, d4, d5⟩ := BG0.at12
    have HS9 := Lib.hid S3
    have G9 := Lib.hid G3
    have BG := Lib.hid BG0
    clear BA BB BG0 F3 G3 S3
    have a0q := fun (A : Array Value) (t : TypeId) => grown_cell ((Grown.refl Z3).alloc A t) a0
    have a1q := fun (A : Array Value) (t : TypeId) => grown_cell ((Grown.refl Z3).alloc A t) a1
    have a2q := fun (A : Array Value) (t : TypeId) => grown_cell ((Grown.refl Z3).alloc A t) a2
    have a3q := fun (A : Array Value) (t : TypeId) => grown_cell ((Grown.refl Z3).alloc A t) a3
    have a4q := fun (A : Array Value) (t : TypeId) => grown_cell ((Grown.refl Z3).alloc A t) a4
    have a5q := fun (A : Array Value) (t : TypeId) => grown_cell ((Grown.refl Z3).alloc A t) a5
    have b0q := fun (A : Array Value) (t : TypeId) => grown_cell ((Grown.refl Z3).alloc A t) b0
    have b1q := fun (A : Array Value) (t : TypeId) => grown_cell ((Grown.refl Z3).alloc A t) b1
    have b2q := fun (A : Array Value) (t : TypeId) => grown_cell ((Grown.refl Z3).alloc A t) b2
    have b3q := fun (A : Array Value) (t : TypeId) => grown_cell ((Grown.refl Z3).alloc A t) b3
    have b4q := fun (A : Array Value) (t : TypeId) => grown_cell ((Grown.refl Z3).alloc A t) b4
    have b5q := fun (A : Array Value) (t : TypeId) => grown_cell ((Grown.refl Z3).alloc A t) b5
    have c0q := fun (A : Array Value) (t : TypeId) => grown_cell ((Grown.refl Z3).alloc A t) c0
    have c1q := fun (A : Array Value) (t : TypeId) => grown_cell ((Grown.refl Z3).alloc A t) c1
    have c2q := fun (A : Array Value) (t : TypeId) => grown_cell ((Grown.refl Z3).alloc A t) c2
    have c3q := fun (A : Array Value) (t : TypeId) => grown_cell ((Grown.refl Z3).alloc A t) c3
    have c4q := fun (A : Array Value) (t : TypeId) => grown_cell ((Grown.refl Z3).alloc A t) c4
    have c5q := fun (A : Array Value) (t : TypeId) => grown_cell ((Grown.refl Z3).alloc A t) c5
    have d0q := fun (A : Array Value) (t : TypeId) => grown_cell ((Grown.refl Z3).alloc A t) d0
    have d1q := fun (A : Array Value) (t : TypeId) => grown_cell ((Grown.refl Z3).alloc A t) d1
    have d2q := fun (A : Array Value) (t : TypeId) => grown_cell ((Grown.refl Z3).alloc A t) d2
    have d3q := fun (A : Array Value) (t : TypeId) => grown_cell ((Grown.refl Z3).alloc A t) d3
    have d4q := fun (A : Array Value) (t : TypeId) => grown_cell ((Grown.refl Z3).alloc A t) d4
    have d5q := fun (A : Array Value) (t : TypeId) => grown_cell ((Grown.refl Z3).alloc A t) d5
    go_wp2_with fail
    refine (LS.out _).mono ?_
    rintro e w5 ⟨rfl, g5⟩
    have G5 := Lib.hid (grown_trans (G9.out.alloc #[.int .i64 k0, .bool x, .int .i64 a, .int .i64 0, .int .i64 0, .string ⟨#[]⟩] 25) g5)
    have HS5 := Lib.hid ((HS9.out.box (.cells #[.int .i64 k0, .bool x, .int .i64 a, .int .i64 0, .int .i64 0, .string ⟨#[]⟩] 25)).grown g5)
    have BG5 := Lib.hid ((BG.out.alloc #[.int .i64 k0, .bool x, .int .i64 a, .int .i64 0, .int .i64 0, .string ⟨#[]⟩] 25).grow g5)
    have BO := Lib.hid ((Blk.new (W := W) (Z := Z3) #[.int .i64 k0, .bool x, .int .i64 a, .int .i64 0, .int .i64 0, .string ⟨#[]⟩] 25 G9.out.2.2).grow g5)
    clear a0 a1 a2 a3 a4 a5 b0 b1 b2 b3 b4 b5 c0 c1 c2 c3 c4 c5 d0 d1 d2 d3 d4 d5
    clear a0q a1q a2q a3q a4q a5q b0q b1q b2q b3q b4q b5q c0q c1q c2q c3q c4q c5q d0q d1q d2q d3q d4q d5q
    clear g5 LS HAB HS9 G9 BG n1 n2 n3 n4
    obtain ⟨o, ho⟩ : ∃ o, o = Z3.heap.size := ⟨_, rfl⟩
    rw [← ho] at BO HS5 ⊢
    clear ho
    obtain ⟨e0, e1, e2, e3, e4, e5⟩ := BO.out.at6
    obtain ⟨c0, c1, c2, c3, c4, c5, d0, d1, d2, d3, d4, d5⟩ := BG5.out.at12
    have fo := BO.out.2.2.2
    go_upto_region 24 with fail
    generalize hZ : World.setCell _ _ _ = Z6
    have BO6 : Blk W o (Pl.oc (k1, y, b, 0, 0, ⟨#[]⟩)) Z6 := by rw [← hZ]; exact BO.out.six
    have G6 : Grown W Z6 := by rw [← hZ]; exact grown_six (o := 0) G5.out BO.out.1
    have S6 : Hid (Stk W0 Pr p L Z6) := Lib.hid (by
      rw [← hZ]
      exact (HS5.out.frP (P := fun c => c = o) (Fr.six rfl) (fun c q => .inr q) (fun c q => Nat.le_trans HW0.out (q ▸ BO.out.1))).unprotect.unprotect2)
    clear hZ
    obtain ⟨e0, e1, e2, e3, e4, e5⟩ := BO6.at6
    have G6' := Lib.hid G6
    clear G6 BO6
    go_wp2_with fail
    with_reducible refine (HG.out _ _ S6.out _ (by first | rfl | simp)).mono ?_
    rintro e w7 ⟨rfl, hs, hf⟩
    have H7 := Lib.hid (And.intro hs ((Fr.of_grown _ G6'.out).trans hf))
    clear hs hf HG
    go_wp2_with fail
    go_ret
    exact ⟨rfl, H7.out⟩
theorem do_36_false (k0 k1 a b : Int) (q0 : k0 = 3 ∨ k0 = 4) (q1 : k1 = 3 ∨ k1 = 4) (x y : Bool) (ho1 : L.reverse[0]? = some (k1, y, b, 0, 0, ⟨#[]⟩)) (ho0 : L.reverse[1]? = some (k0, x, a, 0, 0, ⟨#[]⟩)) (h2 : 2 ≤ L.length) (hm0 : Pl.mayO (k0, x, a, 0, 0, ⟨#[]⟩)) (hm1 : Pl.mayO (k1, y, b, 0, 0, ⟨#[]⟩)) (hl : ¬ (Pl.sz k0 a < Pl.sz k1 b)) :
    Calls Tryz.prog 9 #[.pointer (some ⟨p, 0, none⟩), .int .i64 36] W fun e w' => e = .returned (.int .i64 (Pl.giveR L 2 [(k0, x, a, 0, 0, ⟨#[]⟩)]).1) ∧ Stk W0 Pr p (Pl.giveR L 2 [(k0, x, a, 0, 0, ⟨#[]⟩)]).2 w' ∧ FrS W0 Pr W w' := by
  have hi0 : Pl.isn k0 a := by
    have e := (Pl.mayO_num hm0 q0).choose_spec.2
    rcases q0 with rfl | rfl
    · exact .inl ⟨rfl, e.1 rfl⟩
    · exact .inr ⟨rfl, e.2 rfl⟩
  have hi1 : Pl.isn k1 b := by
    have e := (Pl.mayO_num hm1 q1).choose_spec.2
    rcases q1 with rfl | rfl
    · exact .inl ⟨rfl, e.1 rfl⟩
    · exact .inr ⟨rfl, e.2 rfl⟩
  have LS := Lib.hid (fun Z => less_num k0 x a hi0 k1 y b hi1 Z)
  rw [decide_eq_false hl] at LS
  have FM := Lib.hid (fun Z => fam_yes 36 (by omega) (by omega) Z)
  have TK := Lib.hid (fun (Z : World) (hS : Stk W0 Pr p L (Z.alloc (.cells #[.int .i64 24, .int .i64 24] 3))) => take2_ok W0 Pr p L _ hlen hS (k0, x, a, 0, 0, ⟨#[]⟩) (k1, y, b, 0, 0, ⟨#[]⟩) ho1 ho0 (Pl.mayO_kind hm0) (Pl.mayO_kind hm1) Z.heap.size 2 (Nat.le_refl _) 24 24 (by simp [go_sem]) (by simp [go_sem]) (show Pl.fits 24 k1 = true by rcases q1 with rfl | rfl <;> decide) (show Pl.fits 24 k0 = true by rcases q0 with rfl | rfl <;> decide))
  have HG := Lib.hid (fun Z (Pr2 : Nat → Prop) (hS : Stk W0 Pr2 p L Z) bq (hb : bq = Z.heap.size) => give_row2 W0 Pr2 p L Z hlen hS (k0, x, a, 0, 0, ⟨#[]⟩) #[.int .i64 k0, .bool x, .int .i64 a, .int .i64 0, .int .i64 0, .string ⟨#[]⟩] rfl h2 hm0 bq hb)
  have HS := Lib.hid h
  have hW0 : W0.heap.size ≤ W.heap.size := by obtain ⟨_, _, _, hk, _⟩ := h; exact hk.2.2
  have HW0 := Lib.hid hW0
  clear h hlen ho0 ho1 h2 hl hi0 hi1 hm0 hm1 hW0 q0 q1
  go_enter Tryz.func9, Tryz.ntmps9
  go_wp2_with fail
  refine (FM.out _).mono ?_
  rintro e w1 ⟨rfl, g1⟩
  have G1 := Lib.hid g1
  have HS1 := Lib.hid (HS.out.grown g1)
  clear g1 FM HS
  go_wp2_with fail
  refine (TK.out _ (HS1.out.grown ((Grown.refl _).alloc #[.int .i64 24, .int .i64 24] 3))).mono ?_
  rintro e w2 ⟨g2, g, B2, rfl⟩
  have G2 := Lib.hid (grown_trans (G1.out.alloc #[.int .i64 24, .int .i64 24] 3) g2)
  have HS2 := Lib.hid ((HS1.out.grown ((Grown.refl _).alloc #[.int .i64 24, .int .i64 24] 3)).grown g2)
  have B2' : Hid (Blk W g (Pl.oc (k0, x, a, 0, 0, ⟨#[]⟩) ++ Pl.oc (k1, y, b, 0, 0, ⟨#[]⟩)) w2) := Lib.hid ⟨Nat.le_trans (G1.out.alloc #[.int .i64 24, .int .i64 24] 3).2.2 B2.1, B2.2⟩
  obtain ⟨c0, c1, c2, c3, c4, c5, d0, d1, d2, d3, d4, d5⟩ := B2.at12
  clear TK g2 HS1 G1 B2
  have X1 := Lib.hid (AB2.one G2.out HS2.out (k0, x, a, 0, 0, ⟨#[]⟩) (k1, y, b, 0, 0, ⟨#[]⟩) B2'.out #[.int .i64 k0, .bool x, .int .i64 a, .int .i64 0, .int .i64 0, .string ⟨#[]⟩] #[.int .i64 k1, .bool y, .int .i64 b, .int .i64 0, .int .i64 0, .string ⟨#[]⟩] rfl rfl)
  have X2 := Lib.hid (AB2.two G2.out HS2.out (k0, x, a, 0, 0, ⟨#[]⟩) (k1, y, b, 0, 0, ⟨#[]⟩) B2'.out #[.int .i64 k0, .bool x, .int .i64 a, .int .i64 0, .int .i64 0, .string ⟨#[]⟩] #[.int .i64 k1, .bool y, .int .i64 b, .int .i64 0, .int .i64 0, .string ⟨#[]⟩] rfl rfl)
  clear G2 HS2 B2'
  go_upto_region 17 with fail
  go_cut [7, 8] (fun sa sb wx => ∃ pa pb, sa = .pointer (some ⟨pa, 0, none⟩) ∧ sb = .pointer (some ⟨pb, 0, none⟩) ∧ Hid (AB2 W0 Pr p L W g (k0, x, a, 0, 0, ⟨#[]⟩) (k1, y, b, 0, 0, ⟨#[]⟩) pa pb wx))
  case first =>
    have hne := World.new_ne w2 _ c0
    go_region_held3 (fun Z => Z.cell? ⟨g, 0, none⟩ = some (.int .i64 k0) ∧ Z.cell? ⟨g, 1, none⟩ = some (.bool x) ∧ Z.cell? ⟨g, 2, none⟩ = some (.int .i64 a) ∧ Z.cell? ⟨g, 3, none⟩ = some (.int .i64 0) ∧ Z.cell? ⟨g, 4, none⟩ = some (.int .i64 0) ∧ Z.cell? ⟨g, 5, none⟩ = some (.string ⟨#[]⟩) ∧ Z.cell? ⟨g, 6, none⟩ = some (.int .i64 k1) ∧ Z.cell? ⟨g, 7, none⟩ = some (.bool y) ∧ Z.cell? ⟨g, 8, none⟩ = some (.int .i64 b) ∧ Z.cell? ⟨g, 9, none⟩ = some (.int .i64 0) ∧ Z.cell? ⟨g, 10, none⟩ = some (.int .i64 0) ∧ Z.cell? ⟨g, 11, none⟩ = some (.string ⟨#[]⟩)) (go_keep) (fail)
    all_goals
      go_wp2_with fail
      go_meet
      case rel => first | exact ⟨_, _, rfl, rfl, X1⟩ | exact ⟨_, _, rfl, rfl, X2⟩
  case rest =>
    obtain ⟨pa, pb, rfl, rfl, HAB⟩ := hcut
    clear c0 c1 c2 c3 c4 c5 d0 d1 d2 d3 d4 d5 X1 X2
    obtain ⟨a0, a1, a2, a3, a4, a5⟩ := HAB.out.1.at6
    obtain ⟨b0, b1, b2, b3, b4, b5⟩ := HAB.out.2.1.at6
    obtain ⟨c0, c1, c2, c3, c4, c5, d0, d1, d2, d3, d4, d5⟩ := HAB.out.2.2.1.at12
    have fa := HAB.out.1.2.2.2
    have fb := HAB.out.2.1.2.2.2
    obtain ⟨n1, n2, n3, n4⟩ := HAB.out.2.2.2.1
    go_upto_region 20 with fail
    generalize hZ : World.setCell _ _ _ = Z3
    have BA : Blk W pa (Pl.oc (k1, y, b, 0, 0, ⟨#[]⟩)) Z3 := by rw [← hZ]; exact (HAB.out.1.six).other_six n1
    have BB : Blk W pb (Pl.oc (k0, x, a, 0, 0, ⟨#[]⟩)) Z3 := by rw [← hZ]; exact (HAB.out.2.1.other_six n2).six
    have BG0 : Blk W g (Pl.oc (k0, x, a, 0, 0, ⟨#[]⟩) ++ Pl.oc (k1, y, b, 0, 0, ⟨#[]⟩)) Z3 := by rw [← hZ]; exact (HAB.out.2.2.1.other_six n3).other_six n4
    have F3 : Fr (fun c => c = pa ∨ c = pb) wc Z3 := by rw [← hZ]; exact (Fr.six (.inl rfl)).trans (Fr.six (.inr rfl))
    have G3 : Grown W Z3 := by rw [← hZ]; exact grown_six (o := 0) (grown_six (o := 0) HAB.out.2.2.2.2.1 HAB.out.1.1) HAB.out.2.1.1
    have S3 : Stk W0 (fun c => Pr c ∨ c = pa ∨ c = pb) p L Z3 := HAB.out.2.2.2.2.2.frP F3 (fun c q => .inr q) (fun c q => Nat.le_trans HW0.out (q.elim (fun e => e ▸ HAB.out.1.1) (fun e => e ▸ HAB.out.2.1.1)))
    clear hZ a0 a1 a2 a3 a4 a5 b0 b1 b2 b3 b4 b5 c0 c1 c2 c3 c4 c5 d0 d1 d2 d3 d4 d5 fa fb
    obtain ⟨a0, a1, a2, a3, a4, a5⟩ := BA.at6
    obtain ⟨b0, b1, b2, b3, b4, b5⟩ := BB.at6
    obtain ⟨c0, c1, c2, c3, c4, c5, d0, d1, d2, d3, d4, d5⟩ := BG0.at12
    have HS9 := Lib.hid S3
    have G9 := Lib.hid G3
    have BG := Lib.hid BG0
    clear BA BB BG0 F3 G3 S3
    have a0q := fun (A : Array Value) (t : TypeId) => grown_cell ((Grown.refl Z3).alloc A t) a0
    have a1q := fun (A : Array Value) (t : TypeId) => grown_cell ((Grown.refl Z3).alloc A t) a1
    have a2q := fun (A : Array Value) (t : TypeId) => grown_cell ((Grown.refl Z3).alloc A t) a2
    have a3q := fun (A : Array Value) (t : TypeId) => grown_cell ((Grown.refl Z3).alloc A t) a3
    have a4q := fun (A : Array Value) (t : TypeId) => grown_cell ((Grown.refl Z3).alloc A t) a4
    have a5q := fun (A : Array Value) (t : TypeId) => grown_cell ((Grown.refl Z3).alloc A t) a5
    have b0q := fun (A : Array Value) (t : TypeId) => grown_cell ((Grown.refl Z3).alloc A t) b0
    have b1q := fun (A : Array Value) (t : TypeId) => grown_cell ((Grown.refl Z3).alloc A t) b1
    have b2q := fun (A : Array Value) (t : TypeId) => grown_cell ((Grown.refl Z3).alloc A t) b2
    have b3q := fun (A : Array Value) (t : TypeId) => grown_cell ((Grown.refl Z3).alloc A t) b3
    have b4q := fun (A : Array Value) (t : TypeId) => grown_cell ((Grown.refl Z3).alloc A t) b4
    have b5q := fun (A : Array Value) (t : TypeId) => grown_cell ((Grown.refl Z3).alloc A t) b5
    have c0q := fun (A : Array Value) (t : TypeId) => grown_cell ((Grown.refl Z3).alloc A t) c0
    have c1q := fun (A : Array Value) (t : TypeId) => grown_cell ((Grown.refl Z3).alloc A t) c1
    have c2q := fun (A : Array Value) (t : TypeId) => grown_cell ((Grown.refl Z3).alloc A t) c2
    have c3q := fun (A : Array Value) (t : TypeId) => grown_cell ((Grown.refl Z3).alloc A t) c3
    have c4q := fun (A : Array Value) (t : TypeId) => grown_cell ((Grown.refl Z3).alloc A t) c4
    have c5q := fun (A : Array Value) (t : TypeId) => grown_cell ((Grown.refl Z3).alloc A t) c5
    have d0q := fun (A : Array Value) (t : TypeId) => grown_cell ((Grown.refl Z3).alloc A t) d0
    have d1q := fun (A : Array Value) (t : TypeId) => grown_cell ((Grown.refl Z3).alloc A t) d1
    have d2q := fun (A : Array Value) (t : TypeId) => grown_cell ((Grown.refl Z3).alloc A t) d2
    have d3q := fun (A : Array Value) (t : TypeId) => grown_cell ((Grown.refl Z3).alloc A t) d3
    have d4q := fun (A : Array Value) (t : TypeId) => grown_cell ((Grown.refl Z3).alloc A t) d4
    have d5q := fun (A : Array Value) (t : TypeId) => grown_cell ((Grown.refl Z3).alloc A t) d5
    go_wp2_with fail
    refine (LS.out _).mono ?_
    rintro e w5 ⟨rfl, g5⟩
    have G5 := Lib.hid (grown_trans (G9.out.alloc #[.int .i64 k0, .bool x, .int .i64 a, .int .i64 0, .int .i64 0, .string ⟨#[]⟩] 25) g5)
    have HS5 := Lib.hid ((HS9.out.box (.cells #[.int .i64 k0, .bool x, .int .i64 a, .int .i64 0, .int .i64 0, .string ⟨#[]⟩] 25)).grown g5)
    have BG5 := Lib.hid ((BG.out.alloc #[.int .i64 k0, .bool x, .int .i64 a, .int .i64 0, .int .i64 0, .string ⟨#[]⟩] 25).grow g5)
    have BO := Lib.hid ((Blk.new (W := W) (Z := Z3) #[.int .i64 k0, .bool x, .int .i64 a, .int .i64 0, .int .i64 0, .string ⟨#[]⟩] 25 G9.out.2.2).grow g5)
    clear a0 a1 a2 a3 a4 a5 b0 b1 b2 b3 b4 b5 c0 c1 c2 c3 c4 c5 d0 d1 d2 d3 d4 d5
    clear a0q a1q a2q a3q a4q a5q b0q b1q b2q b3q b4q b5q c0q c1q c2q c3q c4q c5q d0q d1q d2q d3q d4q d5q
    clear g5 LS HAB HS9 G9 BG n1 n2 n3 n4
    obtain ⟨o, ho⟩ : ∃ o, o = Z3.heap.size := ⟨_, rfl⟩
    rw [← ho] at BO HS5 ⊢
    clear ho
    obtain ⟨e0, e1, e2, e3, e4, e5⟩ := BO.out.at6
    obtain ⟨c0, c1, c2, c3, c4, c5, d0, d1, d2, d3, d4, d5⟩ := BG5.out.at12
    have fo := BO.out.2.2.2
    have G6' := G5
    have S6 := Lib.hid HS5.out.unprotect.unprotect2
    go_wp2_with fail
    with_reducible refine (HG.out _ _ S6.out _ (by first | rfl | simp)).mono ?_
    rintro e w7 ⟨rfl, hs, hf⟩
    have H7 := Lib.hid (And.intro hs ((Fr.of_grown _ G6'.out).trans hf))
    clear hs hf HG
    go_wp2_with fail
    go_ret
    exact ⟨rfl, H7.out⟩
end
end Go.Proofs.YtfmmomdmemcbbaaGreat
