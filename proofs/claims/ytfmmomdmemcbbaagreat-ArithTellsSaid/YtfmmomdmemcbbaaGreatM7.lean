/- arith.Do and tympanlaw18.run, each by one plain function. ·  -/
import Derived.Deep.RegionHeld3
import Derived.Deep.Quiet
import Derived.Deep.QuietTactic
import Derived.BigFrame
import Derived.Test.YtfmmomdmemcbbaaGreatA13
import Derived.Test.YtfmmomdmemcbbaaGreatM4
import Derived.Test.YtfmmomdmemcbbaaGreatM6
import Derived.Test.YtfmmomdmemcbbaaGreatM2
set_option maxHeartbeats 8000000
set_option maxRecDepth 100000
namespace Go.Proofs.YtfmmomdmemcbbaaGreat
set_option linter.unusedVariables false
open Go.RowKit
theorem Pl.giveR_len (L : List Pl.Ob) (n : Nat) (l : List Pl.Ob) (h : L.length ≤ 200) : (Pl.giveR L n l).2.length ≤ 200 := by
  unfold Pl.giveR
  split
  · rw [List.length_append, List.length_take]; omega
  · exact h
theorem Pl.wholeR_len (L : List Pl.Ob) (n : Nat) (v : Int) (h : L.length ≤ 200) : (Pl.wholeR L n v).2.length ≤ 200 := by
  unfold Pl.wholeR
  split
  · exact Pl.giveR_len L n _ h
  · exact h
theorem Pl.fixedR_len (L : List Pl.Ob) (n : Nat) (v : Int) (ok : Bool) (h : L.length ≤ 200) : (Pl.fixedR L n v ok).2.length ≤ 200 := by
  unfold Pl.fixedR
  split
  · exact Pl.giveR_len L n _ h
  · exact h
theorem Pl.doR_len (L : List Pl.Ob) (n : Int) (h : L.length ≤ 200) : (Pl.doR L n).2.length ≤ 200 := by
  have g1 := fun n l => Pl.giveR_len L n l h
  have g2 := fun n v => Pl.wholeR_len L n v h
  have g3 := fun n v ok => Pl.fixedR_len L n v ok h
  have gt : ∀ k, (L.take k).length ≤ 200 := fun k => by rw [List.length_take]; omega
  have gn : ∀ n a b, (Pl.numbersR L n a b).2.length ≤ 200 := fun n a b => by
    unfold Pl.numbersR
    repeat' split
    all_goals first | exact g2 _ _ | exact g3 _ _ _ | exact h
  unfold Pl.doR
  split
  · exact h
  split
  · unfold Pl.roundR
    repeat' split
    all_goals first | exact g1 _ _ | exact h | exact gt _ | (rw [Pl.rot_len _ _ _ (by rw [List.length_take]; omega)]; exact gt _) | simp
  split
  · unfold Pl.twoR
    split
    · split
      · unfold Pl.twoI
        repeat' split
        all_goals first | exact gn _ _ _ | exact g1 _ _ | exact g2 _ _ | exact h
      · exact h
    · exact h
  split
  · unfold Pl.oneR
    split
    · exact h
    · split
      · unfold Pl.oneI
        repeat' split
        all_goals first | exact g1 _ _ | exact g2 _ _ | exact g3 _ _ _ | exact h
      · exact h
  split
  · unfold Pl.mmR
    split
    · split
      · exact g1 _ _
      · exact h
    · exact h
  split
  · exact g1 _ _
  split
  · exact g1 _ _
  · exact g1 _ _
section
variable (W0 : World) (Pr : Nat → Prop) (p : Nat) (L : List Pl.Ob) (W : World) (hlen : L.length ≤ 200) (h : Stk W0 Pr p L W) (hall : ∀ o ∈ L, Pl.mayO o)
include h hlen hall
theorem mm_35 :
    Calls Tryz.prog 9 #[.pointer (some ⟨p, 0, none⟩), .int .i64 35] W fun e w' => e = .returned (.int .i64 (Pl.mmR L 35).1) ∧ Stk W0 Pr p (Pl.mmR L 35).2 w' ∧ FrS W0 Pr W w' := by
  rcases Pl.mmR_cases L 35 with ⟨h0, hR⟩ | ⟨o0, o1, ho1, ho0, h2, hR⟩ <;> rw [hR] <;> clear hR
  · exact do_35_under W0 Pr p L W h h0
  have hm0 := hall o0 (Pl.mem_rev ho0)
  have hm1 := hall o1 (Pl.mem_rev ho1)
  by_cases hf1 : Pl.fits 24 o1.1 = true
  · by_cases hf0 : Pl.fits 24 o0.1 = true
    · rw [if_pos ⟨hf1, hf0⟩]
      have q0 := (Pl.fits24 (Pl.mayO_kind hm0)).1 hf0
      have q1 := (Pl.fits24 (Pl.mayO_kind hm1)).1 hf1
      obtain ⟨x, ex, _, _⟩ := Pl.mayO_num hm0 q0
      obtain ⟨y, ey, _, _⟩ := Pl.mayO_num hm1 q1
      generalize o0.1 = k0 at ex q0 hf0
      generalize o0.2.2.1 = a at ex
      generalize o1.1 = k1 at ey q1 hf1
      generalize o1.2.2.1 = b at ey
      subst ex
      subst ey
      unfold Pl.mm
      simp only
      rw [if_neg (by decide)]
      by_cases hl : Pl.sz k1 b < Pl.sz k0 a
      · rw [if_pos hl]
        exact do_35_true W0 Pr p L W hlen h k0 k1 a b q0 q1 x y ho1 ho0 h2 hm0 hm1 hl
      · rw [if_neg hl]
        exact do_35_false W0 Pr p L W hlen h k0 k1 a b q0 q1 x y ho1 ho0 h2 hm0 hm1 hl
    · rw [if_neg (fun q => hf0 q.2)]
      exact do_35_bad0 W0 Pr p L W hlen h o0 o1 ho1 ho0 hm0 hm1 hf1 (by simpa using hf0)
  · rw [if_neg (fun q => hf1 q.1)]
    exact do_35_bad1 W0 Pr p L W hlen h o0 o1 ho1 ho0 hm0 hm1 (by simpa using hf1)
theorem mm_36 :
    Calls Tryz.prog 9 #[.pointer (some ⟨p, 0, none⟩), .int .i64 36] W fun e w' => e = .returned (.int .i64 (Pl.mmR L 36).1) ∧ Stk W0 Pr p (Pl.mmR L 36).2 w' ∧ FrS W0 Pr W w' := by
  rcases Pl.mmR_cases L 36 with ⟨h0, hR⟩ | ⟨o0, o1, ho1, ho0, h2, hR⟩ <;> rw [hR] <;> clear hR
  · exact do_36_under W0 Pr p L W h h0
  have hm0 := hall o0 (Pl.mem_rev ho0)
  have hm1 := hall o1 (Pl.mem_rev ho1)
  by_cases hf1 : Pl.fits 24 o1.1 = true
  · by_cases hf0 : Pl.fits 24 o0.1 = true
    · rw [if_pos ⟨hf1, hf0⟩]
      have q0 := (Pl.fits24 (Pl.mayO_kind hm0)).1 hf0
      have q1 := (Pl.fits24 (Pl.mayO_kind hm1)).1 hf1
      obtain ⟨x, ex, _, _⟩ := Pl.mayO_num hm0 q0
      obtain ⟨y, ey, _, _⟩ := Pl.mayO_num hm1 q1
      generalize o0.1 = k0 at ex q0 hf0
      generalize o0.2.2.1 = a at ex
      generalize o1.1 = k1 at ey q1 hf1
      generalize o1.2.2.1 = b at ey
      subst ex
      subst ey
      unfold Pl.mm
      simp only
      rw [if_pos (by decide)]
      by_cases hl : Pl.sz k0 a < Pl.sz k1 b
      · rw [if_pos hl]
        exact do_36_true W0 Pr p L W hlen h k0 k1 a b q0 q1 x y ho1 ho0 h2 hm0 hm1 hl
      · rw [if_neg hl]
        exact do_36_false W0 Pr p L W hlen h k0 k1 a b q0 q1 x y ho1 ho0 h2 hm0 hm1 hl
    · rw [if_neg (fun q => hf0 q.2)]
      exact do_36_bad0 W0 Pr p L W hlen h o0 o1 ho1 ho0 hm0 hm1 hf1 (by simpa using hf0)
  · rw [if_neg (fun q => hf1 q.1)]
    exact do_36_bad1 W0 Pr p L W hlen h o0 o1 ho1 ho0 hm0 hm1 (by simpa using hf1)
theorem do_any (n : Int) :
    Calls Tryz.prog 9 #[.pointer (some ⟨p, 0, none⟩), .int .i64 n] W fun e w' => e = .returned (.int .i64 (Pl.doR L n).1) ∧ Stk W0 Pr p (Pl.doR L n).2 w' ∧ FrS W0 Pr W w' := by
  by_cases hn : 1 ≤ n ∧ n ≤ 38
  · rcases (show (n = 1 ∨ n = 2 ∨ n = 3 ∨ n = 4 ∨ n = 5 ∨ n = 6 ∨ n = 7 ∨ n = 8 ∨ n = 9 ∨ n = 10) ∨ (n = 11 ∨ n = 12 ∨ n = 13 ∨ n = 14 ∨ n = 26 ∨ n = 15 ∨ n = 16 ∨ n = 31 ∨ n = 27 ∨ n = 28 ∨ n = 29) ∨ (n = 17 ∨ n = 18 ∨ n = 19 ∨ n = 20 ∨ n = 21 ∨ n = 22 ∨ n = 23 ∨ n = 24 ∨ n = 25 ∨ n = 30) ∨ n = 32 ∨ n = 33 ∨ n = 34 ∨ n = 35 ∨ n = 36 ∨ n = 37 ∨ n = 38 by omega) with hr | hr | hr | rfl | rfl | rfl | rfl | rfl | rfl | rfl
    · rw [show Pl.doR L n = Pl.roundR L n by unfold Pl.doR; rw [if_neg (by omega), if_pos (by omega)]]
      exact do_round W0 Pr p L W hlen h hall n hr
    · rw [show Pl.doR L n = Pl.twoR L n by unfold Pl.doR; rw [if_neg (by omega), if_neg (by omega), if_pos (by omega)]]
      exact do_two W0 Pr p L W hlen h hall n hr
    · rw [show Pl.doR L n = Pl.oneR L n by unfold Pl.doR; rw [if_neg (by omega), if_neg (by omega), if_neg (by omega), if_pos (by omega)]]
      exact do_one W0 Pr p L W hlen h hall n hr
    · rw [show Pl.doR L 32 = Pl.giveR L 0 [Pl.truth true] by unfold Pl.doR; simp]
      exact do_32 W0 Pr p L W hlen h
    · rw [show Pl.doR L 33 = Pl.giveR L 0 [Pl.truth false] by unfold Pl.doR; simp]
      exact do_33 W0 Pr p L W hlen h
    · rw [show Pl.doR L 34 = Pl.giveR L 0 [Pl.nullO] by unfold Pl.doR; simp]
      exact do_34 W0 Pr p L W hlen h
    · rw [show Pl.doR L 35 = Pl.mmR L 35 by unfold Pl.doR; simp]
      exact mm_35 W0 Pr p L W hlen h hall
    · rw [show Pl.doR L 36 = Pl.mmR L 36 by unfold Pl.doR; simp]
      exact mm_36 W0 Pr p L W hlen h hall
    · rw [show Pl.doR L 37 = Pl.giveR L 0 [Pl.markO] by unfold Pl.doR; simp]
      exact do_37 W0 Pr p L W hlen h
    · rw [show Pl.doR L 38 = Pl.giveR L 0 [Pl.markO] by unfold Pl.doR; simp]
      exact do_38 W0 Pr p L W hlen h
  · rw [show Pl.doR L n = (1, L) by unfold Pl.doR; rw [if_pos hn]]
    exact do_no W0 Pr p L W h n hn
end
theorem RowV.frNew {W W' : World} {v : Value} {A : List Pl.Ob} (h : RowV W v A) (k : Fr (fun c => W.heap.size ≤ c) W W') : RowV W' v A := by
  obtain ⟨ao, cap, rfl, h1⟩ := h
  rcases h1 with rfl | ⟨g, o, rfl, hg, h1⟩
  · exact ⟨ao, cap, rfl, .inl rfl⟩
  · exact RowV.fr ⟨_, cap, rfl, .inr ⟨g, o, rfl, hg, h1⟩⟩ k (fun a q r => by cases q; simp at r; omega)
theorem fr_new {W W' : World} (k : Fr (fun c => W.heap.size ≤ c) W W') : Fr (fun _ => False) W W' := ⟨k.1, k.2.1, k.2.2.1, fun c hc _ => k.2.2.2 c hc (by omega)⟩
theorem run_any (W : World) (v : Value) (A : List Pl.Ob) (hA : RowV W v A) (hall : ∀ o ∈ A, Pl.mayO o) (hlen : A.length ≤ 200) (NM : ByteArray) (n : Int) (hn : Pl.opNum (rangedText Tryz.f33) NM = n) :
    Calls Tryz.prog 13 #[v, .string NM] W fun e w' => ∃ vi, e = .returned (.tuple #[vi, .int .i64 (Pl.doR A n).1]) ∧ RowV w' vi (Pl.doR A n).2 ∧ OwnForm vi (Pl.doR A n).2.length ∧ Fr (fun _ => False) W w' := by
  have C1 := Lib.hid (stk_new W (fun _ => False) W (Kept.refl W) (fun _ q => q.elim))
  have C2 := Lib.hid (fun Z (hZ : Fr (fun c => W.heap.size ≤ c) W Z) (hS : Stk W (fun _ => False) W.heap.size [] Z) => stk_become W (fun _ => False) W.heap.size [] Z hS v A (hA.frNew hZ) (fun j o hj => hall o (List.mem_of_getElem? hj)) hlen)
  have C3 := Lib.hid (fun Z => number_any _ Pl.opT_is NM Z)
  rw [hn] at C3
  have C4 := Lib.hid (fun Z (hS : Stk W (fun _ => False) W.heap.size A Z) => do_any W (fun _ => False) W.heap.size A Z hlen hS hall n)
  have C5 := Lib.hid (fun Z (hS : Stk W (fun _ => False) W.heap.size (Pl.doR A n).2 Z) => stk_items W (fun _ => False) W.heap.size (Pl.doR A n).2 Z hS (by have := Pl.doR_len A n hlen; omega))
  generalize Pl.doR A n = RES at C4 C5 ⊢
  generalize (Pl.opFind (rangedText Tryz.f33) NM).isSome = OK at C3
  obtain ⟨ao, cap, rfl, _⟩ := hA
  clear hall hn hlen
  go_enter Tryz.func13, Tryz.ntmps13
  go_wp2_with fail
  refine C1.out.mono ?_
  rintro e w1 ⟨rfl, s1, f1⟩
  have S1 := Lib.hid s1
  have F1 : Hid (Fr (fun c => W.heap.size ≤ c) W w1) := Lib.hid (f1.weaken (fun c q => q.2))
  clear s1 f1 C1
  go_wp2_with fail
  refine (C2.out _ F1.out S1.out).mono ?_
  rintro e w2 ⟨rfl, s2, f2⟩
  have S2 := Lib.hid s2
  have F2 : Hid (Fr (fun c => W.heap.size ≤ c) W w2) := Lib.hid (F1.out.trans (f2.weaken (fun c q => q.2)))
  clear s2 f2 C2 F1 S1
  go_wp2_with fail
  refine (C3.out _).mono ?_
  rintro e w3 ⟨rfl, g3⟩
  have S3 := Lib.hid (S2.out.grown g3)
  have F3 : Hid (Fr (fun c => W.heap.size ≤ c) W w3) := Lib.hid (F2.out.trans (Fr.of_grown _ g3))
  clear g3 C3 F2 S2
  go_wp2_with fail
  refine (C4.out _ S3.out).mono ?_
  rintro e w4 ⟨rfl, s4, f4⟩
  have S4 := Lib.hid s4
  have F4 : Hid (Fr (fun c => W.heap.size ≤ c) W w4) := Lib.hid (F3.out.trans (f4.weaken (fun c q => q.2)))
  clear s4 f4 C4 F3 S3
  go_wp2_with fail
  refine (C5.out _ S4.out).mono ?_
  rintro e w5 ⟨vi, rfl, r5, s5, f5, o5⟩
  have R5 := Lib.hid (And.intro r5.1 o5)
  have F5 : Hid (Fr (fun c => W.heap.size ≤ c) W w5) := Lib.hid (F4.out.trans (f5.weaken (fun c q => q.2)))
  obtain ⟨ai, ci, rfl, _⟩ := r5.1
  clear r5 s5 f5 o5 C5 F4 S4
  go_wp2_with fail
  go_ret2
  exact ⟨_, rfl, R5.out.1, R5.out.2, fr_new F5.out⟩
end Go.Proofs.YtfmmomdmemcbbaaGreat
namespace Go.Proofs.YtfmmomdmemcbbaaGreat
set_option linter.unusedVariables false
open Go.RowKit
theorem num18 (n : Int) (W : World) : Calls Tryz.prog 14 #[.int .i64 n] W fun e w' => e = .returned (Pl.ov (Pl.intO n)) ∧ Grown W w' := by
  go_enter Tryz.func14, Tryz.ntmps14
  go_wp2
  exact bodyPost_ret (v := Pl.ov (Pl.intO n)) (by simp [results, Tryz.results14, go_sem, Pl.intO]) rfl ⟨rfl, (Grown.refl W).alloc _ _⟩
theorem fix18 (n : Int) (W : World) : Calls Tryz.prog 15 #[.int .i64 n] W fun e w' => e = .returned (Pl.ov (Pl.fixO n)) ∧ Grown W w' := by
  go_enter Tryz.func15, Tryz.ntmps15
  go_wp2
  exact bodyPost_ret (v := Pl.ov (Pl.fixO n)) (by simp [results, Tryz.results15, go_sem, Pl.fixO]) rfl ⟨rfl, (Grown.refl W).alloc _ _⟩
theorem RowV.fr0 {W W' : World} {v : Value} {A : List Pl.Ob} (h : RowV W v A) (k : Fr (fun _ => False) W W') : RowV W' v A := h.frNew (k.weaken (fun c q => q.elim))
theorem row_get1 {W : World} {vi : Value} {k n a l : Int} {x : Bool} {s : ByteArray} (h : RowV W vi [(k, x, n, a, l, s)]) (ho : OwnForm vi 1) : ∃ g cap, vi = .slice (some ⟨g, 0, none⟩) 1 cap ∧ 1 ≤ cap ∧ g < W.heap.size ∧ W.cell? ⟨g, 0, none⟩ = some (.int .i64 k) ∧ W.cell? ⟨g, 1, none⟩ = some (.bool x) ∧ W.cell? ⟨g, 2, none⟩ = some (.int .i64 n) ∧ W.cell? ⟨g, 3, none⟩ = some (.int .i64 a) ∧ W.cell? ⟨g, 4, none⟩ = some (.int .i64 l) ∧ W.cell? ⟨g, 5, none⟩ = some (.string s) := by
  obtain ⟨g, o, cap, hv, hg, c0, c1, c2, c3, c4, c5⟩ := h.at 0 _ rfl
  rcases ho with ⟨_, h0⟩ | ⟨g2, cap2, hv2, hc⟩
  · cases h0
  · rw [hv] at hv2
    injection hv2 with q1 q2 q3
    injection q1 with q1
    injection q1 with q1 q4 _
    subst q1
    subst q4
    subst q3
    exact ⟨g, cap, hv, hc, hg, by simpa using c0, by simpa using c1, by simpa using c2, by simpa using c3, by simpa using c4, by simpa using c5⟩
theorem cell_fr0 {W W' : World} {g j : Nat} {v : Value} (h : W.cell? ⟨g, j, none⟩ = some v) (k : Fr (fun _ => False) W W') : W'.cell? ⟨g, j, none⟩ = some v := (k.cell (a := ⟨g, j, none⟩) (block_lt_of_cell h) (fun q => q)).trans h
theorem op_idiv : Pl.opNum (rangedText Tryz.f33) ⟨#[105, 100, 105, 118]⟩ = 15 := by decide +kernel
theorem op_atan : Pl.opNum (rangedText Tryz.f33) ⟨#[97, 116, 97, 110]⟩ = 26 := by decide +kernel
theorem known_idiv : Pl.doR [Pl.intO 7, Pl.intO (-2)] 15 = (0, [Pl.intO (-3)]) := by kernel_rfl
theorem known_atan : Pl.doR [Pl.intO 1, Pl.intO 0] 26 = (0, [Pl.fixO 5898240]) := by kernel_rfl
theorem run18 (W : World) (b : Nat) (L : List Pl.Ob) (k : Nat) (hk : k = L.length) (hA : RowV W (.slice (some ⟨b, 0, none⟩) k k) L) (hall : ∀ o ∈ L, Pl.mayO o) (hlen : L.length ≤ 200) (NM : ByteArray) (n : Int) (hn : Pl.opNum (rangedText Tryz.f33) NM = n) (e0 : Int) (R : List Pl.Ob) (hR : Pl.doR L n = (e0, R)) :
    Calls Tryz.prog 13 #[.slice (some ⟨b, 0, none⟩) k k, .string NM] W fun e w' => ∃ vi, e = .returned (.tuple #[vi, .int .i64 e0]) ∧ RowV w' vi R ∧ OwnForm vi R.length ∧ Fr (fun _ => False) W w' := by
  have := run_any W _ L hA hall hlen NM n hn
  rw [hR] at this
  exact this
theorem Pl.may_two {a b : Pl.Ob} (ha : Pl.mayO a) (hb : Pl.mayO b) : ∀ o ∈ [a, b], Pl.mayO o := fun o ho => by
  rcases List.mem_cons.1 ho with rfl | ho
  · exact ha
  · rw [List.mem_singleton.1 ho]; exact hb
theorem known18 (W : World) : Calls Tryz.prog 4 #[] W fun e w' => e = .returned (.bool true) ∧ Fr (fun _ => False) W w' := by
  have N := Lib.hid num18
  have FX := Lib.hid fix18
  go_enter Tryz.func4, Tryz.ntmps4
  go_wp2_with fail
  refine (N.out 7 _).mono ?_
  rintro e w1 ⟨rfl, g1⟩
  go_wp2_with fail
  refine (N.out (-2) _).mono ?_
  rintro e w2 ⟨rfl, g2⟩
  have G2 := Lib.hid (grown_trans g1 g2)
  clear g1 g2
  unfold Pl.intO
  have R1 := Lib.hid (fun b (hb : b = w2.heap.size) => run18 (w2.alloc (.cells #[.int .i64 3, .bool false, .int .i64 7, .int .i64 0, .int .i64 0, .string ⟨#[]⟩, .int .i64 3, .bool false, .int .i64 (-2), .int .i64 0, .int .i64 0, .string ⟨#[]⟩] 25)) b [Pl.intO 7, Pl.intO (-2)] 2 rfl (hb ▸ row_new w2 _ #[.int .i64 3, .bool false, .int .i64 7, .int .i64 0, .int .i64 0, .string ⟨#[]⟩, .int .i64 3, .bool false, .int .i64 (-2), .int .i64 0, .int .i64 0, .string ⟨#[]⟩] rfl 2 rfl) (Pl.may_two (Pl.may_intO (by decide)) (Pl.may_intO (by decide))) (by decide) ⟨#[105, 100, 105, 118]⟩ 15 op_idiv 0 [Pl.intO (-3)] known_idiv)
  go_wp2_with fail
  refine (R1.out _ (by first | rfl | simp)).mono ?_
  rintro e w3 ⟨v1, rfl, r1, o1, f1⟩
  obtain ⟨g, cap, rfl, hc, hg, c0, c1, c2, c3, c4, c5⟩ := row_get1 r1 o1
  have F3 := Lib.hid (((Fr.of_grown _ G2.out).trans (Fr.alloc (fun _ => False) w2 (.cells #[.int .i64 3, .bool false, .int .i64 7, .int .i64 0, .int .i64 0, .string ⟨#[]⟩, .int .i64 3, .bool false, .int .i64 (-2), .int .i64 0, .int .i64 0, .string ⟨#[]⟩] 25))).trans f1)
  clear r1 o1 f1 R1 G2
  go_wp2_with fail
  refine (N.out 1 _).mono ?_
  rintro e w4 ⟨rfl, g4⟩
  go_wp2_with fail
  refine (N.out 0 _).mono ?_
  rintro e w5 ⟨rfl, g5⟩
  have G5 := Lib.hid (grown_trans g4 g5)
  clear g4 g5
  unfold Pl.intO
  have R2 := Lib.hid (fun b (hb : b = w5.heap.size) => run18 (w5.alloc (.cells #[.int .i64 3, .bool false, .int .i64 1, .int .i64 0, .int .i64 0, .string ⟨#[]⟩, .int .i64 3, .bool false, .int .i64 0, .int .i64 0, .int .i64 0, .string ⟨#[]⟩] 25)) b [Pl.intO 1, Pl.intO 0] 2 rfl (hb ▸ row_new w5 _ #[.int .i64 3, .bool false, .int .i64 1, .int .i64 0, .int .i64 0, .string ⟨#[]⟩, .int .i64 3, .bool false, .int .i64 0, .int .i64 0, .int .i64 0, .string ⟨#[]⟩] rfl 2 rfl) (Pl.may_two (Pl.may_intO (by decide)) (Pl.may_intO (by decide))) (by decide) ⟨#[97, 116, 97, 110]⟩ 26 op_atan 0 [Pl.fixO 5898240] known_atan)
  go_wp2_with fail
  refine (R2.out _ (by first | rfl | simp)).mono ?_
  rintro e w6 ⟨v2, rfl, r2, o2, f2⟩
  obtain ⟨q, cap2, rfl, hc2, hq, d0, d1, d2, d3, d4, d5⟩ := row_get1 r2 o2
  have F5 := Lib.hid (((Fr.of_grown _ G5.out).trans (Fr.alloc (fun _ => False) w5 (.cells #[.int .i64 3, .bool false, .int .i64 1, .int .i64 0, .int .i64 0, .string ⟨#[]⟩, .int .i64 3, .bool false, .int .i64 0, .int .i64 0, .int .i64 0, .string ⟨#[]⟩] 25))).trans f2)
  have HT : Hid (w6.cell? ⟨g, 0, none⟩ = some (.int .i64 3) ∧ w6.cell? ⟨g, 1, none⟩ = some (.bool false) ∧ w6.cell? ⟨g, 2, none⟩ = some (.int .i64 (-3)) ∧ w6.cell? ⟨g, 3, none⟩ = some (.int .i64 0) ∧ w6.cell? ⟨g, 4, none⟩ = some (.int .i64 0) ∧ w6.cell? ⟨g, 5, none⟩ = some (.string ⟨#[]⟩) ∧ w6.cell? ⟨q, 0, none⟩ = some (.int .i64 4) ∧ w6.cell? ⟨q, 1, none⟩ = some (.bool false) ∧ w6.cell? ⟨q, 2, none⟩ = some (.int .i64 5898240) ∧ w6.cell? ⟨q, 3, none⟩ = some (.int .i64 0) ∧ w6.cell? ⟨q, 4, none⟩ = some (.int .i64 0) ∧ w6.cell? ⟨q, 5, none⟩ = some (.string ⟨#[]⟩) ∧ Fr (fun _ => False) W w6) := Lib.hid ⟨cell_fr0 c0 F5.out, cell_fr0 c1 F5.out, cell_fr0 c2 F5.out, cell_fr0 c3 F5.out, cell_fr0 c4 F5.out, cell_fr0 c5 F5.out, d0, d1, d2, d3, d4, d5, F3.out.trans F5.out⟩
  clear r2 o2 f2 R2 G5 F3 F5 c0 c1 c2 c3 c4 c5 d0 d1 d2 d3 d4 d5
  have L1 := Lib.hid (fun Z (h : Z.cell? ⟨g, 0, none⟩ = some (.int .i64 3) ∧ Z.cell? ⟨g, 1, none⟩ = some (.bool false) ∧ Z.cell? ⟨g, 2, none⟩ = some (.int .i64 (-3)) ∧ Z.cell? ⟨g, 3, none⟩ = some (.int .i64 0) ∧ Z.cell? ⟨g, 4, none⟩ = some (.int .i64 0) ∧ Z.cell? ⟨g, 5, none⟩ = some (.string ⟨#[]⟩) ∧ Z.cell? ⟨q, 0, none⟩ = some (.int .i64 4) ∧ Z.cell? ⟨q, 1, none⟩ = some (.bool false) ∧ Z.cell? ⟨q, 2, none⟩ = some (.int .i64 5898240) ∧ Z.cell? ⟨q, 3, none⟩ = some (.int .i64 0) ∧ Z.cell? ⟨q, 4, none⟩ = some (.int .i64 0) ∧ Z.cell? ⟨q, 5, none⟩ = some (.string ⟨#[]⟩) ∧ Fr (fun _ => False) W Z) => (N.out (-3) Z).mono fun en w' hh => (by obtain ⟨t0, t1, t2, t3, t4, t5, t6, t7, t8, t9, t10, t11, tf⟩ := h; exact ⟨hh.1, grown_cell hh.2 t0, grown_cell hh.2 t1, grown_cell hh.2 t2, grown_cell hh.2 t3, grown_cell hh.2 t4, grown_cell hh.2 t5, grown_cell hh.2 t6, grown_cell hh.2 t7, grown_cell hh.2 t8, grown_cell hh.2 t9, grown_cell hh.2 t10, grown_cell hh.2 t11, tf.trans (Fr.of_grown _ hh.2)⟩ : en = .returned (Pl.ov (Pl.intO (-3))) ∧ (w'.cell? ⟨g, 0, none⟩ = some (.int .i64 3) ∧ w'.cell? ⟨g, 1, none⟩ = some (.bool false) ∧ w'.cell? ⟨g, 2, none⟩ = some (.int .i64 (-3)) ∧ w'.cell? ⟨g, 3, none⟩ = some (.int .i64 0) ∧ w'.cell? ⟨g, 4, none⟩ = some (.int .i64 0) ∧ w'.cell? ⟨g, 5, none⟩ = some (.string ⟨#[]⟩) ∧ w'.cell? ⟨q, 0, none⟩ = some (.int .i64 4) ∧ w'.cell? ⟨q, 1, none⟩ = some (.bool false) ∧ w'.cell? ⟨q, 2, none⟩ = some (.int .i64 5898240) ∧ w'.cell? ⟨q, 3, none⟩ = some (.int .i64 0) ∧ w'.cell? ⟨q, 4, none⟩ = some (.int .i64 0) ∧ w'.cell? ⟨q, 5, none⟩ = some (.string ⟨#[]⟩) ∧ Fr (fun _ => False) W w')))
  have L2 := Lib.hid (fun Z (h : Z.cell? ⟨g, 0, none⟩ = some (.int .i64 3) ∧ Z.cell? ⟨g, 1, none⟩ = some (.bool false) ∧ Z.cell? ⟨g, 2, none⟩ = some (.int .i64 (-3)) ∧ Z.cell? ⟨g, 3, none⟩ = some (.int .i64 0) ∧ Z.cell? ⟨g, 4, none⟩ = some (.int .i64 0) ∧ Z.cell? ⟨g, 5, none⟩ = some (.string ⟨#[]⟩) ∧ Z.cell? ⟨q, 0, none⟩ = some (.int .i64 4) ∧ Z.cell? ⟨q, 1, none⟩ = some (.bool false) ∧ Z.cell? ⟨q, 2, none⟩ = some (.int .i64 5898240) ∧ Z.cell? ⟨q, 3, none⟩ = some (.int .i64 0) ∧ Z.cell? ⟨q, 4, none⟩ = some (.int .i64 0) ∧ Z.cell? ⟨q, 5, none⟩ = some (.string ⟨#[]⟩) ∧ Fr (fun _ => False) W Z) => (FX.out 5898240 Z).mono fun en w' hh => (by obtain ⟨t0, t1, t2, t3, t4, t5, t6, t7, t8, t9, t10, t11, tf⟩ := h; exact ⟨hh.1, grown_cell hh.2 t0, grown_cell hh.2 t1, grown_cell hh.2 t2, grown_cell hh.2 t3, grown_cell hh.2 t4, grown_cell hh.2 t5, grown_cell hh.2 t6, grown_cell hh.2 t7, grown_cell hh.2 t8, grown_cell hh.2 t9, grown_cell hh.2 t10, grown_cell hh.2 t11, tf.trans (Fr.of_grown _ hh.2)⟩ : en = .returned (Pl.ov (Pl.fixO 5898240)) ∧ (w'.cell? ⟨g, 0, none⟩ = some (.int .i64 3) ∧ w'.cell? ⟨g, 1, none⟩ = some (.bool false) ∧ w'.cell? ⟨g, 2, none⟩ = some (.int .i64 (-3)) ∧ w'.cell? ⟨g, 3, none⟩ = some (.int .i64 0) ∧ w'.cell? ⟨g, 4, none⟩ = some (.int .i64 0) ∧ w'.cell? ⟨g, 5, none⟩ = some (.string ⟨#[]⟩) ∧ w'.cell? ⟨q, 0, none⟩ = some (.int .i64 4) ∧ w'.cell? ⟨q, 1, none⟩ = some (.bool false) ∧ w'.cell? ⟨q, 2, none⟩ = some (.int .i64 5898240) ∧ w'.cell? ⟨q, 3, none⟩ = some (.int .i64 0) ∧ w'.cell? ⟨q, 4, none⟩ = some (.int .i64 0) ∧ w'.cell? ⟨q, 5, none⟩ = some (.string ⟨#[]⟩) ∧ Fr (fun _ => False) W w')))
  clear N FX
  unfold Pl.intO at L1
  unfold Pl.fixO at L2
  go_wp2_with fail
  go_region_held3 (fun Z => Z.cell? ⟨g, 0, none⟩ = some (.int .i64 3) ∧ Z.cell? ⟨g, 1, none⟩ = some (.bool false) ∧ Z.cell? ⟨g, 2, none⟩ = some (.int .i64 (-3)) ∧ Z.cell? ⟨g, 3, none⟩ = some (.int .i64 0) ∧ Z.cell? ⟨g, 4, none⟩ = some (.int .i64 0) ∧ Z.cell? ⟨g, 5, none⟩ = some (.string ⟨#[]⟩) ∧ Z.cell? ⟨q, 0, none⟩ = some (.int .i64 4) ∧ Z.cell? ⟨q, 1, none⟩ = some (.bool false) ∧ Z.cell? ⟨q, 2, none⟩ = some (.int .i64 5898240) ∧ Z.cell? ⟨q, 3, none⟩ = some (.int .i64 0) ∧ Z.cell? ⟨q, 4, none⟩ = some (.int .i64 0) ∧ Z.cell? ⟨q, 5, none⟩ = some (.string ⟨#[]⟩) ∧ Fr (fun _ => False) W Z)
    (first | assumption | exact HT.out)
    (first
      | (go_at_call 14; first | (with_reducible refine Calls.mono (L1.out _ ?_) ?_; (assumption); rintro e w' ⟨rfl, hS⟩))
      | (go_at_call 15; first | (with_reducible refine Calls.mono (L2.out _ ?_) ?_; (assumption); rintro e w' ⟨rfl, hS⟩)))
  all_goals
    have HX := Lib.hid hS
    clear hS
    go_wp2_with fail
    go_ret
    exact ⟨rfl, HX.out.2.2.2.2.2.2.2.2.2.2.2.2⟩
end Go.Proofs.YtfmmomdmemcbbaaGreat
namespace Go.Proofs.YtfmmomdmemcbbaaGreat
set_option linter.unusedVariables false
open Go.RowKit
@[irreducible] def wpQ (P : Program) (ops : Array Oper) (C : World → Prop) (Q : Act → Prop) (l : List Oper) (a : Act) : Prop := wpQuiet P ops C Q l a
@[irreducible] def qAt (P : Program) (o : Oper) (a : Act) (C : World → Prop) (w : World) (v : Value) : Prop := o.quietAt P a C w v
theorem wp_region_class {P : Program} {C : World → Prop} {id : Nat} {Q : Exit → Act → World → Prop} {a : Act} {w : World} {l : List Oper} (hm : P.follows .mixedOrders = true) (hB : Region.lexB .any l.toArray = true) (hC : C w.drew)
    (h : wpQ P l.toArray C (fun a' => ∀ w', C w' → Q .normal a' w') l a) : (Code.region id l.toArray true).wp P Q a w :=
  wp_region_quiet (C := C) hm hB hC (by unfold wpQ at h; simpa using h)
theorem quiet_yes {P : Program} {ops : Array Oper} {C : World → Prop} {Q : Act → Prop} {a : Act} {o : Oper} {rest : List Oper} (v : Value) (hw : Region.wanted o (yielded ops a.tmps) = true) (h : ∀ w, C w → qAt P o a C w v)
    (k : wpQ P ops C Q rest (a.put o.dst v)) : wpQ P ops C Q (o :: rest) a := by
  unfold wpQ at k ⊢
  unfold qAt at h
  unfold wpQuiet
  rw [if_pos hw]
  exact ⟨v, h, k⟩
theorem quiet_no {P : Program} {ops : Array Oper} {C : World → Prop} {Q : Act → Prop} {a : Act} {o : Oper} {rest : List Oper} (hw : Region.wanted o (yielded ops a.tmps) = false)
    (k : wpQ P ops C Q rest (a.put o.dst undef)) : wpQ P ops C Q (o :: rest) a := by
  unfold wpQ at k ⊢
  unfold wpQuiet
  rw [if_neg (by rw [hw]; exact Bool.false_ne_true)]
  exact k
theorem quiet_nil {P : Program} {ops : Array Oper} {C : World → Prop} {Q : Act → Prop} {a : Act} (h : Q a) : wpQ P ops C Q [] a := by
  unfold wpQ
  exact wpQuiet_nil h
def Cells (w : World) : List (Addr × Value) → World → Prop
  | [], Z => Fr (fun _ => False) w Z
  | c :: R, Z => Z.cell? c.1 = some c.2 ∧ Cells w R Z
theorem Cells.fr {w Z Z' : World} (k : Fr (fun _ => False) Z Z') : ∀ {R : List (Addr × Value)}, Cells w R Z → Cells w R Z'
  | [], h => Fr.trans h k
  | c :: R, h => ⟨(k.cell (a := c.1) (block_lt_of_cell h.1) (fun f => f)).trans h.1, Cells.fr k h.2⟩
theorem Cells.frame {w Z : World} : ∀ {R : List (Addr × Value)}, Cells w R Z → Fr (fun _ => False) w Z
  | [], h => h
  | c :: R, h => Cells.frame h.2
end Go.Proofs.YtfmmomdmemcbbaaGreat
namespace Go.Proofs.YtfmmomdmemcbbaaGreat
set_option linter.unusedVariables false
open Go.RowKit
theorem append_obs {ops : Array Oper} {rest : List Oper} {o : Oper} {a : Act} {Q : Exit → Act → World → Prop} (w : World) (base : Nat) (v : Value) (L M : List Pl.Ob) (hown : w.ownsRow base 25 6 v L.length (Pl.flat L))
    (ao : Option Addr) (m c : Nat) (hm : m = M.length) (hR : RowV w (.slice ao m c) M) (hlen : L.length + M.length ≤ 1000) (hbase : base ≤ w.heap.size)
    (hw : Region.wanted o (yielded ops a.tmps) = true) (s x : Operand) (ho : o.op = .call { callee := .builtin .append, args := #[s, x], argTypes := #[22, 22] })
    (hs : a.eval s = v) (hx : a.eval x = .slice ao m c)
    (h : ∀ v' w', w'.ownsRow base 25 6 v' (L ++ M).length (Pl.flat (L ++ M)) → Fr (fun k => v.ownBlock = some k) w w' → wpList Tryz.prog ops Q rest (a.put o.dst v') w') : wpList Tryz.prog ops Q (o :: rest) a w := by
  subst hm
  obtain ⟨i0, hi, hz0, hz1, hz2⟩ := info_parts Tryz.objInfo
  have hsrc := hR.src
  refine BigFrame.wpList_want hw fun K hK => wp_append_all w base 22 25 i0 _ 6 56 Tryz.underlying22 hi hz0 hz1 hz2 rfl (by decide) v L.length (Pl.flat L) hown ao M.length c (Pl.flat M) hsrc.1 (Pl.flat_len M) hsrc.2 (Pl.flat_one M) (by unfold maxLen; omega) (by omega) hbase s x ho hs hx fun v' w' h2 h3 h4 => hK _ _ (h v' w' ?_ (Fr.grown _ h3 (fun k q => q)))
  rw [List.length_append, Pl.flat_append]
  exact h2
end Go.Proofs.YtfmmomdmemcbbaaGreat
namespace Go.Proofs.YtfmmomdmemcbbaaGreat
set_option linter.unusedVariables false
open Go.RowKit
theorem r3may_any (v : Int) (m : Bool) (hm : m = true ↔ (-1073741823 ≤ v ∧ v ≤ 1073741823)) (W : World) :
    Calls Tryz.prog 117 #[.int .i64 v] W fun e w' => e = Ending.returned (.bool m) ∧ W = w' := by
  go_enter Tryz.func117, Tryz.ntmps117
  go_wp2
  all_goals
    go_ret
    refine ⟨ret_bool ?_, rfl⟩
    first | exact (hm.2 (by refine ⟨?_, ?_⟩ <;> omega)).symm | (symm; rw [Bool.eq_iff_iff, hm, decide_eq_true_eq]; omega) | (symm; rw [Bool.eq_false_iff]; intro h; have h := hm.1 h; omega)
theorem r3held_ok (v : Int) (h : -1073741823 ≤ v ∧ v ≤ 1073741823) (W : World) :
    Calls Tryz.prog 119 #[.int .i64 v, .bool true] W fun e w' => e = Ending.returned (.tuple #[.int .i64 v, .bool true]) ∧ W = w' := by
  go_enter Tryz.func119, Tryz.ntmps119
  go_wp2_with fail
  refine (r3may_any v true ⟨fun _ => h, fun _ => rfl⟩ _).mono ?_
  rintro e w1 ⟨rfl, rfl⟩
  go_wp2
  go_ret2
  exact ⟨rfl, rfl⟩
theorem r3held_no (v : Int) (h : ¬ (-1073741823 ≤ v ∧ v ≤ 1073741823)) (W : World) :
    Calls Tryz.prog 119 #[.int .i64 v, .bool true] W fun e w' => e = Ending.returned (.tuple #[.int .i64 0, .bool false]) ∧ W = w' := by
  go_enter Tryz.func119, Tryz.ntmps119
  go_wp2_with fail
  refine (r3may_any v false ⟨fun h => absurd h (by decide), fun h' => absurd h' h⟩ _).mono ?_
  rintro e w1 ⟨rfl, rfl⟩
  go_wp2
  go_ret2
  exact ⟨rfl, rfl⟩
theorem r3from_ok (v : Int) (h : -16383 ≤ v ∧ v ≤ 16383) (W : World) :
    Calls Tryz.prog 118 #[.int .i64 v] W fun e w' => e = Ending.returned (.tuple #[.int .i64 (v * 65536), .bool true]) ∧ W = w' := by
  obtain ⟨h1, h2⟩ := h
  have H := Lib.hid (r3held_ok (v * 65536) ⟨by omega, by omega⟩)
  go_enter Tryz.func118, Tryz.ntmps118
  go_wp2_with fail
  refine (r3may_any v true ⟨fun _ => ⟨by omega, by omega⟩, fun _ => rfl⟩ _).mono ?_
  rintro e w1 ⟨rfl, rfl⟩
  go_wp2_with fail
  refine (H.out _).mono ?_
  rintro e w1 ⟨rfl, rfl⟩
  go_wp2
  go_ret2
  exact ⟨rfl, rfl⟩
theorem r3from_no (v : Int) (h : ¬ (-16383 ≤ v ∧ v ≤ 16383)) (W : World) :
    Calls Tryz.prog 118 #[.int .i64 v] W fun e w' => e = Ending.returned (.tuple #[.int .i64 0, .bool false]) ∧ W = w' := by
  by_cases hv : -1073741823 ≤ v ∧ v ≤ 1073741823
  · have H := Lib.hid (r3held_no (v * 65536) (by omega))
    obtain ⟨h1, h2⟩ := hv
    clear h
    go_enter Tryz.func118, Tryz.ntmps118
    go_wp2_with fail
    refine (r3may_any v true ⟨fun _ => ⟨by omega, by omega⟩, fun _ => rfl⟩ _).mono ?_
    rintro e w1 ⟨rfl, rfl⟩
    go_wp2_with fail
    refine (H.out _).mono ?_
    rintro e w1 ⟨rfl, rfl⟩
    go_wp2
    go_ret2
    exact ⟨rfl, rfl⟩
  · have H := Lib.hid hv
    clear hv h
    go_enter Tryz.func118, Tryz.ntmps118
    go_wp2_with fail
    refine (r3may_any v false ⟨fun h => absurd h (by decide), fun h' => absurd h' H.out⟩ _).mono ?_
    rintro e w1 ⟨rfl, rfl⟩
    go_wp2
    go_ret2
    exact ⟨rfl, rfl⟩
theorem rnumber_34 (k : Int) (hk : k = 3 ∨ k = 4) (x : Bool) (n a l : Int) (s : ByteArray) (m : Bool) (hm : m = true ↔ Pl.may k n a l s) (W : World) :
    Calls Tryz.prog 129 #[obv k x n a l s] W fun e w' => e = Ending.returned (.bool m) ∧ Grown W w' := by
  have H := Lib.hid (fun W => rmay_any k x n a l s m hm W)
  clear hm
  rcases hk with rfl | rfl
  all_goals
    go_enter Tryz.func129, Tryz.ntmps129
    go_wp2_with fail
    refine (H.out _).mono ?_
    rintro e w1 ⟨rfl, g1⟩
    go_wp2
    go_ret
    exact ⟨rfl, grown_trans (by (repeat (first | exact Grown.refl _ | assumption | apply Grown.drew | apply Grown.alloc | (refine Grown.setCell ?_ (by simp) _) | (refine Grown.setCell ?_ (by omega) _)))) g1⟩
theorem rnumber_else (k : Int) (k3 : (k == 3) = false) (k4 : (k == 4) = false) (x : Bool) (n a l : Int) (s : ByteArray) (W : World) :
    Calls Tryz.prog 129 #[obv k x n a l s] W fun e w' => e = Ending.returned (.bool false) ∧ Grown W w' := by
  go_enter Tryz.func129, Tryz.ntmps129
  go_wp2
  go_ret
  exact ⟨rfl, (by (repeat (first | exact Grown.refl _ | assumption | apply Grown.drew | apply Grown.alloc | (refine Grown.setCell ?_ (by simp) _) | (refine Grown.setCell ?_ (by omega) _))))⟩
theorem rnumber_any (k : Int) (x : Bool) (n a l : Int) (s : ByteArray) (m : Bool) (hm : m = true ↔ Pl.num k n a l s) (W : World) :
    Calls Tryz.prog 129 #[obv k x n a l s] W fun e w' => e = Ending.returned (.bool m) ∧ Grown W w' := by
  by_cases hk : k = 3 ∨ k = 4
  · exact rnumber_34 k hk x n a l s m (hm.trans ⟨fun h => Pl.num_may h, fun h => Pl.may_num h hk⟩) W
  · obtain rfl : m = false := Bool.eq_false_iff.2 fun h => hk (by have := (hm.1 h).1; unfold Pl.isn at this; omega)
    exact rnumber_else k (Pl.nek fun e => hk (.inl e)) (Pl.nek fun e => hk (.inr e)) x n a l s W
theorem rsize_num (k : Int) (x : Bool) (n a l : Int) (s : ByteArray) (h : Pl.isn k n) (W : World) :
    Calls Tryz.prog 130 #[obv k x n a l s] W fun e w' => e = Ending.returned (.int .i64 (Pl.sz k n)) ∧ Grown W w' := by
  unfold Pl.isn at h
  rcases h with ⟨rfl, h1, h2⟩ | ⟨rfl, h1, h2⟩
  all_goals
    go_enter Tryz.func130, Tryz.ntmps130
    go_wp2
    go_ret
    exact ⟨by simp [Pl.sz], (by (repeat (first | exact Grown.refl _ | assumption | apply Grown.drew | apply Grown.alloc | (refine Grown.setCell ?_ (by simp) _) | (refine Grown.setCell ?_ (by omega) _))))⟩
theorem rnum_3 (x : Bool) (n a l : Int) (s : ByteArray) (v : Int) (ok : Bool) (H : Hid (∀ W, Calls Tryz.prog 118 #[.int .i64 n] W fun e w' => e = Ending.returned (.tuple #[.int .i64 v, .bool ok]) ∧ W = w')) (W : World) :
    Calls Tryz.prog 90 #[obv 3 x n a l s] W fun e w' => e = Ending.returned (.tuple #[.int .i64 v, .bool ok]) ∧ Grown W w' := by
  go_enter Tryz.func90, Tryz.ntmps90
  go_wp2_with fail
  refine (H.out _).mono ?_
  rintro e w1 ⟨rfl, rfl⟩
  go_wp2
  go_ret2
  exact ⟨rfl, (by (repeat (first | exact Grown.refl _ | assumption | apply Grown.drew | apply Grown.alloc | (refine Grown.setCell ?_ (by simp) _) | (refine Grown.setCell ?_ (by omega) _))))⟩
theorem rnum_4 (x : Bool) (n a l : Int) (s : ByteArray) (h : -1073741823 ≤ n ∧ n ≤ 1073741823) (W : World) :
    Calls Tryz.prog 90 #[obv 4 x n a l s] W fun e w' => e = Ending.returned (.tuple #[.int .i64 n, .bool true]) ∧ Grown W w' := by
  go_enter Tryz.func90, Tryz.ntmps90
  go_wp2_with fail
  refine (r3may_any n true ⟨fun _ => h, fun _ => rfl⟩ _).mono ?_
  rintro e w1 ⟨rfl, rfl⟩
  go_wp2
  go_ret2
  exact ⟨rfl, (by (repeat (first | exact Grown.refl _ | assumption | apply Grown.drew | apply Grown.alloc | (refine Grown.setCell ?_ (by simp) _) | (refine Grown.setCell ?_ (by omega) _))))⟩
end Go.Proofs.YtfmmomdmemcbbaaGreat
namespace Go.Proofs.YtfmmomdmemcbbaaGreat
set_option linter.unusedVariables false
open Go.RowKit
abbrev ObT (w : World) (A B : Nat) (k : Int) (x : Bool) (n a l : Int) (s : ByteArray) (k' : Int) (x' : Bool) (n' a' l' : Int) (s' : ByteArray) (W : World) : Prop :=
  W.cell? ⟨A, 0, none⟩ = some (.int .i64 k) ∧ W.cell? ⟨A, 1, none⟩ = some (.bool x) ∧ W.cell? ⟨A, 2, none⟩ = some (.int .i64 n) ∧ W.cell? ⟨A, 3, none⟩ = some (.int .i64 a) ∧ W.cell? ⟨A, 4, none⟩ = some (.int .i64 l) ∧ W.cell? ⟨A, 5, none⟩ = some (.string s) ∧ W.cell? ⟨B, 0, none⟩ = some (.int .i64 k') ∧ W.cell? ⟨B, 1, none⟩ = some (.bool x') ∧ W.cell? ⟨B, 2, none⟩ = some (.int .i64 n') ∧ W.cell? ⟨B, 3, none⟩ = some (.int .i64 a') ∧ W.cell? ⟨B, 4, none⟩ = some (.int .i64 l') ∧ W.cell? ⟨B, 5, none⟩ = some (.string s') ∧ Grown w W
theorem ObT.grow {w W W' : World} {A B : Nat} {k : Int} {x : Bool} {n a l : Int} {s : ByteArray} {k' : Int} {x' : Bool} {n' a' l' : Int} {s' : ByteArray} (h : ObT w A B k x n a l s k' x' n' a' l' s' W) (hg : Grown W W') : ObT w A B k x n a l s k' x' n' a' l' s' W' :=
  ⟨grown_cell hg h.1, grown_cell hg h.2.1, grown_cell hg h.2.2.1, grown_cell hg h.2.2.2.1, grown_cell hg h.2.2.2.2.1, grown_cell hg h.2.2.2.2.2.1, grown_cell hg h.2.2.2.2.2.2.1, grown_cell hg h.2.2.2.2.2.2.2.1, grown_cell hg h.2.2.2.2.2.2.2.2.1, grown_cell hg h.2.2.2.2.2.2.2.2.2.1, grown_cell hg h.2.2.2.2.2.2.2.2.2.2.1, grown_cell hg h.2.2.2.2.2.2.2.2.2.2.2.1, grown_trans h.2.2.2.2.2.2.2.2.2.2.2.2 hg⟩
theorem rless_both (k : Int) (x : Bool) (n a l : Int) (s : ByteArray) (k' : Int) (x' : Bool) (n' a' l' : Int) (s' : ByteArray) (z z' : Int)
    (NA : Hid (∀ W, Calls Tryz.prog 129 #[obv k x n a l s] W fun e w' => e = Ending.returned (.bool true) ∧ Grown W w'))
    (NB : Hid (∀ W, Calls Tryz.prog 129 #[obv k' x' n' a' l' s'] W fun e w' => e = Ending.returned (.bool true) ∧ Grown W w'))
    (ZA : Hid (∀ W, Calls Tryz.prog 130 #[obv k x n a l s] W fun e w' => e = Ending.returned (.int .i64 z) ∧ Grown W w')) (ZB : Hid (∀ W, Calls Tryz.prog 130 #[obv k' x' n' a' l' s'] W fun e w' => e = Ending.returned (.int .i64 z') ∧ Grown W w'))
    (w : World) :
    Calls Tryz.prog 105 #[obv k x n a l s, obv k' x' n' a' l' s'] w fun e w' => e = Ending.returned (.tuple #[.bool (decide (z < z')), .bool true]) ∧ Grown w w' := by
  go_enter Tryz.func105, Tryz.ntmps105
  go_wp2_with fail
  refine (NA.out _).mono ?_
  rintro e w1 ⟨rfl, g1⟩
  have hA : ObS w w.heap.size k x n a l s w1 := ObS.grow (by exact ⟨by simp [go_sem], by simp [go_sem], by simp [go_sem], by simp [go_sem], by simp [go_sem], by simp [go_sem], by (repeat (first | exact Grown.refl _ | assumption | apply Grown.drew | apply Grown.alloc))⟩) g1
  have hB : ObS w (w.heap.size + 1) k' x' n' a' l' s' w1 := ObS.grow (by exact ⟨by simp [go_sem], by simp [go_sem], by simp [go_sem], by simp [go_sem], by simp [go_sem], by simp [go_sem], by (repeat (first | exact Grown.refl _ | assumption | apply Grown.drew | apply Grown.alloc))⟩) g1
  clear g1
  obtain ⟨a0, a1, a2, a3, a4, a5, ga⟩ := id hA
  obtain ⟨b0, b1, b2, b3, b4, b5, gb⟩ := id hB
  go_wp2_with fail
  refine (NB.out _).mono ?_
  rintro e w2 ⟨rfl, g2⟩
  have hA2 := hA.grow (grown_trans (by (repeat (first | exact Grown.refl _ | apply Grown.drew | apply Grown.alloc))) g2)
  have hB2 := hB.grow (grown_trans (by (repeat (first | exact Grown.refl _ | apply Grown.drew | apply Grown.alloc))) g2)
  clear a0 a1 a2 a3 a4 a5 ga b0 b1 b2 b3 b4 b5 gb hA hB
  obtain ⟨a0, a1, a2, a3, a4, a5, ga⟩ := id hA2
  obtain ⟨b0, b1, b2, b3, b4, b5, gb⟩ := id hB2
  clear g2
  go_wp2_with fail
  have X : ObT w w.heap.size (w.heap.size + 1) k x n a l s k' x' n' a' l' s' w2 := ⟨a0, a1, a2, a3, a4, a5, b0, b1, b2, b3, b4, b5, ga⟩
  have DA := Lib.hid (fun W (h : ObT w w.heap.size (w.heap.size + 1) k x n a l s k' x' n' a' l' s' W) => (ZA.out W).mono fun e W' ⟨he, hg⟩ => (⟨he, h.grow hg⟩ : e = Ending.returned (.int .i64 z) ∧ ObT w w.heap.size (w.heap.size + 1) k x n a l s k' x' n' a' l' s' W'))
  have DB := Lib.hid (fun W (h : ObT w w.heap.size (w.heap.size + 1) k x n a l s k' x' n' a' l' s' W) => (ZB.out W).mono fun e W' ⟨he, hg⟩ => (⟨he, h.grow hg⟩ : e = Ending.returned (.int .i64 z') ∧ ObT w w.heap.size (w.heap.size + 1) k x n a l s k' x' n' a' l' s' W'))
  clear a0 a1 a2 a3 a4 a5 b0 b1 b2 b3 b4 b5 ga gb hA2 hB2
  go_region_held3 (fun W => W.cell? ⟨w.heap.size, 0, none⟩ = some (.int .i64 k) ∧ W.cell? ⟨w.heap.size, 1, none⟩ = some (.bool x) ∧ W.cell? ⟨w.heap.size, 2, none⟩ = some (.int .i64 n) ∧ W.cell? ⟨w.heap.size, 3, none⟩ = some (.int .i64 a) ∧ W.cell? ⟨w.heap.size, 4, none⟩ = some (.int .i64 l) ∧ W.cell? ⟨w.heap.size, 5, none⟩ = some (.string s) ∧ W.cell? ⟨(w.heap.size + 1), 0, none⟩ = some (.int .i64 k') ∧ W.cell? ⟨(w.heap.size + 1), 1, none⟩ = some (.bool x') ∧ W.cell? ⟨(w.heap.size + 1), 2, none⟩ = some (.int .i64 n') ∧ W.cell? ⟨(w.heap.size + 1), 3, none⟩ = some (.int .i64 a') ∧ W.cell? ⟨(w.heap.size + 1), 4, none⟩ = some (.int .i64 l') ∧ W.cell? ⟨(w.heap.size + 1), 5, none⟩ = some (.string s') ∧ Grown w W)
    (first | assumption)
    (first | (go_at_call 130; with_reducible refine (DA.out _ ?_).mono ?_; (assumption); rintro e w' ⟨rfl, hS⟩) | (go_at_call 130; with_reducible refine (DB.out _ ?_).mono ?_; (assumption); rintro e w' ⟨rfl, hS⟩))
  all_goals
    rename_i hSw
    go_wp2_with fail
    go_ret2
    exact ⟨rfl, hSw.2.2.2.2.2.2.2.2.2.2.2.2⟩
end Go.Proofs.YtfmmomdmemcbbaaGreat
namespace Go.Proofs.YtfmmomdmemcbbaaGreat
set_option linter.unusedVariables false
open Go.RowKit
end Go.Proofs.YtfmmomdmemcbbaaGreat
namespace Go.Proofs.YtfmmomdmemcbbaaGreat
set_option linter.unusedVariables false
open Go.RowKit
end Go.Proofs.YtfmmomdmemcbbaaGreat
namespace Go.Proofs.YtfmmomdmemcbbaaGreat
set_option linter.unusedVariables false
open Go.RowKit
end Go.Proofs.YtfmmomdmemcbbaaGreat
namespace Go.Proofs.YtfmmomdmemcbbaaGreat
set_option linter.unusedVariables false
open Go.RowKit
end Go.Proofs.YtfmmomdmemcbbaaGreat
namespace Go.Proofs.YtfmmomdmemcbbaaGreat
set_option linter.unusedVariables false
open Go.RowKit
end Go.Proofs.YtfmmomdmemcbbaaGreat
namespace Go.Proofs.YtfmmomdmemcbbaaGreat
set_option linter.unusedVariables false
open Go.RowKit
end Go.Proofs.YtfmmomdmemcbbaaGreat
namespace Go.Proofs.YtfmmomdmemcbbaaGreat
set_option linter.unusedVariables false
open Go.RowKit
theorem refCat_is : Pl.refCat Tryz.f60 6 = (Pl.yields (rangedText Tryz.f33)).map (fun y => Value.string ((rangedText Tryz.f33).extract y.2.2.1 y.2.2.2)) := by kernel_rfl
theorem fams_are : (Pl.yields (rangedText Tryz.f33)).map (fun y => y.2.1) = List.replicate 38 1 ++ List.replicate 20 2 ++ List.replicate 13 3 ++ List.replicate 9 4 ++ List.replicate 21 5 ++ List.replicate 61 6 := by decide +kernel
def Pl.OpT3 (T : ByteArray) : Prop := Pl.OpT2 T ∧ Pl.refCat Tryz.f60 6 = (Pl.yields T).map (fun y => Value.string (T.extract y.2.2.1 y.2.2.2)) ∧
  (Pl.yields T).map (fun y => y.2.1) = List.replicate 38 1 ++ List.replicate 20 2 ++ List.replicate 13 3 ++ List.replicate 9 4 ++ List.replicate 21 5 ++ List.replicate 61 6
theorem Pl.opT3_is : Pl.OpT3 (rangedText Tryz.f33) := ⟨Pl.opT2_is, refCat_is, fams_are⟩
theorem refall_any (T : ByteArray) (hT : Pl.OpT3 T) (w : World) : Calls Tryz.prog 68 #[] w fun e w' => ∃ g cap, e = .returned (.slice (some ⟨g, 0, none⟩) 162 cap) ∧
    (∀ j : Nat, j < 162 → w'.cell? ⟨g, j, none⟩ = some (.string (Pl.opWord T ((j : Int) + 1)))) ∧ Kept w w' := by
  have hl := hT.1.1.2.2.1
  refine (refall_own w).mono ?_
  rintro e w1 ⟨v, rfl, hown, hK⟩
  rcases hown.2 with ⟨_, h⟩ | ⟨g, cap, cur, rfl, _, _, _, _, _, _⟩
  · omega
  · refine ⟨g, cap, rfl, fun j hj => ?_, hK⟩
    rw [hown.cellAt j (by omega), hT.2.1]
    unfold Pl.opWord
    rw [Pl.opAt_some hl _ (by omega) (by omega)]
    simp [List.getElem?_map, List.getElem?_eq_getElem (show j < (Pl.yields T).length by omega)]
theorem refname_any (T : ByteArray) (hT : Pl.OpT3 T) (N : Int) (w : World) : Calls Tryz.prog 28 #[.int .i64 N] w fun e w' => e = .returned (.string (Pl.opWord T N)) ∧ Kept w w' := by
  have A := Lib.hid (fun w => refall_any T hT w)
  by_cases h : N < 1 ∨ 162 < N
  · rw [(Pl.word_out hT.1.1 N h).1]
    clear hT
    rcases h with h | h
    · go_enter Tryz.func28, Tryz.ntmps28
      go_wp2_with fail
      refine (A.out _).mono ?_
      rintro e w1 ⟨g, cap, rfl, hc, hK⟩
      have hc := Lib.hid hc
      go_wp2_with fail
      go_ret
      exact ⟨rfl, hK⟩
    · have h1 : 1 ≤ N := by omega
      go_enter Tryz.func28, Tryz.ntmps28
      go_wp2_with fail
      refine (A.out _).mono ?_
      rintro e w1 ⟨g, cap, rfl, hc, hK⟩
      have hc := Lib.hid hc
      go_wp2_with fail
      go_ret
      exact ⟨rfl, hK⟩
  · obtain ⟨m, rfl⟩ : ∃ m : Nat, N = (m : Int) + 1 := ⟨(N - 1).toNat, by omega⟩
    have hm : m < 162 := by omega
    clear hT h
    obtain ⟨X, hX⟩ : ∃ X, Pl.opWord T ((m : Int) + 1) = X := ⟨_, rfl⟩
    rw [hX]
    have e1 : (m : Int) + 1 - 1 = m := by omega
    go_enter Tryz.func28, Tryz.ntmps28
    go_wp2_with fail
    refine (A.out _).mono ?_
    rintro e w1 ⟨g, cap, rfl, hc, hK⟩
    have hcm := hc m hm
    rw [hX] at hcm
    have hc := Lib.hid hc
    have hX := Lib.hid hX
    go_wp2_with fail
    go_ret
    exact ⟨rfl, hK⟩
theorem Pl.fam_is {T : ByteArray} (hT : Pl.OpT3 T) (N : Int) : Pl.opFam T N = if N < 1 then 0 else if N ≤ 38 then 1 else if N ≤ 58 then 2 else if N ≤ 71 then 3 else if N ≤ 80 then 4 else if N ≤ 101 then 5 else if N ≤ 162 then 6 else 0 := by
  have hl := hT.1.1.2.2.1
  by_cases h : N < 1 ∨ 162 < N
  · rw [(Pl.word_out hT.1.1 N h).2]
    (repeat' split) <;> omega
  · have hg : ((Pl.yields T).map (fun y => y.2.1))[(N - 1).toNat]? = some ((Pl.yields T)[(N - 1).toNat]'(by omega)).2.1 := by
      rw [List.getElem?_map, List.getElem?_eq_getElem (by omega)]; rfl
    rw [hT.2.2] at hg
    unfold Pl.opFam
    rw [Pl.opAt_some hl N (by omega) (by omega)]
    show (((Pl.yields T)[(N - 1).toNat]).2.1 : Int) = _
    generalize ((Pl.yields T)[(N - 1).toNat]).2.1 = F at hg
    obtain ⟨m, hm⟩ : ∃ m, (N - 1).toNat = m := ⟨_, rfl⟩
    rw [hm] at hg
    simp only [List.getElem?_append, List.getElem?_replicate, List.length_append, List.length_replicate] at hg
    (repeat' split at hg) <;> (simp at hg) <;> subst hg <;> (repeat' split) <;> omega
theorem reffamily_any (T : ByteArray) (hT : Pl.OpT3 T) (N : Int) (hN : -9223372036854775808 ≤ N ∧ N ≤ 9223372036854775807) (w : World) : Calls Tryz.prog 26 #[.int .i64 N] w fun e w' => e = .returned (.int .i64 (Pl.opFam T N)) ∧ Kept w w' := by
  have FI := Lib.hid (Pl.fam_is hT N)
  clear hT
  by_cases h1 : N < 1
  · go_enter Tryz.func26, Tryz.ntmps26
    go_wp2_with fail
    go_ret
    exact ⟨ret_int (by rw [FI.out, if_pos (by assumption)]), Kept.refl _⟩
  obtain ⟨f, hf⟩ : ∃ f, Tryz.f60 = f := ⟨_, rfl⟩
  have C0 := fun w => refnames_1 w
  rw [hf] at C0
  have C0 := Lib.hid C0
  have C1 := fun w => refnames_2 w
  rw [hf] at C1
  have C1 := Lib.hid C1
  have C2 := fun w => refnames_3 w
  rw [hf] at C2
  have C2 := Lib.hid C2
  have C3 := fun w => refnames_4 w
  rw [hf] at C3
  have C3 := Lib.hid C3
  have C4 := fun w => refnames_5 w
  rw [hf] at C4
  have C4 := Lib.hid C4
  have C5 := fun w => refnames_6 w
  rw [hf] at C5
  have C5 := Lib.hid C5
  have hp : 1 ≤ N := by omega
  have hmax := hN.2
  clear h1 hf hN
  go_enter Tryz.func26, Tryz.ntmps26
  go_wp2_with fail
  go_loopw [0, 3] (fun n i wr => ∃ (k : Nat) (M : Int), k ≤ 6 ∧ i = .int .i64 ((k : Int) + 1) ∧ n = .int .i64 M ∧ 1 ≤ M ∧ M ≤ N ∧ Hid ((k = 0 ∧ N = M + 0) ∨ (k = 1 ∧ N = M + 38) ∨ (k = 2 ∧ N = M + 58) ∨ (k = 3 ∧ N = M + 71) ∨ (k = 4 ∧ N = M + 80) ∨ (k = 5 ∧ N = M + 101) ∨ (k = 6 ∧ N = M + 162)) ∧ Kept w wr) (fun _ i _ => (7 - intOf i).toNat)
  case atStart => exact ⟨0, N, by omega, rfl, rfl, hp, by omega, .inl ⟨rfl, by omega⟩, Kept.refl w⟩
  case round =>
    obtain ⟨k, M, hk, rfl, rfl, m1, m2, hkn, hK⟩ := hrel
    rcases hkn.out with ⟨rfl, hM⟩ | ⟨rfl, hM⟩ | ⟨rfl, hM⟩ | ⟨rfl, hM⟩ | ⟨rfl, hM⟩ | ⟨rfl, hM⟩ | ⟨rfl, hM⟩
    · clear hkn hk
      rw [show ((0 : Nat) : Int) + 1 = 1 from rfl]
      have HM := Lib.hid hM
      have mm : M ≤ 9223372036854775807 := by omega
      clear hM m2
      by_cases hle : M ≤ 38
      · go_wp2_with fail
        refine (C0.out _).mono ?_
        rintro e w1 ⟨rfl, rfl⟩
        have hK1 := hK.grown (World.grownBy_alloc _ (.cells (Pl.refA f 0) 9) none) (fun k h => by cases h)
        go_wp2_with fail
        go_ret
        exact ⟨ret_int (by have := HM.out; rw [FI.out]; (repeat' split) <;> omega), hK1⟩
      · go_wp2_with fail
        refine (C0.out _).mono ?_
        rintro e w1 ⟨rfl, rfl⟩
        have hK1 := hK.grown (World.grownBy_alloc _ (.cells (Pl.refA f 0) 9) none) (fun k h => by cases h)
        go_wp2_with fail
        go_roundw
        case rel => exact ⟨1, M - 38, by omega, rfl, rfl, by omega, by have := HM.out; omega, .inr (.inl ⟨rfl, by have := HM.out; omega⟩), hK1⟩
        case measure => simp [intOf]
    · clear hkn hk
      rw [show ((1 : Nat) : Int) + 1 = 2 from rfl]
      have HM := Lib.hid hM
      have mm : M ≤ 9223372036854775807 := by omega
      clear hM m2
      by_cases hle : M ≤ 20
      · go_wp2_with fail
        refine (C1.out _).mono ?_
        rintro e w1 ⟨rfl, rfl⟩
        have hK1 := hK.grown (World.grownBy_alloc _ (.cells (Pl.refA f 1) 9) none) (fun k h => by cases h)
        go_wp2_with fail
        go_ret
        exact ⟨ret_int (by have := HM.out; rw [FI.out]; (repeat' split) <;> omega), hK1⟩
      · go_wp2_with fail
        refine (C1.out _).mono ?_
        rintro e w1 ⟨rfl, rfl⟩
        have hK1 := hK.grown (World.grownBy_alloc _ (.cells (Pl.refA f 1) 9) none) (fun k h => by cases h)
        go_wp2_with fail
        go_roundw
        case rel => exact ⟨2, M - 20, by omega, rfl, rfl, by omega, by have := HM.out; omega, .inr (.inr (.inl ⟨rfl, by have := HM.out; omega⟩)), hK1⟩
        case measure => simp [intOf]
    · clear hkn hk
      rw [show ((2 : Nat) : Int) + 1 = 3 from rfl]
      have HM := Lib.hid hM
      have mm : M ≤ 9223372036854775807 := by omega
      clear hM m2
      by_cases hle : M ≤ 13
      · go_wp2_with fail
        refine (C2.out _).mono ?_
        rintro e w1 ⟨rfl, rfl⟩
        have hK1 := hK.grown (World.grownBy_alloc _ (.cells (Pl.refA f 2) 9) none) (fun k h => by cases h)
        go_wp2_with fail
        go_ret
        exact ⟨ret_int (by have := HM.out; rw [FI.out]; (repeat' split) <;> omega), hK1⟩
      · go_wp2_with fail
        refine (C2.out _).mono ?_
        rintro e w1 ⟨rfl, rfl⟩
        have hK1 := hK.grown (World.grownBy_alloc _ (.cells (Pl.refA f 2) 9) none) (fun k h => by cases h)
        go_wp2_with fail
        go_roundw
        case rel => exact ⟨3, M - 13, by omega, rfl, rfl, by omega, by have := HM.out; omega, .inr (.inr (.inr (.inl ⟨rfl, by have := HM.out; omega⟩))), hK1⟩
        case measure => simp [intOf]
    · clear hkn hk
      rw [show ((3 : Nat) : Int) + 1 = 4 from rfl]
      have HM := Lib.hid hM
      have mm : M ≤ 9223372036854775807 := by omega
      clear hM m2
      by_cases hle : M ≤ 9
      · go_wp2_with fail
        refine (C3.out _).mono ?_
        rintro e w1 ⟨rfl, rfl⟩
        have hK1 := hK.grown (World.grownBy_alloc _ (.cells (Pl.refA f 3) 9) none) (fun k h => by cases h)
        go_wp2_with fail
        go_ret
        exact ⟨ret_int (by have := HM.out; rw [FI.out]; (repeat' split) <;> omega), hK1⟩
      · go_wp2_with fail
        refine (C3.out _).mono ?_
        rintro e w1 ⟨rfl, rfl⟩
        have hK1 := hK.grown (World.grownBy_alloc _ (.cells (Pl.refA f 3) 9) none) (fun k h => by cases h)
        go_wp2_with fail
        go_roundw
        case rel => exact ⟨4, M - 9, by omega, rfl, rfl, by omega, by have := HM.out; omega, .inr (.inr (.inr (.inr (.inl ⟨rfl, by have := HM.out; omega⟩)))), hK1⟩
        case measure => simp [intOf]
    · clear hkn hk
      rw [show ((4 : Nat) : Int) + 1 = 5 from rfl]
      have HM := Lib.hid hM
      have mm : M ≤ 9223372036854775807 := by omega
      clear hM m2
      by_cases hle : M ≤ 21
      · go_wp2_with fail
        refine (C4.out _).mono ?_
        rintro e w1 ⟨rfl, rfl⟩
        have hK1 := hK.grown (World.grownBy_alloc _ (.cells (Pl.refA f 4) 9) none) (fun k h => by cases h)
        go_wp2_with fail
        go_ret
        exact ⟨ret_int (by have := HM.out; rw [FI.out]; (repeat' split) <;> omega), hK1⟩
      · go_wp2_with fail
        refine (C4.out _).mono ?_
        rintro e w1 ⟨rfl, rfl⟩
        have hK1 := hK.grown (World.grownBy_alloc _ (.cells (Pl.refA f 4) 9) none) (fun k h => by cases h)
        go_wp2_with fail
        go_roundw
        case rel => exact ⟨5, M - 21, by omega, rfl, rfl, by omega, by have := HM.out; omega, .inr (.inr (.inr (.inr (.inr (.inl ⟨rfl, by have := HM.out; omega⟩))))), hK1⟩
        case measure => simp [intOf]
    · clear hkn hk
      rw [show ((5 : Nat) : Int) + 1 = 6 from rfl]
      have HM := Lib.hid hM
      have mm : M ≤ 9223372036854775807 := by omega
      clear hM m2
      by_cases hle : M ≤ 61
      · go_wp2_with fail
        refine (C5.out _).mono ?_
        rintro e w1 ⟨rfl, rfl⟩
        have hK1 := hK.grown (World.grownBy_alloc _ (.cells (Pl.refA f 5) 9) none) (fun k h => by cases h)
        go_wp2_with fail
        go_ret
        exact ⟨ret_int (by have := HM.out; rw [FI.out]; (repeat' split) <;> omega), hK1⟩
      · go_wp2_with fail
        refine (C5.out _).mono ?_
        rintro e w1 ⟨rfl, rfl⟩
        have hK1 := hK.grown (World.grownBy_alloc _ (.cells (Pl.refA f 5) 9) none) (fun k h => by cases h)
        go_wp2_with fail
        go_roundw
        case rel => exact ⟨6, M - 61, by omega, rfl, rfl, by omega, by have := HM.out; omega, .inr (.inr (.inr (.inr (.inr (.inr (⟨rfl, by have := HM.out; omega⟩)))))), hK1⟩
        case measure => simp [intOf]
    · clear hkn hk
      have HM := Lib.hid hM
      clear hM m2
      go_wp2_with fail
      go_ret
      exact ⟨ret_int (by have := HM.out; rw [FI.out]; (repeat' split) <;> omega), hK⟩
end Go.Proofs.YtfmmomdmemcbbaaGreat
