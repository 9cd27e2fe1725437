/- The walk of the law StackTop where the object may not be. (Printed by gen_top.py.) -/
import Derived.Test.YtenmbkngkabonaaT20
namespace Go.Proofs.Ytenmbkngkabonaa
set_option linter.unusedVariables false
open Go.RowKit

set_option maxHeartbeats 4000000 in
set_option maxRecDepth 100000 in
theorem walk_StackTop_no (a0 a1 : Int) (k : Int) (x : Bool) (n a l : Int) (s : ByteArray) (hs : (s.size : Int) ≤ 300) (hm : ¬ Pl.may k n a l s) (N K : Nat) (hN : a0 % 90 = (N : Int)) (hK : a1 % ((N : Int) + 1) = (K : Int)) (hN1 : N ≤ 89) (hK1 : K ≤ N) (hlo0 : 0 ≤ a0) (hhi0 : a0 ≤ 255) (hlo1 : 0 ≤ a1) (hhi1 : a1 ≤ 255) (W : World) :
    Calls Try.prog 9 #[.int .u8 a0, .int .u8 a1, obv k x n a l s] W fun e w' => e = .returned (.bool true) ∧ Kept W w' := by
  have HN := Lib.hid hN
  have HK := Lib.hid hK
  have htb0 : 0 ≤ a1 % ((N : Int) + 1) := by rw [hK]; omega
  have htb1 : a1 % ((N : Int) + 1) < 200 := by rw [hK]; omega
  have CK := Lib.hid (fun W => known14_ex W)
  have CM := Lib.hid (fun W => may_no k x n a l s hm W)
  have OB := Lib.hid (ObC.new W k x n a l s)
  have hlen : (Pl.nums 0 N).length = N := Pl.nums_len 0 N
  have HL := Lib.hid hlen
  have HM := Lib.hid hm
  clear hN hK hm hlen
  go_enter Try.func9, Try.ntmps9
  go_wp2_with fail
  refine (CK.out _).mono ?_
  rintro e w1 ⟨rfl, k1⟩
  obtain ⟨o0, o1, o2, o3, o4, o5⟩ := OB.out.kept k1
  have O1 := Lib.hid (OB.out.kept k1)
  have C1 := Lib.hid (numbers_ex W w1 (fun c => c = W.heap.size) ((Kept.of_grown ((Grown.refl W).alloc _ _)).trans k1) (fun c q => by rw [show c = W.heap.size from q]; exact block_lt_of_cell o0) N (by omega))
  clear k1 CK
  go_wp2_with fail
  rw [HN.out]
  refine C1.out.mono ?_
  rintro e w2 ⟨rfl, s2, f2⟩
  have O2 := Lib.hid (O1.out.fr f2 rfl)
  have C2 := Lib.hid (stk_items W _ _ _ w2 s2 (by rw [HL.out]; omega))
  clear s2 f2 C1 O1 o0 o1 o2 o3 o4 o5
  go_wp2_with fail
  refine C2.out.mono ?_
  rintro e w3 ⟨vi, rfl, r3, s3, f3, fm3⟩
  obtain ⟨o0, o1, o2, o3, o4, o5⟩ := O2.out.fr f3 rfl
  have O3 := Lib.hid (O2.out.fr f3 rfl)
  have R3 := Lib.hid r3
  have S3 := Lib.hid s3
  have FM := Lib.hid fm3
  clear s3 r3 f3 fm3 C2 O2
  have C3 := Lib.hid (stk_push_bad W _ _ _ w3 S3.out (k, x, n, a, l, s) HM.out)
  clear S3
  go_wp2_with fail
  refine C3.out.mono ?_
  rintro e w4 ⟨rfl, s4, g4⟩
  have R4 := Lib.hid (R3.out.grown g4)
  obtain ⟨o0, o1, o2, o3, o4, o5⟩ := O3.out.grown g4
  have S4 := Lib.hid s4
  clear s4 g4 C3 R3 O3
  go_wp2_with fail
  refine (CM.out _).mono ?_
  rintro e w7 ⟨rfl, g7⟩
  have R7 := Lib.hid (R4.out.grown g7)
  have C7 := Lib.hid (stk_items W _ _ _ w7 (S4.out.grown g7) (by rw [HL.out]; omega))
  clear g7 S4 R4 o0 o1 o2 o3 o4 o5
  go_wp2_with fail
  refine C7.out.mono ?_
  rintro e w8 ⟨vm, rfl, r8, s8, f8, -⟩
  have R8 := Lib.hid (R7.out.fr f8)
  have C8 := Lib.hid (same_yes vm vi (Pl.nums 0 N) (by rw [HL.out]; omega) w8 r8.1 R8.out.1)
  have R8' := Lib.hid (R8.out.also vm)
  have S8 := Lib.hid s8
  clear s8 r8 f8 C7 R7
  go_wp2_with fail
  refine C8.out.mono ?_
  rintro e w9 ⟨rfl, g9⟩
  have R9 := Lib.hid (R8'.out.grown g9)
  have C9 := Lib.hid (stk_dup W _ _ _ w9 (S8.out.grown g9) K (by rw [HL.out]; omega) (by rw [HL.out]; omega))
  clear S8 R8 R8' C8 g9
  go_wp2_with fail
  rw [HK.out]
  refine C9.out.mono ?_
  rintro e w10 ⟨rfl, s10, f10⟩
  have R10 := Lib.hid (R9.out.fr f10)
  have C10 := Lib.hid (stk_items W _ _ _ w10 s10 (by rw [List.length_append, List.length_drop, HL.out]; omega))
  clear s10 f10 C9 R9
  go_wp2_with fail
  refine C10.out.mono ?_
  rintro e w11 ⟨vl, rfl, r11, s11, f11, fm11⟩
  have R11 := Lib.hid (R10.out.fr f11).1
  have T11 := Lib.hid r11.1
  have K11 := Lib.hid s11.keptw
  rw [List.length_append, List.length_drop, HL.out, show N + (N - (N - K)) = N + K from by omega] at fm11
  clear s11 r11 f11 C10 R10
  go_wp2_with fail
  obtain ⟨D, hD⟩ : ∃ D, D = (Pl.nums 0 N).drop ((Pl.nums 0 N).length - K) := ⟨_, rfl⟩
  rw [← hD] at T11
  have HD := Lib.hid hD
  have hDl : D.length = K := by rw [hD, List.length_drop, HL.out]; omega
  have HDl := Lib.hid hDl
  have fm := FM.out
  rw [HL.out] at fm
  have DS := Lib.hid (fun (v1 v2 : Value) (Lx : List Pl.Ob) (hx : Lx.length ≤ 600) (h1 : RowV w11 v1 Lx) (h2 : RowV w11 v2 Lx) (W' : World) (h : Grown w11 W') => (same_yes v1 v2 Lx hx W' (h1.grown h) (h2.grown h)).mono fun e W'' ⟨he, hg⟩ => (⟨he, grown_trans h hg⟩ : e = Ending.returned (.bool true) ∧ Grown w11 W''))
  clear hD hDl FM
  have n0 : (0 : Int) ≤ (N : Int) := by omega
  have n1 : (N : Int) ≤ 89 := by omega
  have n2 : (K : Int) ≤ (N : Int) := by omega
  have n3 : (0 : Int) ≤ (K : Int) := by omega
  obtain ⟨T, hT⟩ : ∃ T : Nat, T = N + K := ⟨_, rfl⟩
  obtain ⟨E, hE⟩ : ∃ E : Nat, N = E + K := ⟨N - K, by omega⟩
  rw [← hT] at fm11
  have wNK : IntKind.i64.wrap ((N : Int) + (K : Int)) = (T : Int) := by rw [IntWalk.i64_in _ (by omega)]; omega
  have wE : IntKind.i64.wrap ((N : Int) - (K : Int)) = (E : Int) := by rw [IntWalk.i64_in _ (by omega)]; omega
  have n6 : (N : Int) ≤ (T : Int) := by omega
  have n7 : (E : Int) ≤ (N : Int) := by omega
  have n8 : T - N = K := by omega
  have n9 : N - E = K := by omega
  have n10 : (T : Int) ≤ 200 := by omega
  have n11 : (0 : Int) ≤ (E : Int) := by omega
  have n13 : N - K = E := by omega
  have HT := Lib.hid hT
  have HE := Lib.hid hE
  clear hT hE
  rcases fm11 with ⟨rfl, hl0⟩ | ⟨g, cl, rfl, hcl⟩
  · have hl1 := Lib.hid hl0
    clear hl0
    have hl0 := hl1
    clear hl1
    rcases fm with ⟨rfl, hi0⟩ | ⟨g', ci, rfl, hci⟩
    · have hi1 := Lib.hid hi0
      clear hi0
      have hi0 := hi1
      clear hi1
      have hsp : Pl.nums 0 N = (Pl.nums 0 N).take E ++ D := by
        rw [HD.out, HL.out, n13]
        exact (List.take_append_drop _ _).symm
      have hD0 : D = [] := List.eq_nil_of_length_eq_zero (by have := HDl.out; have := HT.out; have := hl0.out; omega)
      have hN0 : Pl.nums 0 N = [] := List.eq_nil_of_length_eq_zero (by have := HL.out; have := HT.out; have := hl0.out; omega)
      have RA : RowV w11 (.slice none N T) (Pl.nums 0 N) := ⟨none, T, by rw [HL.out], .inl hN0⟩
      have RB : RowV w11 (.slice none K K) D := ⟨none, K, by rw [HDl.out], .inl hD0⟩
      clear hD0 hN0
      have hD1 : D = [] := List.eq_nil_of_length_eq_zero (by have := HDl.out; have := HE.out; have := hi0.out; omega)
      have RC : RowV w11 (.slice none K K) D := ⟨none, K, by rw [HDl.out], .inl hD1⟩
      clear hD1
      have DA := Lib.hid (fun W' h => DS.out _ _ (Pl.nums 0 N) (by rw [HL.out]; omega) RA R11.out W' h)
      have DB := Lib.hid (fun W' h => DS.out _ _ D (by rw [HDl.out]; omega) RB RC W' h)
      clear RA RB RC hsp n13
      go_region_held3 (fun W' => Grown w11 W')
        (first | assumption | exact (Grown.refl _).drew)
        (first | (go_at_call 30; with_reducible refine (DA.out _ ?_).mono ?_; (assumption); rintro e w' ⟨rfl, hS⟩) | (go_at_call 30; with_reducible refine (DB.out _ ?_).mono ?_; (assumption); rintro e w' ⟨rfl, hS⟩))
      rename_i hS2
      go_wp2_with fail
      go_ret
      exact ⟨rfl, K11.out.trans (Kept.of_grown hS2)⟩
    · have n5 : (N : Int) ≤ (ci : Int) := by omega
      by_cases hc0 : ci = E
      · have hc1 : E = ci := hc0.symm
        clear hc0
        subst hc1
        have hsp : Pl.nums 0 N = (Pl.nums 0 N).take E ++ D := by
          rw [HD.out, HL.out, n13]
          exact (List.take_append_drop _ _).symm
        have hD0 : D = [] := List.eq_nil_of_length_eq_zero (by have := HDl.out; have := HT.out; have := hl0.out; omega)
        have hN0 : Pl.nums 0 N = [] := List.eq_nil_of_length_eq_zero (by have := HL.out; have := HT.out; have := hl0.out; omega)
        have RA : RowV w11 (.slice none N T) (Pl.nums 0 N) := ⟨none, T, by rw [HL.out], .inl hN0⟩
        have RB : RowV w11 (.slice none K K) D := ⟨none, K, by rw [HDl.out], .inl hD0⟩
        clear hD0 hN0
        have RC : RowV w11 (.slice (some ⟨g', 0, none⟩) K 0) D := by
          have h0 := R11.out
          rw [hsp] at h0
          have h := RowV.drop h0 0 (some ⟨g', 0, none⟩) (fun hne => by
            have : 0 < D.length := List.length_pos_iff.2 hne
            have := HDl.out
            have := HE.out
            omega)
          rw [HDl.out] at h
          exact h
        have DA := Lib.hid (fun W' h => DS.out _ _ (Pl.nums 0 N) (by rw [HL.out]; omega) RA R11.out W' h)
        have DB := Lib.hid (fun W' h => DS.out _ _ D (by rw [HDl.out]; omega) RB RC W' h)
        clear RA RB RC hsp n13
        go_region_held3 (fun W' => Grown w11 W')
          (first | assumption | exact (Grown.refl _).drew)
          (first | (go_at_call 30; with_reducible refine (DA.out _ ?_).mono ?_; (assumption); rintro e w' ⟨rfl, hS⟩) | (go_at_call 30; with_reducible refine (DB.out _ ?_).mono ?_; (assumption); rintro e w' ⟨rfl, hS⟩))
        rename_i hS2
        go_wp2_with fail
        go_ret
        exact ⟨rfl, K11.out.trans (Kept.of_grown hS2)⟩
      · have hc1 : ¬ ci = E := hc0
        have hsp : Pl.nums 0 N = (Pl.nums 0 N).take E ++ D := by
          rw [HD.out, HL.out, n13]
          exact (List.take_append_drop _ _).symm
        have hD0 : D = [] := List.eq_nil_of_length_eq_zero (by have := HDl.out; have := HT.out; have := hl0.out; omega)
        have hN0 : Pl.nums 0 N = [] := List.eq_nil_of_length_eq_zero (by have := HL.out; have := HT.out; have := hl0.out; omega)
        have RA : RowV w11 (.slice none N T) (Pl.nums 0 N) := ⟨none, T, by rw [HL.out], .inl hN0⟩
        have RB : RowV w11 (.slice none K K) D := ⟨none, K, by rw [HDl.out], .inl hD0⟩
        clear hD0 hN0
        have RC : RowV w11 (.slice (some ⟨g', E * 6, none⟩) K (ci - E)) D := by
          have h0 := R11.out
          rw [hsp] at h0
          have h := RowV.drop h0 (ci - E) (some ⟨g', E * 6, none⟩) (fun hne => by
            have : 0 < D.length := List.length_pos_iff.2 hne
            have := HDl.out
            have := HE.out
            rw [List.length_take, HL.out, Nat.zero_add, Nat.min_eq_left (by omega)])
          rw [HDl.out] at h
          exact h
        have DA := Lib.hid (fun W' h => DS.out _ _ (Pl.nums 0 N) (by rw [HL.out]; omega) RA R11.out W' h)
        have DB := Lib.hid (fun W' h => DS.out _ _ D (by rw [HDl.out]; omega) RB RC W' h)
        clear RA RB RC hsp n13
        go_region_held3 (fun W' => Grown w11 W')
          (first | assumption | exact (Grown.refl _).drew)
          (first | (go_at_call 30; with_reducible refine (DA.out _ ?_).mono ?_; (assumption); rintro e w' ⟨rfl, hS⟩) | (go_at_call 30; with_reducible refine (DB.out _ ?_).mono ?_; (assumption); rintro e w' ⟨rfl, hS⟩))
        rename_i hS2
        go_wp2_with fail
        go_ret
        exact ⟨rfl, K11.out.trans (Kept.of_grown hS2)⟩
  · have n4 : (T : Int) ≤ (cl : Int) := by omega
    have n12 : (N : Int) ≤ (cl : Int) := by omega
    by_cases hb0 : cl = N
    · have hb1 : N = cl := hb0.symm
      clear hb0
      subst hb1
      rcases fm with ⟨rfl, hi0⟩ | ⟨g', ci, rfl, hci⟩
      · have hi1 := Lib.hid hi0
        clear hi0
        have hi0 := hi1
        clear hi1
        have hsp : Pl.nums 0 N = (Pl.nums 0 N).take E ++ D := by
          rw [HD.out, HL.out, n13]
          exact (List.take_append_drop _ _).symm
        have RA : RowV w11 (.slice (some ⟨g, 0, none⟩) N N) (Pl.nums 0 N) := by
          have h := RowV.take T11.out N
          rw [HL.out] at h
          exact h
        have RB : RowV w11 (.slice (some ⟨g, 0, none⟩) K 0) D := by
          have h := RowV.drop T11.out 0 (some ⟨g, 0, none⟩) (fun hne => by
            have : 0 < D.length := List.length_pos_iff.2 hne
            have := HDl.out
            have := HT.out
            omega)
          rw [HDl.out] at h
          exact h
        have hD1 : D = [] := List.eq_nil_of_length_eq_zero (by have := HDl.out; have := HE.out; have := hi0.out; omega)
        have RC : RowV w11 (.slice none K K) D := ⟨none, K, by rw [HDl.out], .inl hD1⟩
        clear hD1
        have DA := Lib.hid (fun W' h => DS.out _ _ (Pl.nums 0 N) (by rw [HL.out]; omega) RA R11.out W' h)
        have DB := Lib.hid (fun W' h => DS.out _ _ D (by rw [HDl.out]; omega) RB RC W' h)
        clear RA RB RC hsp n13
        go_region_held3 (fun W' => Grown w11 W')
          (first | assumption | exact (Grown.refl _).drew)
          (first | (go_at_call 30; with_reducible refine (DA.out _ ?_).mono ?_; (assumption); rintro e w' ⟨rfl, hS⟩) | (go_at_call 30; with_reducible refine (DB.out _ ?_).mono ?_; (assumption); rintro e w' ⟨rfl, hS⟩))
        rename_i hS2
        go_wp2_with fail
        go_ret
        exact ⟨rfl, K11.out.trans (Kept.of_grown hS2)⟩
      · have n5 : (N : Int) ≤ (ci : Int) := by omega
        by_cases hc0 : ci = E
        · have hc1 : E = ci := hc0.symm
          clear hc0
          subst hc1
          have hsp : Pl.nums 0 N = (Pl.nums 0 N).take E ++ D := by
            rw [HD.out, HL.out, n13]
            exact (List.take_append_drop _ _).symm
          have RA : RowV w11 (.slice (some ⟨g, 0, none⟩) N N) (Pl.nums 0 N) := by
            have h := RowV.take T11.out N
            rw [HL.out] at h
            exact h
          have RB : RowV w11 (.slice (some ⟨g, 0, none⟩) K 0) D := by
            have h := RowV.drop T11.out 0 (some ⟨g, 0, none⟩) (fun hne => by
              have : 0 < D.length := List.length_pos_iff.2 hne
              have := HDl.out
              have := HT.out
              omega)
            rw [HDl.out] at h
            exact h
          have RC : RowV w11 (.slice (some ⟨g', 0, none⟩) K 0) D := by
            have h0 := R11.out
            rw [hsp] at h0
            have h := RowV.drop h0 0 (some ⟨g', 0, none⟩) (fun hne => by
              have : 0 < D.length := List.length_pos_iff.2 hne
              have := HDl.out
              have := HE.out
              omega)
            rw [HDl.out] at h
            exact h
          have DA := Lib.hid (fun W' h => DS.out _ _ (Pl.nums 0 N) (by rw [HL.out]; omega) RA R11.out W' h)
          have DB := Lib.hid (fun W' h => DS.out _ _ D (by rw [HDl.out]; omega) RB RC W' h)
          clear RA RB RC hsp n13
          go_region_held3 (fun W' => Grown w11 W')
            (first | assumption | exact (Grown.refl _).drew)
            (first | (go_at_call 30; with_reducible refine (DA.out _ ?_).mono ?_; (assumption); rintro e w' ⟨rfl, hS⟩) | (go_at_call 30; with_reducible refine (DB.out _ ?_).mono ?_; (assumption); rintro e w' ⟨rfl, hS⟩))
          rename_i hS2
          go_wp2_with fail
          go_ret
          exact ⟨rfl, K11.out.trans (Kept.of_grown hS2)⟩
        · have hc1 : ¬ ci = E := hc0
          have hsp : Pl.nums 0 N = (Pl.nums 0 N).take E ++ D := by
            rw [HD.out, HL.out, n13]
            exact (List.take_append_drop _ _).symm
          have RA : RowV w11 (.slice (some ⟨g, 0, none⟩) N N) (Pl.nums 0 N) := by
            have h := RowV.take T11.out N
            rw [HL.out] at h
            exact h
          have RB : RowV w11 (.slice (some ⟨g, 0, none⟩) K 0) D := by
            have h := RowV.drop T11.out 0 (some ⟨g, 0, none⟩) (fun hne => by
              have : 0 < D.length := List.length_pos_iff.2 hne
              have := HDl.out
              have := HT.out
              omega)
            rw [HDl.out] at h
            exact h
          have RC : RowV w11 (.slice (some ⟨g', E * 6, none⟩) K (ci - E)) D := by
            have h0 := R11.out
            rw [hsp] at h0
            have h := RowV.drop h0 (ci - E) (some ⟨g', E * 6, none⟩) (fun hne => by
              have : 0 < D.length := List.length_pos_iff.2 hne
              have := HDl.out
              have := HE.out
              rw [List.length_take, HL.out, Nat.zero_add, Nat.min_eq_left (by omega)])
            rw [HDl.out] at h
            exact h
          have DA := Lib.hid (fun W' h => DS.out _ _ (Pl.nums 0 N) (by rw [HL.out]; omega) RA R11.out W' h)
          have DB := Lib.hid (fun W' h => DS.out _ _ D (by rw [HDl.out]; omega) RB RC W' h)
          clear RA RB RC hsp n13
          go_region_held3 (fun W' => Grown w11 W')
            (first | assumption | exact (Grown.refl _).drew)
            (first | (go_at_call 30; with_reducible refine (DA.out _ ?_).mono ?_; (assumption); rintro e w' ⟨rfl, hS⟩) | (go_at_call 30; with_reducible refine (DB.out _ ?_).mono ?_; (assumption); rintro e w' ⟨rfl, hS⟩))
          rename_i hS2
          go_wp2_with fail
          go_ret
          exact ⟨rfl, K11.out.trans (Kept.of_grown hS2)⟩
    · have hb1 : ¬ cl = N := hb0
      rcases fm with ⟨rfl, hi0⟩ | ⟨g', ci, rfl, hci⟩
      · have hi1 := Lib.hid hi0
        clear hi0
        have hi0 := hi1
        clear hi1
        have hsp : Pl.nums 0 N = (Pl.nums 0 N).take E ++ D := by
          rw [HD.out, HL.out, n13]
          exact (List.take_append_drop _ _).symm
        have RA : RowV w11 (.slice (some ⟨g, 0, none⟩) N cl) (Pl.nums 0 N) := by
          have h := RowV.take T11.out cl
          rw [HL.out] at h
          exact h
        have RB : RowV w11 (.slice (some ⟨g, N * 6, none⟩) K (cl - N)) D := by
          have h := RowV.drop T11.out (cl - N) (some ⟨g, N * 6, none⟩) (fun hne => by
            have : 0 < D.length := List.length_pos_iff.2 hne
            have := HDl.out
            have := HT.out
            rw [HL.out, Nat.zero_add])
          rw [HDl.out] at h
          exact h
        have hD1 : D = [] := List.eq_nil_of_length_eq_zero (by have := HDl.out; have := HE.out; have := hi0.out; omega)
        have RC : RowV w11 (.slice none K K) D := ⟨none, K, by rw [HDl.out], .inl hD1⟩
        clear hD1
        have DA := Lib.hid (fun W' h => DS.out _ _ (Pl.nums 0 N) (by rw [HL.out]; omega) RA R11.out W' h)
        have DB := Lib.hid (fun W' h => DS.out _ _ D (by rw [HDl.out]; omega) RB RC W' h)
        clear RA RB RC hsp n13
        go_region_held3 (fun W' => Grown w11 W')
          (first | assumption | exact (Grown.refl _).drew)
          (first | (go_at_call 30; with_reducible refine (DA.out _ ?_).mono ?_; (assumption); rintro e w' ⟨rfl, hS⟩) | (go_at_call 30; with_reducible refine (DB.out _ ?_).mono ?_; (assumption); rintro e w' ⟨rfl, hS⟩))
        rename_i hS2
        go_wp2_with fail
        go_ret
        exact ⟨rfl, K11.out.trans (Kept.of_grown hS2)⟩
      · have n5 : (N : Int) ≤ (ci : Int) := by omega
        by_cases hc0 : ci = E
        · have hc1 : E = ci := hc0.symm
          clear hc0
          subst hc1
          have hsp : Pl.nums 0 N = (Pl.nums 0 N).take E ++ D := by
            rw [HD.out, HL.out, n13]
            exact (List.take_append_drop _ _).symm
          have RA : RowV w11 (.slice (some ⟨g, 0, none⟩) N cl) (Pl.nums 0 N) := by
            have h := RowV.take T11.out cl
            rw [HL.out] at h
            exact h
          have RB : RowV w11 (.slice (some ⟨g, N * 6, none⟩) K (cl - N)) D := by
            have h := RowV.drop T11.out (cl - N) (some ⟨g, N * 6, none⟩) (fun hne => by
              have : 0 < D.length := List.length_pos_iff.2 hne
              have := HDl.out
              have := HT.out
              rw [HL.out, Nat.zero_add])
            rw [HDl.out] at h
            exact h
          have RC : RowV w11 (.slice (some ⟨g', 0, none⟩) K 0) D := by
            have h0 := R11.out
            rw [hsp] at h0
            have h := RowV.drop h0 0 (some ⟨g', 0, none⟩) (fun hne => by
              have : 0 < D.length := List.length_pos_iff.2 hne
              have := HDl.out
              have := HE.out
              omega)
            rw [HDl.out] at h
            exact h
          have DA := Lib.hid (fun W' h => DS.out _ _ (Pl.nums 0 N) (by rw [HL.out]; omega) RA R11.out W' h)
          have DB := Lib.hid (fun W' h => DS.out _ _ D (by rw [HDl.out]; omega) RB RC W' h)
          clear RA RB RC hsp n13
          go_region_held3 (fun W' => Grown w11 W')
            (first | assumption | exact (Grown.refl _).drew)
            (first | (go_at_call 30; with_reducible refine (DA.out _ ?_).mono ?_; (assumption); rintro e w' ⟨rfl, hS⟩) | (go_at_call 30; with_reducible refine (DB.out _ ?_).mono ?_; (assumption); rintro e w' ⟨rfl, hS⟩))
          rename_i hS2
          go_wp2_with fail
          go_ret
          exact ⟨rfl, K11.out.trans (Kept.of_grown hS2)⟩
        · have hc1 : ¬ ci = E := hc0
          have hsp : Pl.nums 0 N = (Pl.nums 0 N).take E ++ D := by
            rw [HD.out, HL.out, n13]
            exact (List.take_append_drop _ _).symm
          have RA : RowV w11 (.slice (some ⟨g, 0, none⟩) N cl) (Pl.nums 0 N) := by
            have h := RowV.take T11.out cl
            rw [HL.out] at h
            exact h
          have RB : RowV w11 (.slice (some ⟨g, N * 6, none⟩) K (cl - N)) D := by
            have h := RowV.drop T11.out (cl - N) (some ⟨g, N * 6, none⟩) (fun hne => by
              have : 0 < D.length := List.length_pos_iff.2 hne
              have := HDl.out
              have := HT.out
              rw [HL.out, Nat.zero_add])
            rw [HDl.out] at h
            exact h
          have RC : RowV w11 (.slice (some ⟨g', E * 6, none⟩) K (ci - E)) D := by
            have h0 := R11.out
            rw [hsp] at h0
            have h := RowV.drop h0 (ci - E) (some ⟨g', E * 6, none⟩) (fun hne => by
              have : 0 < D.length := List.length_pos_iff.2 hne
              have := HDl.out
              have := HE.out
              rw [List.length_take, HL.out, Nat.zero_add, Nat.min_eq_left (by omega)])
            rw [HDl.out] at h
            exact h
          have DA := Lib.hid (fun W' h => DS.out _ _ (Pl.nums 0 N) (by rw [HL.out]; omega) RA R11.out W' h)
          have DB := Lib.hid (fun W' h => DS.out _ _ D (by rw [HDl.out]; omega) RB RC W' h)
          clear RA RB RC hsp n13
          go_region_held3 (fun W' => Grown w11 W')
            (first | assumption | exact (Grown.refl _).drew)
            (first | (go_at_call 30; with_reducible refine (DA.out _ ?_).mono ?_; (assumption); rintro e w' ⟨rfl, hS⟩) | (go_at_call 30; with_reducible refine (DB.out _ ?_).mono ?_; (assumption); rintro e w' ⟨rfl, hS⟩))
          rename_i hS2
          go_wp2_with fail
          go_ret
          exact ⟨rfl, K11.out.trans (Kept.of_grown hS2)⟩
end Go.Proofs.Ytenmbkngkabonaa
