/- tympanref9.one: the walk. -/
import Derived.Test.YtpfkijjpophobaaU3
namespace Go.Proofs.Ytpfkijjpophobaa
set_option linter.unusedVariables false
open Go.RowKit

/-- what the reference's one answers -/
def OneOut (R : Int × (Int × Int × List UInt8) × Nat) (a : Nat) (W : World) : Ending → World → Prop := fun e w' =>
  ∃ k n s a' nx, e = .returned (.tuple #[Pl.tokv k n s a', .int .i64 nx, .int .i64 R.1]) ∧ (R.1 = 0 → Pl.tokv k n s a' = Pl.tokv R.2.1.1 R.2.1.2.1 R.2.1.2.2 (a : Int) ∧ nx = (R.2.2 : Int)) ∧ Fr (fun _ => False) W w'
theorem TokB.new2 (W : World) (o : Obj) (k n : Int) (S : ByteArray) (a : Int) : TokB (W.heap.size + 1) k n S a ((W.alloc o).alloc (.cells #[.int .i64 k, .int .i64 n, .string S, .int .i64 a] 48)) := by
  have h := TokB.new (W.alloc o) k n S a
  rw [show (W.alloc o).heap.size = W.heap.size + 1 by simp] at h
  exact h
theorem fr_born2 {P : Nat → Prop} {W Z Z' : World} (h : Fr (fun _ => False) W Z) (k : Fr P Z Z') (hp : ∀ q, P q → W.heap.size ≤ q) : Fr (fun _ => False) W Z' := h.trans' k (fun i q => .inr (hp i q))
set_option maxHeartbeats 8000000 in
set_option maxRecDepth 100000 in
theorem one_any (v : Value) (L : List UInt8) (a : Nat) (ha : a < L.length) (hL : L.length < 1000000) (W : World) (hv : RdB v L W) :
    Calls Try.prog 62 #[v, .int .i64 (a : Int)] W (OneOut (Pl.word7 L a) a W) := by
  have hb : L[a]? = some L[a] := List.getElem?_eq_getElem ha
  obtain ⟨ao, cap, rfl, hcap, hrd⟩ := id hv
  obtain ⟨g, o, rfl, hg, hcell⟩ := hrd.resolve_left (fun q => by rw [q] at ha; simp at ha)
  have c0 := byte_cell (hcell a _ hb)
  have c255 := L[a].toNat_lt
  have hbd := Pl.take7_bd L (a + 1) (by omega)
  have CT := fun Z (hz : RdB (.slice (some ⟨g, o, none⟩) L.length cap) L Z) => rtake_any _ L (a + 1) (by omega) hL Z hz
  obtain ⟨R, hR⟩ : ∃ R, R = Pl.word7 L a := ⟨_, rfl⟩
  rw [← hR]
  unfold Pl.word7 at hR
  rw [hb] at hR
  obtain ⟨T, hT⟩ : ∃ T, T = Pl.take7 L (a + 1) := ⟨_, rfl⟩
  rw [← hT] at hR CT hbd
  obtain ⟨n, nx, e⟩ := T
  change ∀ Z (hz : RdB (.slice (some ⟨g, o, none⟩) L.length cap) L Z), Calls Try.prog 74 #[.slice (some ⟨g, o, none⟩) L.length cap, .int .i64 ((a + 1 : Nat) : Int)] Z fun x w' => x = .returned (.tuple #[.int .i64 n, .int .i64 nx, .int .i64 e]) ∧ Grown Z w' at CT
  change e = 0 → 0 ≤ n ∧ n < 34359738368 ∧ ((a + 1 : Nat) : Int) < nx ∧ nx ≤ L.length at hbd
  obtain ⟨M, hM⟩ : ∃ M, M = L.length := ⟨_, rfl⟩
  obtain ⟨c, hc⟩ : ∃ c, c = L[a].toNat := ⟨_, rfl⟩
  change R = Pl.wordB L a L[a].toNat (n, nx, e) at hR
  rw [← hc] at hR c0 c255
  have HV := Lib.hid hv
  rw [← hM] at ha hcap hL CT hbd ⊢
  have CTH := Lib.hid CT
  have HM := Lib.hid hM
  have HR := Lib.hid hR
  have HBD := Lib.hid hbd
  have haI : (a : Int) < (M : Int) := by omega
  clear hcell hrd hv hR hc hb hM hT hbd CT
  have WIN : ∀ (E : Int) (k n : Int) (s : List UInt8) (a' nxx : Int) (Z : World), R.1 = E → (E = 0 → Pl.tokv k n s a' = Pl.tokv R.2.1.1 R.2.1.2.1 R.2.1.2.2 (a : Int) ∧ nxx = (R.2.2 : Int)) → Fr (fun _ => False) W Z → OneOut R a W (.returned (.tuple #[Pl.tokv k n s a', .int .i64 nxx, .int .i64 E])) Z := fun E k n s a' nxx Z h1 h2 h3 => ⟨k, n, s, a', nxx, by rw [h1], fun h => h2 (by rw [← h1]; exact h), h3⟩
  have WINH := Lib.hid WIN
  clear WIN
  obtain ⟨W2, hW2⟩ : ∃ W2, W2 = (W.alloc (.cells #[.int .i64 0, .int .i64 0, .string ⟨#[]⟩, .int .i64 0] 48)).alloc (.cells #[.int .i64 (c : Int), .int .i64 0, .string ⟨#[]⟩, .int .i64 (a : Int)] 48) := ⟨_, rfl⟩
  have HW2 := Lib.hid hW2
  have Z2 : Hid (TokB W.heap.size 0 0 ⟨#[]⟩ 0 W2) := Lib.hid (by rw [hW2]; exact (TokB.new W 0 0 ⟨#[]⟩ 0).fr (Fr.alloc (fun _ => False) _ _) (fun f => f))
  have Y2 : Hid (TokB (W.heap.size + 1) (c : Int) 0 ⟨#[]⟩ (a : Int) W2) := Lib.hid (by rw [hW2]; exact TokB.new2 W _ _ _ _ _)
  have FW2 : Hid (Fr (fun _ => False) W W2) := Lib.hid (by rw [hW2]; exact (Fr.alloc _ _ _).trans (Fr.alloc _ _ _))
  clear hW2
  have cases : (c < 1 ∨ 12 < c) ∨ (7 ≤ c ∧ c ≤ 12) ∨ (c = 1 ∨ c = 2) ∨ (3 ≤ c ∧ c ≤ 6) := by omega
  rcases cases with hcc | hcc | hcc | hcc
  · have hR0 : R.1 = 3 := by rw [HR.out]; unfold Pl.wordB; rw [if_pos hcc]
    have HR0 := Lib.hid hR0
    clear HR HM CTH HBD HV hR0
    have hcI : (c : Int) < 1 ∨ (¬ (c : Int) < 1 ∧ 12 < (c : Int)) := by omega
    clear hcc
    have ZZ := Z2
    rcases hcI with h | ⟨h, h'⟩
    all_goals
      clear HW2 Z2 Y2 ZZ FW2
      go_enter Try.func62, Try.ntmps62
      go_wp2_with fail
      refine bodyPost_ret (v := .tuple #[Pl.tokv 0 0 [] 0, .int .i64 0, .int .i64 3]) (by simp [results, Try.results62, go_sem, Pl.tokv]; rfl) rfl (WINH.out 3 _ _ _ _ _ _ HR0.out (fun q => by omega) ((Fr.alloc _ _ _).trans (Fr.alloc _ _ _)))
  · obtain ⟨h7, h12⟩ := hcc
    have hR0 : R = (0, ((c : Int), 0, []), a + 1) := by rw [HR.out]; unfold Pl.wordB; rw [if_neg (by omega), if_neg (by omega), if_neg (by omega)]
    have HR0 := Lib.hid hR0
    have SG := fun Z => rsigned9 (c : Int) Z
    rw [decide_eq_false (show ¬ ((c : Int) = 1 ∨ (c : Int) = 2) by omega)] at SG
    have SGH := Lib.hid SG
    have TX := fun Z => rtext9 (c : Int) Z
    rw [decide_eq_false (show ¬ (3 ≤ (c : Int) ∧ (c : Int) ≤ 6) by omega)] at TX
    have TXH := Lib.hid TX
    have MB := fun Z => rtmay_any (c : Int) 0 [] (a : Int) (by decide) Z
    rw [show Pl.tokMay (c : Int) 0 [] = true by
      unfold Pl.tokMay
      rw [if_neg (by omega), if_neg (by omega), if_neg (by omega), if_neg (by omega), if_neg (by omega), if_neg (by omega)]
      exact decide_eq_true ⟨by omega, by omega, rfl⟩] at MB
    unfold Pl.tokv at MB
    rw [show Pl.tx [] = ⟨#[]⟩ from rfl] at MB
    have MBH := Lib.hid MB
    have hcI : 7 ≤ (c : Int) := by omega
    have hcJ : (c : Int) ≤ 12 := by omega
    clear SG TX MB HR HM CTH HBD hR0
    go_enter Try.func62, Try.ntmps62
    go_wp2_with fail
    rw [← HW2.out]
    refine (SGH.out _).mono ?_
    rintro x w9 ⟨rfl, rfl⟩
    obtain ⟨s0, s1, s2, s3, s4⟩ := Y2.out
    have s40 := s4 0
    have s41 := s4 1
    have s42 := s4 2
    have s43 := s4 3
    go_wp2_with fail
    refine (TXH.out _).mono ?_
    rintro x w9 ⟨rfl, rfl⟩
    go_wp2_with fail
    refine (MBH.out _).mono ?_
    rintro x w6 ⟨rfl, f6⟩
    have ZZ := Lib.hid (Z2.out.fr f6 (fun f => f))
    have YY := Lib.hid (Y2.out.fr f6 (fun f => f))
    have F6 := Lib.hid (FW2.out.trans f6)
    clear s0 s1 s2 s3 s4 s40 s41 s42 s43 f6
    obtain ⟨t0, t1, t2, t3, t4⟩ := ZZ.out
    have t40 := t4 0
    have t41 := t4 1
    have t42 := t4 2
    have t43 := t4 3
    obtain ⟨s0, s1, s2, s3, s4⟩ := YY.out
    have s40 := s4 0
    have s41 := s4 1
    have s42 := s4 2
    have s43 := s4 3
    obtain ⟨q4, f4⟩ := TokB.four (k := (c : Int)) (n := 0) (S := ⟨#[]⟩) (a := (a : Int)) (ZZ.out)
    unfold Pl.four at q4 f4
    go_wp2_with fail
    revert q4 f4
    generalize ((((w6.setCell { block := W.heap.size, off := 0 } (Value.int IntKind.i64 (c : Int))).setCell { block := W.heap.size, off := 1 } (Value.int IntKind.i64 0)).setCell { block := W.heap.size, off := 2 } (Value.string { data := #[] })).setCell { block := W.heap.size, off := 3 } (Value.int IntKind.i64 (a : Int))) = Z'
    rintro ⟨z0, z1, z2, z3, z4⟩ f4
    refine bodyPost_ret (v := .tuple #[Pl.tokv (c : Int) 0 [] (a : Int), .int .i64 ((a : Int) + 1), .int .i64 0]) (by simp [results, Try.results62, go_sem, Pl.tokv, z0, z1, z2, z3]; rfl) rfl (WINH.out 0 _ _ _ _ _ _ (by rw [HR0.out]) (fun q => ⟨by rw [HR0.out], by rw [HR0.out]; rfl⟩) (fr_born F6.out f4 (Nat.le_refl _)))
  · have ha1 : a + 1 ≤ M := by omega
    have hcI : 1 ≤ (c : Int) := by omega
    have hcJ : (c : Int) ≤ 12 := by omega
    have HCC := Lib.hid hcc
    have CT1 : ∀ Z, Fr (fun _ => False) W Z → Calls Try.prog 74 #[.slice (some ⟨g, o, none⟩) M cap, .int .i64 ((a : Int) + 1)] Z fun x w' => x = .returned (.tuple #[.int .i64 n, .int .i64 nx, .int .i64 e]) ∧ Grown Z w' := fun Z hz => by
      have := CTH.out Z (by have := HV.out.fr0 hz; rw [← HM.out] at this; exact this)
      rw [show ((a + 1 : Nat) : Int) = (a : Int) + 1 by omega] at this
      exact this
    have CT1H := Lib.hid CT1
    have SG := fun Z => rsigned9 (c : Int) Z
    rw [decide_eq_true (show ((c : Int) = 1 ∨ (c : Int) = 2) by omega)] at SG
    have SGH := Lib.hid SG
    have TX := fun Z => rtext9 (c : Int) Z
    rw [decide_eq_false (show ¬ (3 ≤ (c : Int) ∧ (c : Int) ≤ 6) by omega)] at TX
    have TXH := Lib.hid TX
    clear SG TX CT1 CTH hcc
    by_cases he : e = 0
    · subst he
      obtain ⟨n0, n1, x0, x1⟩ := HBD.out rfl
      obtain ⟨U, hU⟩ : ∃ U, U = Pl.unf n := ⟨_, rfl⟩
      have u0 : -34359738368 ≤ U ∧ U ≤ 34359738368 := by rw [hU]; unfold Pl.unf; split <;> omega
      have MB := fun Z => rtmay_any (c : Int) U [] (a : Int) (by decide) Z
      obtain ⟨m, hm⟩ : ∃ m, m = Pl.tokMay (c : Int) U [] := ⟨_, rfl⟩
      rw [← hm] at MB
      unfold Pl.tokv at MB
      rw [show Pl.tx [] = ⟨#[]⟩ from rfl] at MB
      have MBH := Lib.hid MB
      have hR1 : R = if m = false then (3, (0, 0, []), 0) else (0, ((c : Int), U, []), nx.toNat) := by
        rw [HR.out, hm, hU]; unfold Pl.wordB
        rw [if_neg (by have := HCC.out; omega), if_pos (by have := HCC.out; omega), if_neg (show ¬ (0 : Int) ≠ 0 by omega)]
      have HR1 := Lib.hid hR1
      have HX := Lib.hid (show 0 ≤ nx by omega)
      clear MB hm HR HBD hR1 x0 x1 HM
      have key : (n % 2 = 1 ∧ (-(n + 1)).tdiv 2 = U) ∨ (¬ n % 2 = 1 ∧ n / 2 = U) := by
        rw [hU]; unfold Pl.unf
        rw [Int.neg_tdiv, Int.tdiv_eq_ediv_of_nonneg (by omega)]
        split <;> omega
      clear hU
      rcases key with ⟨k1, k2⟩ | ⟨k1, k2⟩
      · have k1b : (n % 2 == 1) = true := by rw [k1]; rfl
        go_enter Try.func62, Try.ntmps62
        go_wp2_with fail
        rw [← HW2.out]
        refine (SGH.out _).mono ?_
        rintro x w9 ⟨rfl, rfl⟩
        obtain ⟨s0, s1, s2, s3, s4⟩ := Y2.out
        have s40 := s4 0
        have s41 := s4 1
        have s42 := s4 2
        have s43 := s4 3
        go_wp2_with fail
        refine (CT1H.out _ FW2.out).mono ?_
        rintro x w2 ⟨rfl, g2⟩
        have f2 := Fr.of_grown (fun _ => False) g2
        have ZW := Lib.hid (Z2.out.fr f2 (fun f => f))
        have YW := Lib.hid (Y2.out.fr f2 (fun f => f))
        have F2 := Lib.hid (FW2.out.trans f2)
        clear g2 f2 s0 s1 s2 s3 s4 s40 s41 s42 s43
        obtain ⟨s0, s1, s2, s3, s4⟩ := YW.out
        have s40 := s4 0
        have s41 := s4 1
        have s42 := s4 2
        have s43 := s4 3
        go_wp2_with fail
        have y5 := TokB.putN (n' := U) (TokB.putN (n' := n / 2) YW.out)
        have f5 := (Fr.setCell (fun q => q = W.heap.size + 1) w2 ⟨W.heap.size + 1, 1, none⟩ (.int .i64 (n / 2)) rfl).trans (Fr.setCell (fun q => q = W.heap.size + 1) _ ⟨W.heap.size + 1, 1, none⟩ (.int .i64 U) rfl)
        clear s0 s1 s2 s3 s4 s40 s41 s42 s43
        revert y5 f5
        generalize ((w2.setCell { block := W.heap.size + 1, off := 1 } (Value.int IntKind.i64 (n / 2))).setCell { block := W.heap.size + 1, off := 1 } (Value.int IntKind.i64 U)) = w5
        intro y5 f5
        have Y5 := Lib.hid y5
        have Z5 := Lib.hid (ZW.out.fr f5 (fun f => by omega))
        have F5 := Lib.hid (fr_born F2.out f5 (by omega))
        clear y5 f5
        obtain ⟨s0, s1, s2, s3, s4⟩ := Y5.out
        have s40 := s4 0
        have s41 := s4 1
        have s42 := s4 2
        have s43 := s4 3
        refine (TXH.out _).mono ?_
        rintro x w9 ⟨rfl, rfl⟩
        go_wp2_with fail
        have ZX := Z5
        have YX := Y5
        have FX := F5
        refine (MBH.out _).mono ?_
        rintro x w6 ⟨rfl, f6⟩
        have ZZ := Lib.hid (ZX.out.fr f6 (fun f => f))
        have YY := Lib.hid (YX.out.fr f6 (fun f => f))
        have F6 := Lib.hid (FX.out.trans f6)
        clear f6
        clear s0 s1 s2 s3 s4 s40 s41 s42 s43
        obtain ⟨t0, t1, t2, t3, t4⟩ := ZZ.out
        have t40 := t4 0
        have t41 := t4 1
        have t42 := t4 2
        have t43 := t4 3
        obtain ⟨s0, s1, s2, s3, s4⟩ := YY.out
        have s40 := s4 0
        have s41 := s4 1
        have s42 := s4 2
        have s43 := s4 3
        rcases m with _ | _
        · obtain ⟨q4, f4⟩ := TokB.four (k := 0) (n := 0) (S := ⟨#[]⟩) (a := 0) (ZZ.out)
          unfold Pl.four at q4 f4
          go_wp2_with fail
          revert q4 f4
          generalize ((((w6.setCell { block := W.heap.size, off := 0 } (Value.int IntKind.i64 0)).setCell { block := W.heap.size, off := 1 } (Value.int IntKind.i64 0)).setCell { block := W.heap.size, off := 2 } (Value.string { data := #[] })).setCell { block := W.heap.size, off := 3 } (Value.int IntKind.i64 0)) = Z'
          rintro ⟨z0, z1, z2, z3, z4⟩ f4
          refine bodyPost_ret (v := .tuple #[Pl.tokv 0 0 [] 0, .int .i64 0, .int .i64 3]) (by simp [results, Try.results62, go_sem, Pl.tokv, z0, z1, z2, z3]; rfl) rfl (WINH.out 3 _ _ _ _ _ _ (by rw [HR1.out]; rfl) (fun q => by omega) (fr_born F6.out f4 (Nat.le_refl _)))
        · obtain ⟨q4, f4⟩ := TokB.four (k := (c : Int)) (n := U) (S := ⟨#[]⟩) (a := (a : Int)) (ZZ.out)
          unfold Pl.four at q4 f4
          go_wp2_with fail
          revert q4 f4
          generalize ((((w6.setCell { block := W.heap.size, off := 0 } (Value.int IntKind.i64 (c : Int))).setCell { block := W.heap.size, off := 1 } (Value.int IntKind.i64 U)).setCell { block := W.heap.size, off := 2 } (Value.string { data := #[] })).setCell { block := W.heap.size, off := 3 } (Value.int IntKind.i64 (a : Int))) = Z'
          rintro ⟨z0, z1, z2, z3, z4⟩ f4
          refine bodyPost_ret (v := .tuple #[Pl.tokv (c : Int) U [] (a : Int), .int .i64 nx, .int .i64 0]) (by simp [results, Try.results62, go_sem, Pl.tokv, z0, z1, z2, z3]; rfl) rfl (WINH.out 0 _ _ _ _ _ _ (by rw [HR1.out]; rfl) (fun q => ⟨by rw [HR1.out]; rfl, by rw [HR1.out]; exact (Int.toNat_of_nonneg HX.out).symm⟩) (fr_born F6.out f4 (Nat.le_refl _)))
      · have k1b : (n % 2 == 1) = false := beq_eq_false_iff_ne.2 k1
        go_enter Try.func62, Try.ntmps62
        go_wp2_with fail
        rw [← HW2.out]
        refine (SGH.out _).mono ?_
        rintro x w9 ⟨rfl, rfl⟩
        obtain ⟨s0, s1, s2, s3, s4⟩ := Y2.out
        have s40 := s4 0
        have s41 := s4 1
        have s42 := s4 2
        have s43 := s4 3
        go_wp2_with fail
        refine (CT1H.out _ FW2.out).mono ?_
        rintro x w2 ⟨rfl, g2⟩
        have f2 := Fr.of_grown (fun _ => False) g2
        have ZW := Lib.hid (Z2.out.fr f2 (fun f => f))
        have YW := Lib.hid (Y2.out.fr f2 (fun f => f))
        have F2 := Lib.hid (FW2.out.trans f2)
        clear g2 f2 s0 s1 s2 s3 s4 s40 s41 s42 s43
        obtain ⟨s0, s1, s2, s3, s4⟩ := YW.out
        have s40 := s4 0
        have s41 := s4 1
        have s42 := s4 2
        have s43 := s4 3
        go_wp2_with fail
        rw [k2]
        have y5 := TokB.putN (n' := U) YW.out
        have f5 := Fr.setCell (fun q => q = W.heap.size + 1) w2 ⟨W.heap.size + 1, 1, none⟩ (.int .i64 U) rfl
        clear s0 s1 s2 s3 s4 s40 s41 s42 s43
        revert y5 f5
        generalize (w2.setCell { block := W.heap.size + 1, off := 1 } (Value.int IntKind.i64 U)) = w5
        intro y5 f5
        have Y5 := Lib.hid y5
        have Z5 := Lib.hid (ZW.out.fr f5 (fun f => by omega))
        have F5 := Lib.hid (fr_born F2.out f5 (by omega))
        clear y5 f5
        obtain ⟨s0, s1, s2, s3, s4⟩ := Y5.out
        have s40 := s4 0
        have s41 := s4 1
        have s42 := s4 2
        have s43 := s4 3
        refine (TXH.out _).mono ?_
        rintro x w9 ⟨rfl, rfl⟩
        go_wp2_with fail
        have ZX := Z5
        have YX := Y5
        have FX := F5
        refine (MBH.out _).mono ?_
        rintro x w6 ⟨rfl, f6⟩
        have ZZ := Lib.hid (ZX.out.fr f6 (fun f => f))
        have YY := Lib.hid (YX.out.fr f6 (fun f => f))
        have F6 := Lib.hid (FX.out.trans f6)
        clear f6
        clear s0 s1 s2 s3 s4 s40 s41 s42 s43
        obtain ⟨t0, t1, t2, t3, t4⟩ := ZZ.out
        have t40 := t4 0
        have t41 := t4 1
        have t42 := t4 2
        have t43 := t4 3
        obtain ⟨s0, s1, s2, s3, s4⟩ := YY.out
        have s40 := s4 0
        have s41 := s4 1
        have s42 := s4 2
        have s43 := s4 3
        rcases m with _ | _
        · obtain ⟨q4, f4⟩ := TokB.four (k := 0) (n := 0) (S := ⟨#[]⟩) (a := 0) (ZZ.out)
          unfold Pl.four at q4 f4
          go_wp2_with fail
          revert q4 f4
          generalize ((((w6.setCell { block := W.heap.size, off := 0 } (Value.int IntKind.i64 0)).setCell { block := W.heap.size, off := 1 } (Value.int IntKind.i64 0)).setCell { block := W.heap.size, off := 2 } (Value.string { data := #[] })).setCell { block := W.heap.size, off := 3 } (Value.int IntKind.i64 0)) = Z'
          rintro ⟨z0, z1, z2, z3, z4⟩ f4
          refine bodyPost_ret (v := .tuple #[Pl.tokv 0 0 [] 0, .int .i64 0, .int .i64 3]) (by simp [results, Try.results62, go_sem, Pl.tokv, z0, z1, z2, z3]; rfl) rfl (WINH.out 3 _ _ _ _ _ _ (by rw [HR1.out]; rfl) (fun q => by omega) (fr_born F6.out f4 (Nat.le_refl _)))
        · obtain ⟨q4, f4⟩ := TokB.four (k := (c : Int)) (n := U) (S := ⟨#[]⟩) (a := (a : Int)) (ZZ.out)
          unfold Pl.four at q4 f4
          go_wp2_with fail
          revert q4 f4
          generalize ((((w6.setCell { block := W.heap.size, off := 0 } (Value.int IntKind.i64 (c : Int))).setCell { block := W.heap.size, off := 1 } (Value.int IntKind.i64 U)).setCell { block := W.heap.size, off := 2 } (Value.string { data := #[] })).setCell { block := W.heap.size, off := 3 } (Value.int IntKind.i64 (a : Int))) = Z'
          rintro ⟨z0, z1, z2, z3, z4⟩ f4
          refine bodyPost_ret (v := .tuple #[Pl.tokv (c : Int) U [] (a : Int), .int .i64 nx, .int .i64 0]) (by simp [results, Try.results62, go_sem, Pl.tokv, z0, z1, z2, z3]; rfl) rfl (WINH.out 0 _ _ _ _ _ _ (by rw [HR1.out]; rfl) (fun q => ⟨by rw [HR1.out]; rfl, by rw [HR1.out]; exact (Int.toNat_of_nonneg HX.out).symm⟩) (fr_born F6.out f4 (Nat.le_refl _)))
    · have hR1 : R.1 = e := by
        rw [HR.out]; unfold Pl.wordB
        rw [if_neg (by have := HCC.out; omega), if_pos (by have := HCC.out; omega), if_pos he]
      have HR1 := Lib.hid hR1
      have heb : (e != 0) = true := bne_iff_ne.2 he
      have HE := Lib.hid he
      clear he HR HBD hR1 HM
      go_enter Try.func62, Try.ntmps62
      go_wp2_with fail
      rw [← HW2.out]
      refine (SGH.out _).mono ?_
      rintro x w9 ⟨rfl, rfl⟩
      obtain ⟨s0, s1, s2, s3, s4⟩ := Y2.out
      have s40 := s4 0
      have s41 := s4 1
      have s42 := s4 2
      have s43 := s4 3
      go_wp2_with fail
      refine (CT1H.out _ FW2.out).mono ?_
      rintro x w2 ⟨rfl, g2⟩
      have f2 := Fr.of_grown (fun _ => False) g2
      have ZW := Lib.hid (Z2.out.fr f2 (fun f => f))
      have YW := Lib.hid (Y2.out.fr f2 (fun f => f))
      have F2 := Lib.hid (FW2.out.trans f2)
      clear g2 f2 s0 s1 s2 s3 s4 s40 s41 s42 s43
      obtain ⟨s0, s1, s2, s3, s4⟩ := YW.out
      have s40 := s4 0
      have s41 := s4 1
      have s42 := s4 2
      have s43 := s4 3
      have ZZ := ZW
      obtain ⟨t0, t1, t2, t3, t4⟩ := ZZ.out
      have t40 := t4 0
      have t41 := t4 1
      have t42 := t4 2
      have t43 := t4 3
      obtain ⟨q4, f4⟩ := TokB.four (k := 0) (n := 0) (S := ⟨#[]⟩) (a := 0) (ZZ.out)
      unfold Pl.four at q4 f4
      go_wp2_with fail
      revert q4 f4
      generalize ((((w2.setCell { block := W.heap.size, off := 0 } (Value.int IntKind.i64 0)).setCell { block := W.heap.size, off := 1 } (Value.int IntKind.i64 0)).setCell { block := W.heap.size, off := 2 } (Value.string { data := #[] })).setCell { block := W.heap.size, off := 3 } (Value.int IntKind.i64 0)) = Z'
      rintro ⟨z0, z1, z2, z3, z4⟩ f4
      refine bodyPost_ret (v := .tuple #[Pl.tokv 0 0 [] 0, .int .i64 0, .int .i64 e]) (by simp [results, Try.results62, go_sem, Pl.tokv, z0, z1, z2, z3]; rfl) rfl (WINH.out e _ _ _ _ _ _ (HR1.out) (fun q => absurd q HE.out) (fr_born F2.out f4 (Nat.le_refl _)))
  · have ha1 : a + 1 ≤ M := by omega
    have hcI : 1 ≤ (c : Int) := by omega
    have hcJ : (c : Int) ≤ 12 := by omega
    have HCC := Lib.hid hcc
    have CT1 : ∀ Z, Fr (fun _ => False) W Z → Calls Try.prog 74 #[.slice (some ⟨g, o, none⟩) M cap, .int .i64 ((a : Int) + 1)] Z fun x w' => x = .returned (.tuple #[.int .i64 n, .int .i64 nx, .int .i64 e]) ∧ Grown Z w' := fun Z hz => by
      have := CTH.out Z (by have := HV.out.fr0 hz; rw [← HM.out] at this; exact this)
      rw [show ((a + 1 : Nat) : Int) = (a : Int) + 1 by omega] at this
      exact this
    have CT1H := Lib.hid CT1
    have SG := fun Z => rsigned9 (c : Int) Z
    rw [decide_eq_false (show ¬ ((c : Int) = 1 ∨ (c : Int) = 2) by omega)] at SG
    have SGH := Lib.hid SG
    have TX := fun Z => rtext9 (c : Int) Z
    rw [decide_eq_true (show (3 ≤ (c : Int) ∧ (c : Int) ≤ 6) by omega)] at TX
    have TXH := Lib.hid TX
    clear SG TX CT1 CTH hcc
    by_cases he : e = 0
    · subst he
      obtain ⟨n0, n1, x0, x1⟩ := HBD.out rfl
      obtain ⟨U, hU⟩ : ∃ U, U = Pl.unf n := ⟨_, rfl⟩
      have key : (n % 2 = 1 ∧ (-(n + 1)).tdiv 2 = U) ∨ (¬ n % 2 = 1 ∧ n / 2 = U) := by
        rw [hU]; unfold Pl.unf
        rw [Int.neg_tdiv, Int.tdiv_eq_ediv_of_nonneg (by omega)]
        split <;> omega
      have u0 : -34359738368 ≤ U ∧ U ≤ 34359738368 := by rw [hU]; unfold Pl.unf; split <;> omega
      clear hU
      have hR0 := HR.out
      unfold Pl.wordB at hR0
      rw [if_neg (by have := HCC.out; omega), if_neg (by have := HCC.out; omega), if_pos (by have := HCC.out; omega), if_neg (show ¬ (0 : Int) ≠ 0 by omega)] at hR0
      change R = if 4000 < n then ((3 : Int), ((0 : Int), (0 : Int), ([] : List UInt8)), (0 : Nat)) else if (L.length : Int) - nx < n then (4, (0, 0, []), 0) else if Pl.tokMay c 0 ((L.drop nx.toNat).take n.toNat) = false then (3, (0, 0, []), 0) else (0, ((c : Int), 0, (L.drop nx.toNat).take n.toNat), nx.toNat + n.toNat) at hR0
      rw [← HM.out] at hR0
      have x2 : 0 ≤ nx := by omega
      have HX := Lib.hid (show 0 ≤ nx ∧ 0 ≤ n from ⟨x2, n0⟩)
      clear HR x0
      by_cases h4 : 4000 < n
      · rw [if_pos h4] at hR0
        have HR1 := Lib.hid hR0
        clear hR0 HM HBD
        rcases key with ⟨k1, k2⟩ | ⟨k1, k2⟩
        · have k1b : (n % 2 == 1) = true := by rw [k1]; rfl
          go_enter Try.func62, Try.ntmps62
          go_wp2_with fail
          rw [← HW2.out]
          refine (SGH.out _).mono ?_
          rintro x w9 ⟨rfl, rfl⟩
          obtain ⟨s0, s1, s2, s3, s4⟩ := Y2.out
          have s40 := s4 0
          have s41 := s4 1
          have s42 := s4 2
          have s43 := s4 3
          go_wp2_with fail
          refine (TXH.out _).mono ?_
          rintro x w9 ⟨rfl, rfl⟩
          go_wp2_with fail
          refine (CT1H.out _ FW2.out).mono ?_
          rintro x w2 ⟨rfl, g2⟩
          have f2 := Fr.of_grown (fun _ => False) g2
          have ZW := Lib.hid (Z2.out.fr f2 (fun f => f))
          have YW := Lib.hid (Y2.out.fr f2 (fun f => f))
          have F2 := Lib.hid (FW2.out.trans f2)
          clear g2 f2 s0 s1 s2 s3 s4 s40 s41 s42 s43
          obtain ⟨s0, s1, s2, s3, s4⟩ := YW.out
          have s40 := s4 0
          have s41 := s4 1
          have s42 := s4 2
          have s43 := s4 3
          go_wp2_with fail
          have y5 := TokB.putN (n' := U) (TokB.putN (n' := n / 2) YW.out)
          have f5 := (Fr.setCell (fun q => q = W.heap.size + 1) w2 ⟨W.heap.size + 1, 1, none⟩ (.int .i64 (n / 2)) rfl).trans (Fr.setCell (fun q => q = W.heap.size + 1) _ ⟨W.heap.size + 1, 1, none⟩ (.int .i64 U) rfl)
          clear s0 s1 s2 s3 s4 s40 s41 s42 s43
          revert y5 f5
          generalize ((w2.setCell { block := W.heap.size + 1, off := 1 } (Value.int IntKind.i64 (n / 2))).setCell { block := W.heap.size + 1, off := 1 } (Value.int IntKind.i64 U)) = w5
          intro y5 f5
          have Y5 := Lib.hid y5
          have Z5 := Lib.hid (ZW.out.fr f5 (fun f => by omega))
          have F5 := Lib.hid (fr_born F2.out f5 (by omega))
          clear y5 f5
          obtain ⟨s0, s1, s2, s3, s4⟩ := Y5.out
          have s40 := s4 0
          have s41 := s4 1
          have s42 := s4 2
          have s43 := s4 3
          refine (TXH.out _).mono ?_
          rintro x w9 ⟨rfl, rfl⟩
          have Y6 := Lib.hid (TokB.putN (n' := 0) Y5.out)
          have f6 := Fr.setCell (fun q => q = W.heap.size + 1) w5 ⟨W.heap.size + 1, 1, none⟩ (.int .i64 0) rfl
          have Z6 := Lib.hid (Z5.out.fr f6 (fun f => by omega))
          have F6 := Lib.hid (fr_born F5.out f6 (by omega))
          clear f6
          obtain ⟨t0, t1, t2, t3, t4⟩ := Z5.out
          have t40 := t4 0
          have t41 := t4 1
          have t42 := t4 2
          have t43 := t4 3
          have ZZ := Z6
          obtain ⟨q4, f4⟩ := TokB.four (k := 0) (n := 0) (S := ⟨#[]⟩) (a := 0) (ZZ.out)
          unfold Pl.four at q4 f4
          go_wp2_with fail
          revert q4 f4
          generalize (((((w5.setCell { block := W.heap.size + 1, off := 1 } (Value.int IntKind.i64 0)).setCell { block := W.heap.size, off := 0 } (Value.int IntKind.i64 0)).setCell { block := W.heap.size, off := 1 } (Value.int IntKind.i64 0)).setCell { block := W.heap.size, off := 2 } (Value.string { data := #[] })).setCell { block := W.heap.size, off := 3 } (Value.int IntKind.i64 0)) = Z'
          rintro ⟨z0, z1, z2, z3, z4⟩ f4
          refine bodyPost_ret (v := .tuple #[Pl.tokv 0 0 [] 0, .int .i64 0, .int .i64 3]) (by simp [results, Try.results62, go_sem, Pl.tokv, z0, z1, z2, z3]; rfl) rfl (WINH.out 3 _ _ _ _ _ _ (by rw [HR1.out]) (fun q => by omega) (fr_born F6.out f4 (Nat.le_refl _)))
        · have k1b : (n % 2 == 1) = false := beq_eq_false_iff_ne.2 k1
          go_enter Try.func62, Try.ntmps62
          go_wp2_with fail
          rw [← HW2.out]
          refine (SGH.out _).mono ?_
          rintro x w9 ⟨rfl, rfl⟩
          obtain ⟨s0, s1, s2, s3, s4⟩ := Y2.out
          have s40 := s4 0
          have s41 := s4 1
          have s42 := s4 2
          have s43 := s4 3
          go_wp2_with fail
          refine (TXH.out _).mono ?_
          rintro x w9 ⟨rfl, rfl⟩
          go_wp2_with fail
          refine (CT1H.out _ FW2.out).mono ?_
          rintro x w2 ⟨rfl, g2⟩
          have f2 := Fr.of_grown (fun _ => False) g2
          have ZW := Lib.hid (Z2.out.fr f2 (fun f => f))
          have YW := Lib.hid (Y2.out.fr f2 (fun f => f))
          have F2 := Lib.hid (FW2.out.trans f2)
          clear g2 f2 s0 s1 s2 s3 s4 s40 s41 s42 s43
          obtain ⟨s0, s1, s2, s3, s4⟩ := YW.out
          have s40 := s4 0
          have s41 := s4 1
          have s42 := s4 2
          have s43 := s4 3
          go_wp2_with fail
          rw [k2]
          have y5 := TokB.putN (n' := U) YW.out
          have f5 := Fr.setCell (fun q => q = W.heap.size + 1) w2 ⟨W.heap.size + 1, 1, none⟩ (.int .i64 U) rfl
          clear s0 s1 s2 s3 s4 s40 s41 s42 s43
          revert y5 f5
          generalize (w2.setCell { block := W.heap.size + 1, off := 1 } (Value.int IntKind.i64 U)) = w5
          intro y5 f5
          have Y5 := Lib.hid y5
          have Z5 := Lib.hid (ZW.out.fr f5 (fun f => by omega))
          have F5 := Lib.hid (fr_born F2.out f5 (by omega))
          clear y5 f5
          obtain ⟨s0, s1, s2, s3, s4⟩ := Y5.out
          have s40 := s4 0
          have s41 := s4 1
          have s42 := s4 2
          have s43 := s4 3
          refine (TXH.out _).mono ?_
          rintro x w9 ⟨rfl, rfl⟩
          have Y6 := Lib.hid (TokB.putN (n' := 0) Y5.out)
          have f6 := Fr.setCell (fun q => q = W.heap.size + 1) w5 ⟨W.heap.size + 1, 1, none⟩ (.int .i64 0) rfl
          have Z6 := Lib.hid (Z5.out.fr f6 (fun f => by omega))
          have F6 := Lib.hid (fr_born F5.out f6 (by omega))
          clear f6
          obtain ⟨t0, t1, t2, t3, t4⟩ := Z5.out
          have t40 := t4 0
          have t41 := t4 1
          have t42 := t4 2
          have t43 := t4 3
          have ZZ := Z6
          obtain ⟨q4, f4⟩ := TokB.four (k := 0) (n := 0) (S := ⟨#[]⟩) (a := 0) (ZZ.out)
          unfold Pl.four at q4 f4
          go_wp2_with fail
          revert q4 f4
          generalize (((((w5.setCell { block := W.heap.size + 1, off := 1 } (Value.int IntKind.i64 0)).setCell { block := W.heap.size, off := 0 } (Value.int IntKind.i64 0)).setCell { block := W.heap.size, off := 1 } (Value.int IntKind.i64 0)).setCell { block := W.heap.size, off := 2 } (Value.string { data := #[] })).setCell { block := W.heap.size, off := 3 } (Value.int IntKind.i64 0)) = Z'
          rintro ⟨z0, z1, z2, z3, z4⟩ f4
          refine bodyPost_ret (v := .tuple #[Pl.tokv 0 0 [] 0, .int .i64 0, .int .i64 3]) (by simp [results, Try.results62, go_sem, Pl.tokv, z0, z1, z2, z3]; rfl) rfl (WINH.out 3 _ _ _ _ _ _ (by rw [HR1.out]) (fun q => by omega) (fr_born F6.out f4 (Nat.le_refl _)))
      rw [if_neg h4] at hR0
      by_cases h5 : (M : Int) - nx < n
      · rw [if_pos h5] at hR0
        have HR1 := Lib.hid hR0
        have h6 : (M : Int) < nx + n := by omega
        clear hR0 HM HBD
        rcases key with ⟨k1, k2⟩ | ⟨k1, k2⟩
        · have k1b : (n % 2 == 1) = true := by rw [k1]; rfl
          go_enter Try.func62, Try.ntmps62
          go_wp2_with fail
          rw [← HW2.out]
          refine (SGH.out _).mono ?_
          rintro x w9 ⟨rfl, rfl⟩
          obtain ⟨s0, s1, s2, s3, s4⟩ := Y2.out
          have s40 := s4 0
          have s41 := s4 1
          have s42 := s4 2
          have s43 := s4 3
          go_wp2_with fail
          refine (TXH.out _).mono ?_
          rintro x w9 ⟨rfl, rfl⟩
          go_wp2_with fail
          refine (CT1H.out _ FW2.out).mono ?_
          rintro x w2 ⟨rfl, g2⟩
          have f2 := Fr.of_grown (fun _ => False) g2
          have ZW := Lib.hid (Z2.out.fr f2 (fun f => f))
          have YW := Lib.hid (Y2.out.fr f2 (fun f => f))
          have F2 := Lib.hid (FW2.out.trans f2)
          clear g2 f2 s0 s1 s2 s3 s4 s40 s41 s42 s43
          obtain ⟨s0, s1, s2, s3, s4⟩ := YW.out
          have s40 := s4 0
          have s41 := s4 1
          have s42 := s4 2
          have s43 := s4 3
          go_wp2_with fail
          have y5 := TokB.putN (n' := U) (TokB.putN (n' := n / 2) YW.out)
          have f5 := (Fr.setCell (fun q => q = W.heap.size + 1) w2 ⟨W.heap.size + 1, 1, none⟩ (.int .i64 (n / 2)) rfl).trans (Fr.setCell (fun q => q = W.heap.size + 1) _ ⟨W.heap.size + 1, 1, none⟩ (.int .i64 U) rfl)
          clear s0 s1 s2 s3 s4 s40 s41 s42 s43
          revert y5 f5
          generalize ((w2.setCell { block := W.heap.size + 1, off := 1 } (Value.int IntKind.i64 (n / 2))).setCell { block := W.heap.size + 1, off := 1 } (Value.int IntKind.i64 U)) = w5
          intro y5 f5
          have Y5 := Lib.hid y5
          have Z5 := Lib.hid (ZW.out.fr f5 (fun f => by omega))
          have F5 := Lib.hid (fr_born F2.out f5 (by omega))
          clear y5 f5
          obtain ⟨s0, s1, s2, s3, s4⟩ := Y5.out
          have s40 := s4 0
          have s41 := s4 1
          have s42 := s4 2
          have s43 := s4 3
          refine (TXH.out _).mono ?_
          rintro x w9 ⟨rfl, rfl⟩
          have Y6 := Lib.hid (TokB.putN (n' := 0) Y5.out)
          have f6 := Fr.setCell (fun q => q = W.heap.size + 1) w5 ⟨W.heap.size + 1, 1, none⟩ (.int .i64 0) rfl
          have Z6 := Lib.hid (Z5.out.fr f6 (fun f => by omega))
          have F6 := Lib.hid (fr_born F5.out f6 (by omega))
          clear f6
          obtain ⟨t0, t1, t2, t3, t4⟩ := Z5.out
          have t40 := t4 0
          have t41 := t4 1
          have t42 := t4 2
          have t43 := t4 3
          have ZZ := Z6
          obtain ⟨q4, f4⟩ := TokB.four (k := 0) (n := 0) (S := ⟨#[]⟩) (a := 0) (ZZ.out)
          unfold Pl.four at q4 f4
          go_wp2_with fail
          revert q4 f4
          generalize (((((w5.setCell { block := W.heap.size + 1, off := 1 } (Value.int IntKind.i64 0)).setCell { block := W.heap.size, off := 0 } (Value.int IntKind.i64 0)).setCell { block := W.heap.size, off := 1 } (Value.int IntKind.i64 0)).setCell { block := W.heap.size, off := 2 } (Value.string { data := #[] })).setCell { block := W.heap.size, off := 3 } (Value.int IntKind.i64 0)) = Z'
          rintro ⟨z0, z1, z2, z3, z4⟩ f4
          refine bodyPost_ret (v := .tuple #[Pl.tokv 0 0 [] 0, .int .i64 0, .int .i64 4]) (by simp [results, Try.results62, go_sem, Pl.tokv, z0, z1, z2, z3]; rfl) rfl (WINH.out 4 _ _ _ _ _ _ (by rw [HR1.out]) (fun q => by omega) (fr_born F6.out f4 (Nat.le_refl _)))
        · have k1b : (n % 2 == 1) = false := beq_eq_false_iff_ne.2 k1
          go_enter Try.func62, Try.ntmps62
          go_wp2_with fail
          rw [← HW2.out]
          refine (SGH.out _).mono ?_
          rintro x w9 ⟨rfl, rfl⟩
          obtain ⟨s0, s1, s2, s3, s4⟩ := Y2.out
          have s40 := s4 0
          have s41 := s4 1
          have s42 := s4 2
          have s43 := s4 3
          go_wp2_with fail
          refine (TXH.out _).mono ?_
          rintro x w9 ⟨rfl, rfl⟩
          go_wp2_with fail
          refine (CT1H.out _ FW2.out).mono ?_
          rintro x w2 ⟨rfl, g2⟩
          have f2 := Fr.of_grown (fun _ => False) g2
          have ZW := Lib.hid (Z2.out.fr f2 (fun f => f))
          have YW := Lib.hid (Y2.out.fr f2 (fun f => f))
          have F2 := Lib.hid (FW2.out.trans f2)
          clear g2 f2 s0 s1 s2 s3 s4 s40 s41 s42 s43
          obtain ⟨s0, s1, s2, s3, s4⟩ := YW.out
          have s40 := s4 0
          have s41 := s4 1
          have s42 := s4 2
          have s43 := s4 3
          go_wp2_with fail
          rw [k2]
          have y5 := TokB.putN (n' := U) YW.out
          have f5 := Fr.setCell (fun q => q = W.heap.size + 1) w2 ⟨W.heap.size + 1, 1, none⟩ (.int .i64 U) rfl
          clear s0 s1 s2 s3 s4 s40 s41 s42 s43
          revert y5 f5
          generalize (w2.setCell { block := W.heap.size + 1, off := 1 } (Value.int IntKind.i64 U)) = w5
          intro y5 f5
          have Y5 := Lib.hid y5
          have Z5 := Lib.hid (ZW.out.fr f5 (fun f => by omega))
          have F5 := Lib.hid (fr_born F2.out f5 (by omega))
          clear y5 f5
          obtain ⟨s0, s1, s2, s3, s4⟩ := Y5.out
          have s40 := s4 0
          have s41 := s4 1
          have s42 := s4 2
          have s43 := s4 3
          refine (TXH.out _).mono ?_
          rintro x w9 ⟨rfl, rfl⟩
          have Y6 := Lib.hid (TokB.putN (n' := 0) Y5.out)
          have f6 := Fr.setCell (fun q => q = W.heap.size + 1) w5 ⟨W.heap.size + 1, 1, none⟩ (.int .i64 0) rfl
          have Z6 := Lib.hid (Z5.out.fr f6 (fun f => by omega))
          have F6 := Lib.hid (fr_born F5.out f6 (by omega))
          clear f6
          obtain ⟨t0, t1, t2, t3, t4⟩ := Z5.out
          have t40 := t4 0
          have t41 := t4 1
          have t42 := t4 2
          have t43 := t4 3
          have ZZ := Z6
          obtain ⟨q4, f4⟩ := TokB.four (k := 0) (n := 0) (S := ⟨#[]⟩) (a := 0) (ZZ.out)
          unfold Pl.four at q4 f4
          go_wp2_with fail
          revert q4 f4
          generalize (((((w5.setCell { block := W.heap.size + 1, off := 1 } (Value.int IntKind.i64 0)).setCell { block := W.heap.size, off := 0 } (Value.int IntKind.i64 0)).setCell { block := W.heap.size, off := 1 } (Value.int IntKind.i64 0)).setCell { block := W.heap.size, off := 2 } (Value.string { data := #[] })).setCell { block := W.heap.size, off := 3 } (Value.int IntKind.i64 0)) = Z'
          rintro ⟨z0, z1, z2, z3, z4⟩ f4
          refine bodyPost_ret (v := .tuple #[Pl.tokv 0 0 [] 0, .int .i64 0, .int .i64 4]) (by simp [results, Try.results62, go_sem, Pl.tokv, z0, z1, z2, z3]; rfl) rfl (WINH.out 4 _ _ _ _ _ _ (by rw [HR1.out]) (fun q => by omega) (fr_born F6.out f4 (Nat.le_refl _)))
      rw [if_neg h5] at hR0
      have h6 : ¬ (M : Int) < nx + n := by omega
      obtain ⟨v2, hs2, hr2⟩ := slice30 HV.out nx.toNat (nx.toNat + n.toNat) (by omega) (by have := HM.out; omega)
      rw [← HM.out, show ((nx.toNat + n.toNat : Nat) : Int) = nx + n by omega, show ((nx.toNat : Nat) : Int) = nx by omega] at hs2
      rw [show nx.toNat + n.toNat - nx.toNat = n.toNat by omega] at hr2
      obtain ⟨D, hD⟩ : ∃ D, D = (L.drop nx.toNat).take n.toNat := ⟨_, rfl⟩
      rw [← hD] at hr2 hR0
      have hDl : D.length ≤ 4000 := by rw [hD, List.length_take]; omega
      have HR2 := Lib.hid hr2
      have kc : ∀ Z, Fr (fun _ => False) W Z → (convert 30 9 v2).run Try.prog Z = .ok (.string (Pl.tx D)) Z := fun Z hz => conv30 (HR2.out.fr0 hz)
      have KC := Lib.hid kc
      have MB := fun Z => rtmay_any (c : Int) 0 D (a : Int) (by omega) Z
      obtain ⟨m, hm⟩ : ∃ m, m = Pl.tokMay (c : Int) 0 D := ⟨_, rfl⟩
      rw [← hm] at MB hR0
      unfold Pl.tokv at MB
      have MBH := Lib.hid MB
      have HR1 := Lib.hid hR0
      clear hR0 HM HBD hr2 kc MB hm hD hDl
      rcases key with ⟨k1, k2⟩ | ⟨k1, k2⟩
      · have k1b : (n % 2 == 1) = true := by rw [k1]; rfl
        go_enter Try.func62, Try.ntmps62
        go_wp2_with fail
        rw [← HW2.out]
        refine (SGH.out _).mono ?_
        rintro x w9 ⟨rfl, rfl⟩
        obtain ⟨s0, s1, s2, s3, s4⟩ := Y2.out
        have s40 := s4 0
        have s41 := s4 1
        have s42 := s4 2
        have s43 := s4 3
        go_wp2_with fail
        refine (TXH.out _).mono ?_
        rintro x w9 ⟨rfl, rfl⟩
        go_wp2_with fail
        refine (CT1H.out _ FW2.out).mono ?_
        rintro x w2 ⟨rfl, g2⟩
        have f2 := Fr.of_grown (fun _ => False) g2
        have ZW := Lib.hid (Z2.out.fr f2 (fun f => f))
        have YW := Lib.hid (Y2.out.fr f2 (fun f => f))
        have F2 := Lib.hid (FW2.out.trans f2)
        clear g2 f2 s0 s1 s2 s3 s4 s40 s41 s42 s43
        obtain ⟨s0, s1, s2, s3, s4⟩ := YW.out
        have s40 := s4 0
        have s41 := s4 1
        have s42 := s4 2
        have s43 := s4 3
        go_wp2_with fail
        have y5 := TokB.putN (n' := U) (TokB.putN (n' := n / 2) YW.out)
        have f5 := (Fr.setCell (fun q => q = W.heap.size + 1) w2 ⟨W.heap.size + 1, 1, none⟩ (.int .i64 (n / 2)) rfl).trans (Fr.setCell (fun q => q = W.heap.size + 1) _ ⟨W.heap.size + 1, 1, none⟩ (.int .i64 U) rfl)
        clear s0 s1 s2 s3 s4 s40 s41 s42 s43
        revert y5 f5
        generalize ((w2.setCell { block := W.heap.size + 1, off := 1 } (Value.int IntKind.i64 (n / 2))).setCell { block := W.heap.size + 1, off := 1 } (Value.int IntKind.i64 U)) = w5
        intro y5 f5
        have Y5 := Lib.hid y5
        have Z5 := Lib.hid (ZW.out.fr f5 (fun f => by omega))
        have F5 := Lib.hid (fr_born F2.out f5 (by omega))
        clear y5 f5
        obtain ⟨s0, s1, s2, s3, s4⟩ := Y5.out
        have s40 := s4 0
        have s41 := s4 1
        have s42 := s4 2
        have s43 := s4 3
        refine (TXH.out _).mono ?_
        rintro x w9 ⟨rfl, rfl⟩
        have Y6 := Lib.hid (TokB.putN (n' := 0) Y5.out)
        have f6 := Fr.setCell (fun q => q = W.heap.size + 1) w5 ⟨W.heap.size + 1, 1, none⟩ (.int .i64 0) rfl
        have Z6 := Lib.hid (Z5.out.fr f6 (fun f => by omega))
        have F6 := Lib.hid (fr_born F5.out f6 (by omega))
        clear f6
        have kc1 := KC.out _ F6.out
        go_wp2_with fail
        have y7 := TokB.putS (S' := Pl.tx D) Y6.out
        have f7 := Fr.setCell (fun q => q = W.heap.size + 1) (w5.setCell ⟨W.heap.size + 1, 1, none⟩ (.int .i64 0)) ⟨W.heap.size + 1, 2, none⟩ (.string (Pl.tx D)) rfl
        have z7 := Z6.out.fr f7 (fun f => by omega)
        have F7 := Lib.hid (fr_born F6.out f7 (by omega))
        have FX := Lib.hid F7.out
        clear s0 s1 s2 s3 s4 s40 s41 s42 s43 f7 F7
        revert y7 z7 FX
        generalize ((w5.setCell { block := W.heap.size + 1, off := 1 } (Value.int IntKind.i64 0)).setCell { block := W.heap.size + 1, off := 2 } (Value.string (Pl.tx D))) = w7
        intro y7 z7 FX
        have ZX := Lib.hid z7
        have YX := Lib.hid y7
        clear y7 z7
        refine (MBH.out _).mono ?_
        rintro x w6 ⟨rfl, f6⟩
        have ZZ := Lib.hid (ZX.out.fr f6 (fun f => f))
        have YY := Lib.hid (YX.out.fr f6 (fun f => f))
        have F8 := Lib.hid (FX.out.trans f6)
        clear f6
        obtain ⟨t0, t1, t2, t3, t4⟩ := ZZ.out
        have t40 := t4 0
        have t41 := t4 1
        have t42 := t4 2
        have t43 := t4 3
        obtain ⟨s0, s1, s2, s3, s4⟩ := YY.out
        have s40 := s4 0
        have s41 := s4 1
        have s42 := s4 2
        have s43 := s4 3
        rcases m with _ | _
        · obtain ⟨q4, f4⟩ := TokB.four (k := 0) (n := 0) (S := ⟨#[]⟩) (a := 0) (ZZ.out)
          unfold Pl.four at q4 f4
          go_wp2_with fail
          revert q4 f4
          generalize ((((w6.setCell { block := W.heap.size, off := 0 } (Value.int IntKind.i64 0)).setCell { block := W.heap.size, off := 1 } (Value.int IntKind.i64 0)).setCell { block := W.heap.size, off := 2 } (Value.string { data := #[] })).setCell { block := W.heap.size, off := 3 } (Value.int IntKind.i64 0)) = Z'
          rintro ⟨z0, z1, z2, z3, z4⟩ f4
          refine bodyPost_ret (v := .tuple #[Pl.tokv 0 0 [] 0, .int .i64 0, .int .i64 3]) (by simp [results, Try.results62, go_sem, Pl.tokv, z0, z1, z2, z3]; rfl) rfl (WINH.out 3 _ _ _ _ _ _ (by rw [HR1.out]; rfl) (fun q => by omega) (fr_born F8.out f4 (Nat.le_refl _)))
        · obtain ⟨q4, f4⟩ := TokB.four (k := (c : Int)) (n := 0) (S := (Pl.tx D)) (a := (a : Int)) (ZZ.out)
          unfold Pl.four at q4 f4
          go_wp2_with fail
          revert q4 f4
          generalize ((((w6.setCell { block := W.heap.size, off := 0 } (Value.int IntKind.i64 (c : Int))).setCell { block := W.heap.size, off := 1 } (Value.int IntKind.i64 0)).setCell { block := W.heap.size, off := 2 } (Value.string (Pl.tx D))).setCell { block := W.heap.size, off := 3 } (Value.int IntKind.i64 (a : Int))) = Z'
          rintro ⟨z0, z1, z2, z3, z4⟩ f4
          refine bodyPost_ret (v := .tuple #[Pl.tokv (c : Int) 0 D (a : Int), .int .i64 (nx + n), .int .i64 0]) (by simp [results, Try.results62, go_sem, Pl.tokv, z0, z1, z2, z3]) rfl (WINH.out 0 _ _ _ _ _ _ (by rw [HR1.out]; rfl) (fun q => ⟨by rw [HR1.out]; rfl, by rw [HR1.out]; have := HX.out; show nx + n = ((nx.toNat + n.toNat : Nat) : Int); omega⟩) (fr_born F8.out f4 (Nat.le_refl _)))
      · have k1b : (n % 2 == 1) = false := beq_eq_false_iff_ne.2 k1
        go_enter Try.func62, Try.ntmps62
        go_wp2_with fail
        rw [← HW2.out]
        refine (SGH.out _).mono ?_
        rintro x w9 ⟨rfl, rfl⟩
        obtain ⟨s0, s1, s2, s3, s4⟩ := Y2.out
        have s40 := s4 0
        have s41 := s4 1
        have s42 := s4 2
        have s43 := s4 3
        go_wp2_with fail
        refine (TXH.out _).mono ?_
        rintro x w9 ⟨rfl, rfl⟩
        go_wp2_with fail
        refine (CT1H.out _ FW2.out).mono ?_
        rintro x w2 ⟨rfl, g2⟩
        have f2 := Fr.of_grown (fun _ => False) g2
        have ZW := Lib.hid (Z2.out.fr f2 (fun f => f))
        have YW := Lib.hid (Y2.out.fr f2 (fun f => f))
        have F2 := Lib.hid (FW2.out.trans f2)
        clear g2 f2 s0 s1 s2 s3 s4 s40 s41 s42 s43
        obtain ⟨s0, s1, s2, s3, s4⟩ := YW.out
        have s40 := s4 0
        have s41 := s4 1
        have s42 := s4 2
        have s43 := s4 3
        go_wp2_with fail
        rw [k2]
        have y5 := TokB.putN (n' := U) YW.out
        have f5 := Fr.setCell (fun q => q = W.heap.size + 1) w2 ⟨W.heap.size + 1, 1, none⟩ (.int .i64 U) rfl
        clear s0 s1 s2 s3 s4 s40 s41 s42 s43
        revert y5 f5
        generalize (w2.setCell { block := W.heap.size + 1, off := 1 } (Value.int IntKind.i64 U)) = w5
        intro y5 f5
        have Y5 := Lib.hid y5
        have Z5 := Lib.hid (ZW.out.fr f5 (fun f => by omega))
        have F5 := Lib.hid (fr_born F2.out f5 (by omega))
        clear y5 f5
        obtain ⟨s0, s1, s2, s3, s4⟩ := Y5.out
        have s40 := s4 0
        have s41 := s4 1
        have s42 := s4 2
        have s43 := s4 3
        refine (TXH.out _).mono ?_
        rintro x w9 ⟨rfl, rfl⟩
        have Y6 := Lib.hid (TokB.putN (n' := 0) Y5.out)
        have f6 := Fr.setCell (fun q => q = W.heap.size + 1) w5 ⟨W.heap.size + 1, 1, none⟩ (.int .i64 0) rfl
        have Z6 := Lib.hid (Z5.out.fr f6 (fun f => by omega))
        have F6 := Lib.hid (fr_born F5.out f6 (by omega))
        clear f6
        have kc1 := KC.out _ F6.out
        go_wp2_with fail
        have y7 := TokB.putS (S' := Pl.tx D) Y6.out
        have f7 := Fr.setCell (fun q => q = W.heap.size + 1) (w5.setCell ⟨W.heap.size + 1, 1, none⟩ (.int .i64 0)) ⟨W.heap.size + 1, 2, none⟩ (.string (Pl.tx D)) rfl
        have z7 := Z6.out.fr f7 (fun f => by omega)
        have F7 := Lib.hid (fr_born F6.out f7 (by omega))
        have FX := Lib.hid F7.out
        clear s0 s1 s2 s3 s4 s40 s41 s42 s43 f7 F7
        revert y7 z7 FX
        generalize ((w5.setCell { block := W.heap.size + 1, off := 1 } (Value.int IntKind.i64 0)).setCell { block := W.heap.size + 1, off := 2 } (Value.string (Pl.tx D))) = w7
        intro y7 z7 FX
        have ZX := Lib.hid z7
        have YX := Lib.hid y7
        clear y7 z7
        refine (MBH.out _).mono ?_
        rintro x w6 ⟨rfl, f6⟩
        have ZZ := Lib.hid (ZX.out.fr f6 (fun f => f))
        have YY := Lib.hid (YX.out.fr f6 (fun f => f))
        have F8 := Lib.hid (FX.out.trans f6)
        clear f6
        obtain ⟨t0, t1, t2, t3, t4⟩ := ZZ.out
        have t40 := t4 0
        have t41 := t4 1
        have t42 := t4 2
        have t43 := t4 3
        obtain ⟨s0, s1, s2, s3, s4⟩ := YY.out
        have s40 := s4 0
        have s41 := s4 1
        have s42 := s4 2
        have s43 := s4 3
        rcases m with _ | _
        · obtain ⟨q4, f4⟩ := TokB.four (k := 0) (n := 0) (S := ⟨#[]⟩) (a := 0) (ZZ.out)
          unfold Pl.four at q4 f4
          go_wp2_with fail
          revert q4 f4
          generalize ((((w6.setCell { block := W.heap.size, off := 0 } (Value.int IntKind.i64 0)).setCell { block := W.heap.size, off := 1 } (Value.int IntKind.i64 0)).setCell { block := W.heap.size, off := 2 } (Value.string { data := #[] })).setCell { block := W.heap.size, off := 3 } (Value.int IntKind.i64 0)) = Z'
          rintro ⟨z0, z1, z2, z3, z4⟩ f4
          refine bodyPost_ret (v := .tuple #[Pl.tokv 0 0 [] 0, .int .i64 0, .int .i64 3]) (by simp [results, Try.results62, go_sem, Pl.tokv, z0, z1, z2, z3]; rfl) rfl (WINH.out 3 _ _ _ _ _ _ (by rw [HR1.out]; rfl) (fun q => by omega) (fr_born F8.out f4 (Nat.le_refl _)))
        · obtain ⟨q4, f4⟩ := TokB.four (k := (c : Int)) (n := 0) (S := (Pl.tx D)) (a := (a : Int)) (ZZ.out)
          unfold Pl.four at q4 f4
          go_wp2_with fail
          revert q4 f4
          generalize ((((w6.setCell { block := W.heap.size, off := 0 } (Value.int IntKind.i64 (c : Int))).setCell { block := W.heap.size, off := 1 } (Value.int IntKind.i64 0)).setCell { block := W.heap.size, off := 2 } (Value.string (Pl.tx D))).setCell { block := W.heap.size, off := 3 } (Value.int IntKind.i64 (a : Int))) = Z'
          rintro ⟨z0, z1, z2, z3, z4⟩ f4
          refine bodyPost_ret (v := .tuple #[Pl.tokv (c : Int) 0 D (a : Int), .int .i64 (nx + n), .int .i64 0]) (by simp [results, Try.results62, go_sem, Pl.tokv, z0, z1, z2, z3]) rfl (WINH.out 0 _ _ _ _ _ _ (by rw [HR1.out]; rfl) (fun q => ⟨by rw [HR1.out]; rfl, by rw [HR1.out]; have := HX.out; show nx + n = ((nx.toNat + n.toNat : Nat) : Int); omega⟩) (fr_born F8.out f4 (Nat.le_refl _)))
    · have hR1 : R.1 = e := by
        rw [HR.out]; unfold Pl.wordB
        rw [if_neg (by have := HCC.out; omega), if_neg (by have := HCC.out; omega), if_pos (by have := HCC.out; omega), if_pos he]
      have HR1 := Lib.hid hR1
      have heb : (e != 0) = true := bne_iff_ne.2 he
      have HE := Lib.hid he
      clear he HR HBD hR1 HM
      go_enter Try.func62, Try.ntmps62
      go_wp2_with fail
      rw [← HW2.out]
      refine (SGH.out _).mono ?_
      rintro x w9 ⟨rfl, rfl⟩
      obtain ⟨s0, s1, s2, s3, s4⟩ := Y2.out
      have s40 := s4 0
      have s41 := s4 1
      have s42 := s4 2
      have s43 := s4 3
      go_wp2_with fail
      refine (TXH.out _).mono ?_
      rintro x w9 ⟨rfl, rfl⟩
      go_wp2_with fail
      refine (CT1H.out _ FW2.out).mono ?_
      rintro x w2 ⟨rfl, g2⟩
      have f2 := Fr.of_grown (fun _ => False) g2
      have ZW := Lib.hid (Z2.out.fr f2 (fun f => f))
      have YW := Lib.hid (Y2.out.fr f2 (fun f => f))
      have F2 := Lib.hid (FW2.out.trans f2)
      clear g2 f2 s0 s1 s2 s3 s4 s40 s41 s42 s43
      obtain ⟨s0, s1, s2, s3, s4⟩ := YW.out
      have s40 := s4 0
      have s41 := s4 1
      have s42 := s4 2
      have s43 := s4 3
      have ZZ := ZW
      obtain ⟨t0, t1, t2, t3, t4⟩ := ZZ.out
      have t40 := t4 0
      have t41 := t4 1
      have t42 := t4 2
      have t43 := t4 3
      obtain ⟨q4, f4⟩ := TokB.four (k := 0) (n := 0) (S := ⟨#[]⟩) (a := 0) (ZZ.out)
      unfold Pl.four at q4 f4
      go_wp2_with fail
      revert q4 f4
      generalize ((((w2.setCell { block := W.heap.size, off := 0 } (Value.int IntKind.i64 0)).setCell { block := W.heap.size, off := 1 } (Value.int IntKind.i64 0)).setCell { block := W.heap.size, off := 2 } (Value.string { data := #[] })).setCell { block := W.heap.size, off := 3 } (Value.int IntKind.i64 0)) = Z'
      rintro ⟨z0, z1, z2, z3, z4⟩ f4
      refine bodyPost_ret (v := .tuple #[Pl.tokv 0 0 [] 0, .int .i64 0, .int .i64 e]) (by simp [results, Try.results62, go_sem, Pl.tokv, z0, z1, z2, z3]; rfl) rfl (WINH.out e _ _ _ _ _ _ (HR1.out) (fun q => absurd q HE.out) (fr_born F2.out f4 (Nat.le_refl _)))
end Go.Proofs.Ytpfkijjpophobaa
