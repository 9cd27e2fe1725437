/- PackBack: the walk. -/
import Derived.Test.YtpfkijjpophobaaG16
import Derived.Lib.SlBytesConst
namespace Go.Proofs.Ytpfkijjpophobaa
set_option linter.unusedVariables false
open Go.RowKit

theorem Pl.putAll_of (T : List Pl.Tok) (hm : ∀ t ∈ T, t.may = true) (hl : (Pl.enc T).length ≤ 20000) : Pl.putAll T = (Pl.enc T, 0) := by
  unfold Pl.putAll
  rw [if_neg (by rw [List.all_eq_true.2 hm]; decide), if_neg (by omega)]
theorem Pl.putAll_ok (T : List Pl.Tok) (h : (Pl.putAll T).2 = 0) : Pl.putAll T = (Pl.enc T, 0) ∧ (∀ t ∈ T, t.may = true) ∧ (Pl.enc T).length ≤ 20000 := by
  unfold Pl.putAll at h ⊢
  by_cases h1 : T.all Pl.Tok.may = false
  · rw [if_pos h1] at h; simp at h
  rw [if_neg h1] at h ⊢
  by_cases h2 : 20000 < (Pl.enc T).length
  · rw [if_pos h2] at h; simp at h
  rw [if_neg h2]
  exact ⟨rfl, List.all_eq_true.1 (by simpa using h1), by omega⟩
theorem Pl.lab_get : ∀ (T : List Pl.Tok) (a j : Nat) (t u : Pl.Tok), T[j]? = some t → (Pl.lab a T)[j]? = some u → t.k = u.k ∧ t.n = u.n ∧ t.s = u.s
  | [], _, _, _, _, h, _ => by simp at h
  | q :: T, a, 0, t, u, h, k => by
    simp [Pl.lab] at h k
    subst h
    subst k
    exact ⟨rfl, rfl, rfl⟩
  | q :: T, a, j + 1, t, u, h, k => Pl.lab_get T _ j t u (by simpa using h) (by simpa [Pl.lab] using k)
theorem Pl.toks_len (L : List UInt8) : ∀ (k a : Nat), (Pl.toks L k a).1.length ≤ k := fun k => by
  induction k with
  | zero =>
    intro a
    unfold Pl.toks
    split <;> simp
  | succ k ih =>
    intro a
    unfold Pl.toks
    split
    · simp
    · split
      · simp
      · have := ih (Pl.word7 L a).2.2
        simp only [List.length_cons]
        omega
theorem Pl.takeAll_len (L : List UInt8) : (Pl.takeAll L).1.length ≤ 4000 := by
  unfold Pl.takeAll
  have := Pl.toks_len L 4000 4
  split
  · simp
  · split
    · simp
    · split
      · exact this
      · simp
theorem Pl.takeAll_bad (L : List UInt8) (h : (Pl.takeAll L).2.2 ≠ 0) : (Pl.takeAll L).1 = [] := by
  unfold Pl.takeAll at h ⊢
  split
  · rfl
  · rename_i h1
    rw [if_neg h1] at h
    split
    · rfl
    · rename_i h2
      rw [if_neg h2] at h
      split
      · rename_i h3
        rw [if_pos h3] at h
        exact absurd rfl h
      · rfl
theorem Pl.may_ok (t : Pl.Tok) (h : t.may = true) : t.ok := by
  have := Pl.may_bd t h
  unfold Pl.Tok.ok
  omega
theorem RdB.nil_len {v : Value} {L : List UInt8} {W : World} (h : RdB v L W) : ∃ ao cap, v = .slice ao L.length cap := by
  obtain ⟨ao, cap, h, _⟩ := h
  exact ⟨ao, cap, h⟩
/-- the row of a constant, with the run-time's mark behind it -/
theorem ownB_const (W : World) (L : List UInt8) (hl : L.length ≤ 1000) (v : Value) (hv : v = .slice (some ⟨W.heap.size, 0, none⟩) L.length L.length) (base : Nat) (hb : base ≤ W.heap.size) : OwnB base v L (W.alloc (.cells (L.map Pl.u8).toArray 5 (L.length, L.length + 1))) :=
  .inr ⟨W.heap.size, L.length, _, (L.length, L.length + 1), hv, hb, heap_alloc_new W _, fun j hj q => by simp at q; omega, Nat.le_refl _, by simp only [maxLen]; omega, by simp, by rw [List.take_of_length_le (by simp)]⟩
set_option maxHeartbeats 4000000 in
set_option maxRecDepth 100000 in
theorem walk_PackBack (lv : Value) (T : List Pl.Tok) (bv : Value) (B : List UInt8) (w : World) (hT : RdT lv T w ∧ (∀ t ∈ T, t.ok) ∧ T.length ≤ maxLen) (hB : RdB bv B w ∧ B.length ≤ maxLen) :
    Calls Try.prog 8 #[lv, bv] w fun e w' => e = .returned (.bool true) ∧ Kept w w' := by
  obtain ⟨hT, hok, hTm⟩ := hT
  obtain ⟨hB, hBm⟩ := hB
  have KN := Lib.hid (known9 w)
  have HT := Lib.hid hT
  have HB := Lib.hid hB
  have HOK := Lib.hid hok
  obtain ⟨ao1, cap1, rfl, hc1, -⟩ := hT
  obtain ⟨ao2, cap2, rfl, hc2, -⟩ := hB
  obtain ⟨M, hM⟩ : ∃ M, M = T.length := ⟨_, rfl⟩
  obtain ⟨N, hN⟩ : ∃ N, N = B.length := ⟨_, rfl⟩
  have HM := Lib.hid hM
  have HN := Lib.hid hN
  rw [← hM] at hc1 ⊢
  rw [← hN] at hc2 ⊢
  clear hok hM hN hTm hBm
  by_cases h40 : 40 < M
  · have g1 : decide ((40 : Int) < (M : Int)) = true := decide_eq_true (by omega)
    clear h40
    go_enter Try.func8, Try.ntmps8
    go_wp2_with fail
    refine (KN.out).mono ?_
    rintro e w1 ⟨rfl, f1⟩
    have F1 := Lib.hid f1
    clear f1
    go_wp2_with fail
    go_ret
    exact ⟨rfl, Kept.of_fr F1.out⟩
  have g1 : decide ((40 : Int) < (M : Int)) = false := decide_eq_false (by omega)
  by_cases h500 : 500 < N
  · have g2 : decide ((500 : Int) < (N : Int)) = true := decide_eq_true (by omega)
    clear h40 h500
    go_enter Try.func8, Try.ntmps8
    go_wp2_with fail
    refine (KN.out).mono ?_
    rintro e w1 ⟨rfl, f1⟩
    have F1 := Lib.hid f1
    clear f1
    go_wp2_with fail
    go_ret
    exact ⟨rfl, Kept.of_fr F1.out⟩
  have g2 : decide ((500 : Int) < (N : Int)) = false := decide_eq_false (by omega)
  have H40 := Lib.hid (show T.length ≤ 40 by have := HM.out; omega)
  have H500 := Lib.hid (show B.length ≤ 500 by have := HN.out; omega)
  have CP := Lib.hid (fun Z (hz : Fr (fun _ => False) w Z) => put_all (.slice ao1 M cap1) T (by have := H40.out; omega) HOK.out Z (by have := HT.out.fr0 hz; rw [← HM.out] at this; exact this))
  clear h40 h500
  obtain ⟨R, hR⟩ : ∃ R, R = Pl.putAll T := ⟨_, rfl⟩
  rw [← hR] at CP
  have HR := Lib.hid hR
  clear hR
  obtain ⟨X, e0⟩ := R
  -- what is behind the join
  obtain ⟨K, hK⟩ : ∃ K, K = Pl.takeAll (Pl.hd ++ B) := ⟨_, rfl⟩
  have HKK := Lib.hid hK
  have CT2 := Lib.hid (fun v Z (hz : RdB v (Pl.hd ++ B) Z) => by
    have h := take_all v (Pl.hd ++ B) (by rw [List.length_append]; have := H500.out; show 4 + _ < _; omega) Z hz
    rw [← hK] at h
    exact h)
  clear hK
  by_cases he : e0 = 0
  · subst he
    obtain ⟨hp1, hp2, hp3⟩ := Pl.putAll_ok T (by rw [← HR.out])
    rw [← HR.out] at hp1
    obtain rfl : X = Pl.enc T := congrArg Prod.fst hp1
    have CT1 := Lib.hid (fun v Z (hz : RdB v (Pl.enc T) Z) => by
      have h := take_all v (Pl.enc T) (by omega) Z hz
      rw [Pl.takeAll_enc T hp2 (by have := H40.out; omega) hp3] at h
      exact h)
    have CI1 := Lib.hid (fun v Z (hz : RdB v (Pl.enc T) Z) => by
      have h := is_any v (Pl.enc T) (by omega) Z hz
      rw [show Pl.isHd (Pl.enc T) = true by unfold Pl.enc; exact Pl.isHd_enc _] at h
      exact h)
    clear hp1 hp2 hp3 HR
    go_enter Try.func8, Try.ntmps8
    go_wp2_with fail
    refine (KN.out).mono ?_
    rintro e w1 ⟨rfl, f1⟩
    have F1 := Lib.hid f1
    have CP1 := Lib.hid (CP.out w1 f1)
    clear f1
    go_wp2_with fail
    refine (CP1.out).mono ?_
    rintro e w2 ⟨vx, rfl, ox, f2⟩
    have OX := Lib.hid ox.rd
    have F2 := Lib.hid (F1.out.trans f2)
    clear f2 ox
    go_wp2_with fail
    refine (CT1.out _ _ OX.out).mono ?_
    rintro e w3 ⟨lm, rfl, r3, f3⟩
    have R3 := Lib.hid r3
    have OX3 := Lib.hid (OX.out.fr0 f3)
    have F3 := Lib.hid (F2.out.trans f3)
    have CK := Lib.hid (tokens_any (.slice ao1 M cap1) lm T (Pl.lab 4 T) false (Pl.lab_len T 4).symm (by have := H40.out; omega) (fun j t u h1 h2 => by
      obtain ⟨e1, e2, e3⟩ := Pl.lab_get T 4 j t u h1 h2
      exact ⟨e1, e2, e3, fun q => by cases q⟩) w3 (by have := HT.out.fr0 F3.out; rw [← HM.out] at this; exact this) (own_rdT r3))
    clear r3 f3
    go_wp2_with fail
    refine (CK.out).mono ?_
    rintro e w4 ⟨rfl, f4⟩
    have CI4 := Lib.hid (CI1.out _ _ (OX3.out.fr0 f4))
    have F4 := Lib.hid (F3.out.trans f4)
    clear f4
    go_wp2_with fail
    refine (CI4.out).mono ?_
    rintro e w5 ⟨rfl, f5⟩
    have F5 := Lib.hid (F4.out.trans f5)
    clear f5
    have HAQ := Lib.hid (ownB_const w5 Pl.hd (by decide) (.slice (some ⟨w5.heap.size, 0, none⟩) 4 4) rfl w.heap.size F5.out.2.2.1)
    rw [show (Pl.hd.map Pl.u8).toArray = #[.int .u8 244, .int .u8 84, .int .u8 80, .int .u8 1] from rfl, show Pl.hd.length = 4 from rfl] at HAQ
    have kc : (convert 30 30 (.slice (some ⟨w5.heap.size, 0, none⟩) 4 4)).run Try.prog (w5.alloc (.cells #[.int .u8 244, .int .u8 84, .int .u8 80, .int .u8 1] 5)) = .ok (.slice (some ⟨w5.heap.size, 0, none⟩) 4 4) (w5.alloc (.cells #[.int .u8 244, .int .u8 84, .int .u8 80, .int .u8 1] 5 (4, 4 + 1))) :=
      Lib.run_convert_bytes_const (P := Try.prog) w5 30 5 #[.int .u8 244, .int .u8 84, .int .u8 80, .int .u8 1] 4 4 Try.underlying30 Try.underlying5
    have FA := Lib.hid (F5.out.trans (Fr.alloc (fun _ => False) w5 (.cells #[.int .u8 244, .int .u8 84, .int .u8 80, .int .u8 1] 5 (4, 4 + 1))))
    have HBQ : Hid (RdB (.slice ao2 N cap2) B _) := Lib.hid (by have := HB.out.fr0 FA.out; rw [← HN.out] at this; exact this)
    go_wp2_with (at_builtin; refine wpList_appB _ w.heap.size (.slice (some ⟨w5.heap.size, 0, none⟩) 4 4) Pl.hd HAQ.out (.slice ao2 N cap2) B 30 (.inl rfl) (src_slice HBQ.out) (by have := H500.out; show 4 + _ ≤ _; omega) FA.out.2.2.1 (hgd := rfl) (.tmp 57) (.tmp 58) rfl (by simp [Act.eval]) (by simp [Act.eval]) ?_)
    intro vc wc oc gc hgc
    have OC : Hid (OwnB w.heap.size vc (Pl.hd ++ B) wc) := Lib.hid (by exact oc)
    have FC := Lib.hid (FA.out.trans' (Fr.grown (fun k => (Value.slice (some ⟨w5.heap.size, 0, none⟩) 4 4).ownBlock = some k) gc (fun k hk => hk)) (fun k hk => .inr (HAQ.out.from k hk).1))
    clear oc gc hgc HAQ HBQ FA
    go_wp2_with fail
    refine (CT2.out _ _ OC.out.rd).mono ?_
    rintro e wt ⟨mv, rfl, rt, ft⟩
    have RT := Lib.hid rt
    have FT := Lib.hid (FC.out.trans ft)
    have OT := Lib.hid (OC.out.rd.fr0 ft)
    obtain ⟨aom, capm, hmv⟩ := own_shape rt
    obtain ⟨TM, at0, f0⟩ := K
    change mv = .slice aom TM.length capm at hmv
    subst hmv
    clear rt ft
    by_cases hf : f0 = 0
    · subst hf
      obtain ⟨hmay, henc⟩ := Pl.takeAll_back B (by rw [← HKK.out])
      rw [← HKK.out] at hmay henc
      change ∀ t ∈ TM, t.may = true at hmay
      change Pl.enc TM = Pl.hd ++ B at henc
      have hlen : TM.length ≤ 4000 := by have := Pl.takeAll_len (Pl.hd ++ B); rw [← HKK.out] at this; exact this
      have CP2 := Lib.hid (put_all (.slice aom TM.length capm) TM hlen (fun t ht => Pl.may_ok t (hmay t ht)) wt (own_rdT RT.out))
      rw [Pl.putAll_of TM hmay (by rw [henc, List.length_append]; have := H500.out; show 4 + _ ≤ _; omega), henc] at CP2
      clear hmay henc hlen HKK CT2
      go_wp2_with fail
      refine (CP2.out).mono ?_
      rintro e wp ⟨vy, rfl, oy, fy⟩
      have CB := Lib.hid (bytes_any vy vc (Pl.hd ++ B) (Pl.hd ++ B) wp oy.rd (OT.out.fr0 fy))
      rw [decide_eq_true rfl] at CB
      have FP := Lib.hid (FT.out.trans fy)
      clear oy fy CP2
      go_wp2_with fail
      refine (CB.out).mono ?_
      rintro e wb ⟨rfl, rfl⟩
      go_wp2_with fail
      go_ret
      exact ⟨rfl, Kept.of_fr FP.out⟩
    · have hTM : TM = [] := by have := Pl.takeAll_bad (Pl.hd ++ B) (by rw [← HKK.out]; exact hf); rw [← HKK.out] at this; exact this
      subst hTM
      have gf : (f0 != 0) = true := bne_iff_ne.2 hf
      clear hf HKK CT2
      go_wp2_with fail
      go_ret
      exact ⟨rfl, Kept.of_fr FT.out⟩
  · have ge : (e0 == 0) = false := beq_eq_false_iff_ne.2 he
    clear he HR
    go_enter Try.func8, Try.ntmps8
    go_wp2_with fail
    refine (KN.out).mono ?_
    rintro e w1 ⟨rfl, f1⟩
    have F1 := Lib.hid f1
    have CP1 := Lib.hid (CP.out w1 f1)
    clear f1
    go_wp2_with fail
    refine (CP1.out).mono ?_
    rintro e w2 ⟨vx, rfl, ox, f2⟩
    have F5 := Lib.hid (F1.out.trans f2)
    clear f2 ox
    have HAQ := Lib.hid (ownB_const w2 Pl.hd (by decide) (.slice (some ⟨w2.heap.size, 0, none⟩) 4 4) rfl w.heap.size F5.out.2.2.1)
    rw [show (Pl.hd.map Pl.u8).toArray = #[.int .u8 244, .int .u8 84, .int .u8 80, .int .u8 1] from rfl, show Pl.hd.length = 4 from rfl] at HAQ
    have kc : (convert 30 30 (.slice (some ⟨w2.heap.size, 0, none⟩) 4 4)).run Try.prog (w2.alloc (.cells #[.int .u8 244, .int .u8 84, .int .u8 80, .int .u8 1] 5)) = .ok (.slice (some ⟨w2.heap.size, 0, none⟩) 4 4) (w2.alloc (.cells #[.int .u8 244, .int .u8 84, .int .u8 80, .int .u8 1] 5 (4, 4 + 1))) :=
      Lib.run_convert_bytes_const (P := Try.prog) w2 30 5 #[.int .u8 244, .int .u8 84, .int .u8 80, .int .u8 1] 4 4 Try.underlying30 Try.underlying5
    have FA := Lib.hid (F5.out.trans (Fr.alloc (fun _ => False) w2 (.cells #[.int .u8 244, .int .u8 84, .int .u8 80, .int .u8 1] 5 (4, 4 + 1))))
    have HBQ : Hid (RdB (.slice ao2 N cap2) B _) := Lib.hid (by have := HB.out.fr0 FA.out; rw [← HN.out] at this; exact this)
    go_wp2_with (at_builtin; refine wpList_appB _ w.heap.size (.slice (some ⟨w2.heap.size, 0, none⟩) 4 4) Pl.hd HAQ.out (.slice ao2 N cap2) B 30 (.inl rfl) (src_slice HBQ.out) (by have := H500.out; show 4 + _ ≤ _; omega) FA.out.2.2.1 (hgd := rfl) (.tmp 57) (.tmp 58) rfl (by simp [Act.eval]) (by simp [Act.eval]) ?_)
    intro vc wc oc gc hgc
    have OC : Hid (OwnB w.heap.size vc (Pl.hd ++ B) wc) := Lib.hid (by exact oc)
    have FC := Lib.hid (FA.out.trans' (Fr.grown (fun k => (Value.slice (some ⟨w2.heap.size, 0, none⟩) 4 4).ownBlock = some k) gc (fun k hk => hk)) (fun k hk => .inr (HAQ.out.from k hk).1))
    clear oc gc hgc HAQ HBQ FA
    go_wp2_with fail
    refine (CT2.out _ _ OC.out.rd).mono ?_
    rintro e wt ⟨mv, rfl, rt, ft⟩
    have RT := Lib.hid rt
    have FT := Lib.hid (FC.out.trans ft)
    have OT := Lib.hid (OC.out.rd.fr0 ft)
    obtain ⟨aom, capm, hmv⟩ := own_shape rt
    obtain ⟨TM, at0, f0⟩ := K
    change mv = .slice aom TM.length capm at hmv
    subst hmv
    clear rt ft
    by_cases hf : f0 = 0
    · subst hf
      obtain ⟨hmay, henc⟩ := Pl.takeAll_back B (by rw [← HKK.out])
      rw [← HKK.out] at hmay henc
      change ∀ t ∈ TM, t.may = true at hmay
      change Pl.enc TM = Pl.hd ++ B at henc
      have hlen : TM.length ≤ 4000 := by have := Pl.takeAll_len (Pl.hd ++ B); rw [← HKK.out] at this; exact this
      have CP2 := Lib.hid (put_all (.slice aom TM.length capm) TM hlen (fun t ht => Pl.may_ok t (hmay t ht)) wt (own_rdT RT.out))
      rw [Pl.putAll_of TM hmay (by rw [henc, List.length_append]; have := H500.out; show 4 + _ ≤ _; omega), henc] at CP2
      clear hmay henc hlen HKK CT2
      go_wp2_with fail
      refine (CP2.out).mono ?_
      rintro e wp ⟨vy, rfl, oy, fy⟩
      have CB := Lib.hid (bytes_any vy vc (Pl.hd ++ B) (Pl.hd ++ B) wp oy.rd (OT.out.fr0 fy))
      rw [decide_eq_true rfl] at CB
      have FP := Lib.hid (FT.out.trans fy)
      clear oy fy CP2
      go_wp2_with fail
      refine (CB.out).mono ?_
      rintro e wb ⟨rfl, rfl⟩
      go_wp2_with fail
      go_ret
      exact ⟨rfl, Kept.of_fr FP.out⟩
    · have hTM : TM = [] := by have := Pl.takeAll_bad (Pl.hd ++ B) (by rw [← HKK.out]; exact hf); rw [← HKK.out] at this; exact this
      subst hTM
      have gf : (f0 != 0) = true := bne_iff_ne.2 hf
      clear hf HKK CT2
      go_wp2_with fail
      go_ret
      exact ⟨rfl, Kept.of_fr FT.out⟩
end Go.Proofs.Ytpfkijjpophobaa
