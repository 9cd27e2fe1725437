/- PackCut: the walk. -/
import Derived.Test.YtpfkijjpophobaaL9s
namespace Go.Proofs.Ytpfkijjpophobaa
set_option linter.unusedVariables false
open Go.RowKit

theorem RdT.take {ao : Option Addr} {m cap : Nat} {T : List Pl.Tok} {W : World} (h : RdT (.slice ao m cap) T W) (k : Nat) (hk : k ≤ T.length) : RdT (.slice ao k cap) (T.take k) W := by
  obtain ⟨ao2, cap2, hv, hc, h⟩ := h
  injection hv with q1 q2 q3
  subst q1 q2 q3
  have hl : (T.take k).length = k := by rw [List.length_take]; omega
  refine ⟨ao, cap, by rw [hl], by omega, ?_⟩
  rcases h with rfl | ⟨g, o, rfl, hg, h⟩
  · exact .inl (by simp)
  · refine .inr ⟨g, o, rfl, hg, fun j u hu => h j u ?_⟩
    have hf : Pl.flatT T = Pl.flatT (T.take k) ++ Pl.flatT (T.drop k) := by
      unfold Pl.flatT
      rw [← List.flatMap_append, List.take_append_drop]
    rw [hf, List.getElem?_append_left (List.getElem?_eq_some_iff.1 hu).1]
    exact hu
theorem Try.elem37 : Try.prog.elem 37 = 48 := by kernel_rfl
theorem slice37 (ao : Option Addr) (m cap : Nat) (h : Nat) (hI : Int) (hh : hI = (h : Int)) (hc : h ≤ cap) (Z : World) :
    (Instr.slice 37 (.slice ao m cap) none (some (.int .i64 hI)) none).run Try.prog Z = .ok (.slice ao h cap) Z := by
  obtain ⟨i, hi0, hz0, hz1, hz2⟩ := info_parts Try.tokInfo
  subst hh
  rw [run_slice_h (P := Try.prog) Z 37 ao m cap (by rw [Try.elem37]; exact Try.underlying37) .i64 (h : Int) (by omega) (by omega), Try.elem37]
  simp [sizeOf, typeInfo, hi0, hz1, Result.andThen, sliced]
  cases ao <;> simp
  rename_i a
  unfold Addr.add
  split <;> simp_all
theorem Pl.enc_step (T : List Pl.Tok) (i : Nat) (h : i < T.length) : (Pl.enc (T.take i)).length < (Pl.enc (T.take (i + 1))).length := by
  rw [Pl.enc_take T i T[i] (List.getElem?_eq_getElem h), List.length_append]
  have := Pl.bytes_pos T[i]
  omega
/-- what is taken of a part of the bytes -/
theorem Pl.cut_take (T : List Pl.Tok) (hm : ∀ t ∈ T, t.may = true) (hT : T.length ≤ 4000) (hL : (Pl.enc T).length ≤ 20000) (k n : Nat) (hk : k < (Pl.enc T).length) (hn : n ≤ T.length)
    (h1 : (Pl.enc (T.take n)).length ≤ k) (h2 : n = T.length ∨ k < (Pl.enc (T.take (n + 1))).length) :
    Pl.takeAll ((Pl.enc T).take k) = if (Pl.enc (T.take n)).length = k then (Pl.lab 4 (T.take n), 0, 0) else ([], ((Pl.enc (T.take n)).length : Int), 4) := by
  have hnl : n < T.length := by
    rcases Nat.lt_or_eq_of_le hn with h | h
    · exact h
    · rw [h, List.take_length] at h1
      omega
  have h3 : k < (Pl.enc (T.take (n + 1))).length := h2.resolve_left (by omega)
  have hsp : Pl.enc T = Pl.enc (T.take n) ++ (T[n].bytes ++ (T.drop (n + 1)).flatMap Pl.Tok.bytes) := by
    have e : T = T.take n ++ T[n] :: T.drop (n + 1) := by rw [← List.drop_eq_getElem_cons hnl, List.take_append_drop]
    unfold Pl.enc
    conv => lhs; rw [e]
    rw [List.flatMap_append, List.flatMap_cons, List.append_assoc]
  have hm' : ∀ t ∈ T.take n, t.may = true := fun t ht => hm t (List.mem_of_mem_take ht)
  have hlt : (T.take n).length ≤ 4000 := by rw [List.length_take]; omega
  rw [Pl.enc_take T n T[n] (List.getElem?_eq_getElem hnl), List.length_append] at h3
  by_cases he : (Pl.enc (T.take n)).length = k
  · rw [if_pos he, hsp, ← he, List.take_left]
    exact Pl.takeAll_enc (T.take n) hm' hlt (by omega)
  · rw [if_neg he]
    obtain ⟨p, hp⟩ : ∃ p, k = (Pl.enc (T.take n)).length + p := ⟨k - (Pl.enc (T.take n)).length, by omega⟩
    have hL2 : (Pl.enc T).take k = Pl.enc (T.take n) ++ T[n].bytes.take p := by
      rw [hsp, hp, List.take_append, List.take_of_length_le (by omega), Nat.add_sub_cancel_left, List.take_append_of_le_length (by omega)]
    have hP : T[n].bytes.take p ≠ [] := fun q => by
      have h8 := congrArg List.length q
      rw [List.length_take] at h8
      have h9 := Pl.bytes_pos T[n]
      rw [show ([] : List UInt8).length = 0 from rfl] at h8
      omega
    have hX : T[n].bytes.drop p ≠ [] := fun q => by
      have := List.drop_eq_nil_iff.1 q
      omega
    have hd : ((Pl.enc T).take k).drop 4 = (T.take n).flatMap Pl.Tok.bytes ++ T[n].bytes.take p := by
      rw [hL2]
      unfold Pl.enc
      rw [List.append_assoc]
      exact drop_app (a := 0) (X := Pl.hd) rfl
    have ht := Pl.toks_cut ((Pl.enc T).take k) T[n] (hm _ (List.getElem_mem hnl)) _ _ hP hX (List.take_append_drop p T[n].bytes).symm (T.take n) 4000 4 hm' (by rw [List.length_take]; omega) hd
    unfold Pl.takeAll
    rw [if_neg (by rw [hL2]; unfold Pl.enc; rw [List.append_assoc, Pl.isHd_enc]; decide), if_neg (by rw [List.length_take]; omega), ht, if_neg (fun q => by cases q)]
    unfold Pl.enc
    rw [List.length_append]
    rfl
set_option maxHeartbeats 4000000 in
set_option maxRecDepth 100000 in
theorem walk_PackCut (lv : Value) (T : List Pl.Tok) (c : Int) (w : World) (hT : RdT lv T w ∧ (∀ t ∈ T, t.ok) ∧ T.length ≤ maxLen) (hc : (Lit.int .u16 c).wf = true) :
    Calls Try.prog 9 #[lv, .int .u16 c] w fun e w' => e = .returned (.bool true) ∧ Kept w w' := by
  have hc : 0 ≤ c ∧ c ≤ 65535 := by simp [Lit.wf, IntKind.min, IntKind.max, IntKind.signed, IntKind.bits] at hc; omega
  obtain ⟨q0, q1⟩ := hc
  obtain ⟨hT, hok, hTm⟩ := hT
  have KN := Lib.hid (known9 w)
  have HT := Lib.hid hT
  have HOK := Lib.hid hok
  obtain ⟨ao1, cap1, rfl, hc1, -⟩ := hT
  obtain ⟨M, hM⟩ : ∃ M, M = T.length := ⟨_, rfl⟩
  have HM := Lib.hid hM
  rw [← hM] at hc1 ⊢
  clear hok hM hTm
  by_cases h20 : 20 < M
  · have g1 : decide ((20 : Int) < (M : Int)) = true := decide_eq_true (by omega)
    clear h20
    go_enter Try.func9, Try.ntmps9
    go_wp2_with fail
    refine (KN.out).mono ?_
    rintro e w1 ⟨rfl, f1⟩
    have F1 := Lib.hid f1
    clear f1
    go_wp2_with fail
    go_ret
    exact ⟨rfl, Kept.of_fr F1.out⟩
  have g1 : decide ((20 : Int) < (M : Int)) = false := decide_eq_false (by omega)
  have H20 := Lib.hid (show T.length ≤ 20 by have := HM.out; omega)
  have CP := Lib.hid (fun Z (hz : Fr (fun _ => False) w Z) => put_all (.slice ao1 M cap1) T (by have := H20.out; omega) HOK.out Z (by have := HT.out.fr0 hz; rw [← HM.out] at this; exact this))
  clear h20
  obtain ⟨R, hR⟩ : ∃ R, R = Pl.putAll T := ⟨_, rfl⟩
  rw [← hR] at CP
  have HR := Lib.hid hR
  clear hR
  obtain ⟨X, e0⟩ := R
  by_cases he : e0 = 0
  · subst he
    obtain ⟨hp1, hp2, hp3⟩ := Pl.putAll_ok T (by rw [← HR.out])
    rw [← HR.out] at hp1
    obtain rfl : X = Pl.enc T := congrArg Prod.fst hp1
    have HP2 := Lib.hid hp2
    have HP3 := Lib.hid hp3
    obtain ⟨N, hN⟩ : ∃ N, N = (Pl.enc T).length := ⟨_, rfl⟩
    have HN := Lib.hid hN
    have hN3 : N ≤ 20000 := by omega
    clear hp1 hp2 hp3 HR hN
    by_cases hN5 : N < 5
    · have g5 : decide ((N : Int) < 5) = true := decide_eq_true (by omega)
      clear hN5
      go_enter Try.func9, Try.ntmps9
      go_wp2_with fail
      refine (KN.out).mono ?_
      rintro e w1 ⟨rfl, f1⟩
      have F1 := Lib.hid f1
      have CP1 := Lib.hid (CP.out w1 f1)
      clear f1
      go_wp2_with fail
      refine (CP1.out).mono ?_
      rintro e w2 ⟨vx, rfl, ox, f2⟩
      have F2 := Lib.hid (F1.out.trans f2)
      obtain ⟨ax, cx, rfl, hcx, _⟩ := ox.rd
      rw [← HN.out] at hcx ⊢
      clear f2 ox
      go_wp2_with fail
      go_ret
      exact ⟨rfl, Kept.of_fr F2.out⟩
    have g5 : decide ((N : Int) < 5) = false := decide_eq_false (by omega)
    obtain ⟨D, hD⟩ : ∃ D : Int, D = (N : Int) - 4 := ⟨_, rfl⟩
    have hD1 : 1 ≤ D := by omega
    have hD2 : D ≤ 20000 := by omega
    have hDb : (D == 0) = false := beq_eq_false_iff_ne.2 (by omega)
    have hND : (N : Int) = D + 4 := by omega
    obtain ⟨κ, hκ⟩ : ∃ κ, κ = c % D := ⟨_, rfl⟩
    have k0 : 0 ≤ κ := by rw [hκ]; exact Int.emod_nonneg _ (by omega)
    have k1 : κ < D := by rw [hκ]; exact Int.emod_lt_of_pos _ (by omega)
    have hκ2 : c % D = κ := hκ.symm
    obtain ⟨k, hk⟩ : ∃ k, k = (4 + κ).toNat := ⟨_, rfl⟩
    have hkI : (k : Int) = 4 + κ := by omega
    have HKI := Lib.hid hkI
    have HKN := Lib.hid (show 4 ≤ k ∧ k < N by omega)
    have HkT : Hid ((4 + κ).toNat = k) := Lib.hid hk.symm
    obtain ⟨K, hK⟩ : ∃ K, K = Pl.takeAll ((Pl.enc T).take k) := ⟨_, rfl⟩
    have CT := Lib.hid (fun v Z hz => take_all v ((Pl.enc T).take k) (by rw [List.length_take]; omega) Z hz)
    rw [← hK] at CT
    have HK := Lib.hid hK
    have CPi : Hid (∀ (i : Nat), i < M → ∀ Z, Fr (fun _ => False) w Z → Calls Try.prog 23 #[.slice ao1 (i + 1) cap1] Z (PutOut (Pl.enc (T.take (i + 1)), 0) Z)) := Lib.hid (fun i hi Z hz => by
      have h := put_all (.slice ao1 (i + 1) cap1) (T.take (i + 1)) (by rw [List.length_take]; have := H20.out; omega) (fun t ht => HOK.out t (List.mem_of_mem_take ht)) Z (((HT.out.fr0 hz).take (i + 1) (by have := HM.out; omega)))
      rw [Pl.putAll_of (T.take (i + 1)) (fun t ht => HP2.out t (List.mem_of_mem_take ht)) (by have h1 := Pl.enc_mono T (i + 1); have h2 := HP3.out; omega)] at h
      exact h)
    clear hN5 hD hκ hk hkI hK
    go_enter Try.func9, Try.ntmps9
    go_wp2_with fail
    refine (KN.out).mono ?_
    rintro e w1 ⟨rfl, f1⟩
    have F1 := Lib.hid f1
    have CP1 := Lib.hid (CP.out w1 f1)
    clear f1
    go_wp2_with fail
    refine (CP1.out).mono ?_
    rintro e w2 ⟨vx, rfl, ox, f2⟩
    have F2 := Lib.hid (F1.out.trans f2)
    have RX : Hid (RdB vx (Pl.enc T) w2) := Lib.hid ox.rd
    obtain ⟨ax, cx, e9, hcx, _⟩ := RX.out
    rw [← HN.out] at hcx e9
    subst e9
    clear f2 ox
    have CTX := Lib.hid (CT.out _ w2 (RX.out.take k (by have h1 := HKN.out; have h2 := HN.out; omega)))
    rw [← HkT.out] at CTX
    go_wp2_with fail
    refine (CTX.out).mono ?_
    rintro e w3 ⟨mv, rfl, r3, f3⟩
    have R3 := Lib.hid r3
    have F3 := Lib.hid (F2.out.trans f3)
    obtain ⟨a3, c3, rfl⟩ := own_shape r3
    obtain ⟨kk, hkk⟩ : ∃ kk : Int, kk = 4 + κ := ⟨_, rfl⟩
    have hkb : 4 ≤ kk ∧ kk ≤ 20000 := by omega
    obtain ⟨kb0, kb1⟩ := hkb
    have HKK : Hid ((k : Int) = kk) := Lib.hid (by rw [HKI.out, hkk])
    rw [← hkk]
    clear r3 f3 CP1 hkk hκ2 hND hN3 g5 hD1 hD2 hDb k0 k1 hcx HKI HkT CT CP CTX KN RX F2 F1
    go_wp2_with fail
    go_loopw [11, 12, 13] (fun s11 s12 s13 wr => ∃ (b n i : Nat), s11 = .int .i64 (b : Int) ∧ s12 = .int .i64 (n : Int) ∧ s13 = .int .i64 (i : Int) ∧ i ≤ M ∧ Hid (n ≤ i ∧ b = (Pl.enc (T.take n)).length ∧ b ≤ k ∧ (n = i ∨ k < (Pl.enc (T.take (n + 1))).length)) ∧ Hid (Fr (fun _ => False) w3 wr)) (fun _ _ s13 _ => (M - intOf s13).toNat)
    case atStart => exact ⟨4, 0, 0, rfl, rfl, rfl, by omega, Lib.hid ⟨by omega, rfl, HKN.out.1, .inl rfl⟩, Lib.hid (Fr.refl _ _)⟩
    case round =>
      obtain ⟨b, n, i, rfl, rfl, rfl, hi, HREL, HF3⟩ := hrel
      have HF := Lib.hid (F3.out.trans HF3.out)
      by_cases hiM : i < M
      · have hiI : (i : Int) < (M : Int) := by omega
        have HIM := Lib.hid hiM
        have hi20 : (i : Int) < 20 := by have h1 := HM.out; have h2 := H20.out; omega
        have hs37 := slice37 ao1 M cap1 (i + 1) ((i : Int) + 1) (by omega) (by omega)
        have CPx := Lib.hid (CPi.out i hiM wr HF.out)
        obtain ⟨Lx, hLx⟩ : ∃ Lx, Lx = (Pl.enc (T.take (i + 1))).length := ⟨_, rfl⟩
        have HLX := Lib.hid hLx
        have hLx3 : Lx ≤ 20000 := by have := Pl.enc_mono T (i + 1); have := HP3.out; omega
        clear hiM hi hLx
        go_wp2_with fail
        with_reducible refine (CPx.out).mono ?_
        rintro e w5 ⟨vx5, rfl, ox5, f5⟩
        have F5 := Lib.hid (HF3.out.trans f5)
        obtain ⟨a5, c5, e5, hc5, _⟩ := ox5.rd
        change vx5 = .slice a5 (Pl.enc (T.take (i + 1))).length c5 at e5
        rw [← HLX.out] at e5
        subst e5
        clear ox5 f5 hc5
        by_cases hle : (Lx : Int) ≤ kk
        · go_wp2_with fail
          refine ⟨⟨Lx, i + 1, i + 1, rfl, by simp, by simp, by have := HIM.out; omega, Lib.hid ⟨by omega, HLX.out, by have := HKK.out; omega, .inl rfl⟩, F5⟩, by have := HIM.out; simp only [intOf]; omega⟩
        · go_wp2_with fail
          refine ⟨⟨b, n, i + 1, rfl, rfl, by simp, by have := HIM.out; omega, Lib.hid ⟨by have := HREL.out.1; omega, HREL.out.2.1, HREL.out.2.2.1, .inr ?_⟩, F5⟩, by have := HIM.out; simp only [intOf]; omega⟩
          rcases HREL.out.2.2.2 with q | q
          · rw [q, ← HLX.out]; have := HKK.out; omega
          · exact q
      · have hb : decide ((i : Int) < (M : Int)) = false := decide_eq_false (by omega)
        have hb2 : ((i : Int) < (M : Int)) = False := eq_false (by omega)
        obtain ⟨y1, y2, y3, y4⟩ := HREL.out
        have hct := Pl.cut_take T HP2.out (by have := H20.out; omega) HP3.out k n (by have := HKN.out; have := HN.out; omega) (by have := HM.out; omega) (by omega) (y4.elim (fun q => .inl (by have := HM.out; omega)) .inr)
        rw [← HK.out, ← y2] at hct
        have hi20 : (i : Int) ≤ 20 := by have h1 := HM.out; have h2 := H20.out; omega
        have hs37 := slice37 ao1 M cap1 n (n : Int) rfl (by omega)
        have HNM := Lib.hid (show n ≤ T.length by have := HM.out; omega)
        by_cases hbk : b = k
        · rw [if_pos hbk] at hct
          have hbb : ((b : Int) == kk) = true := beq_iff_eq.2 (by have := HKK.out; omega)
          subst hct
          have CK := Lib.hid (tokens_any (.slice a3 (Pl.lab 4 (T.take n)).length c3) (.slice ao1 n cap1) (Pl.lab 4 (T.take n)) (T.take n) false (Pl.lab_len _ 4) (by rw [Pl.lab_len, List.length_take]; have := H20.out; omega) (fun j t u h1 h2 => by
            obtain ⟨e1, e2, e3⟩ := Pl.lab_get (T.take n) 4 j u t h2 h1
            exact ⟨e1.symm, e2.symm, e3.symm, fun q => by cases q⟩) wr ((own_rdT R3.out).fr0 HF3.out) ((HT.out.fr0 HF.out).take n HNM.out))
          clear hbk hb hiM hi y1 y2 y3 y4
          go_wp2_with fail
          refine (CK.out).mono ?_
          rintro e w6 ⟨rfl, f6⟩
          have F6 := Lib.hid (HF.out.trans f6)
          clear f6
          go_wp2_with fail
          go_ret
          exact ⟨rfl, Kept.of_fr F6.out⟩
        · rw [if_neg hbk] at hct
          have hbb : ((b : Int) == kk) = false := beq_eq_false_iff_ne.2 (by have := HKK.out; omega)
          subst hct
          clear hbk hb hiM hi y1 y2 y3 y4
          go_wp2_with fail
          go_ret
          exact ⟨rfl, Kept.of_fr HF.out⟩
  · have ge : (e0 != 0) = true := bne_iff_ne.2 he
    clear he HR
    go_enter Try.func9, Try.ntmps9
    go_wp2_with fail
    refine (KN.out).mono ?_
    rintro e w1 ⟨rfl, f1⟩
    have F1 := Lib.hid f1
    have CP1 := Lib.hid (CP.out w1 f1)
    clear f1
    go_wp2_with fail
    refine (CP1.out).mono ?_
    rintro e w2 ⟨vx, rfl, ox, f2⟩
    have F2 := Lib.hid (F1.out.trans f2)
    clear f2 ox
    go_wp2_with fail
    go_ret
    exact ⟨rfl, Kept.of_fr F2.out⟩
end Go.Proofs.Ytpfkijjpophobaa
