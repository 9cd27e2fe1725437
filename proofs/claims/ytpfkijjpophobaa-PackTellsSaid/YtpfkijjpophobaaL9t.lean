/- The reference's Put: the walk. · tympanhelp.Own, Same, Kept of bytes: the walks. · PackTells: the walk. -/
import Derived.Test.YtpfkijjpophobaaU5
import Derived.Test.YtpfkijjpophobaaL9
namespace Go.Proofs.Ytpfkijjpophobaa
set_option linter.unusedVariables false
open Go.RowKit

set_option maxHeartbeats 4000000 in
set_option maxRecDepth 100000 in
theorem rput_all (v : Value) (T : List Pl.Tok) (hT : T.length ≤ 4000) (hok : ∀ t ∈ T, t.s.length < 4611686018427387904) (W : World) (hv : RdT v T W) :
    Calls Try.prog 28 #[v] W (PutOut (Pl.putAll T) W) := by
  have CM : Hid (∀ t, t ∈ T → ∀ Z, Calls Try.prog 57 #[.agg #[.int .i64 t.k, .int .i64 t.n, .string (Pl.tx t.s), .int .i64 t.a]] Z fun e w' => e = .returned (.bool t.may) ∧ Fr (fun _ => False) Z w') :=
    Lib.hid (fun t ht Z => rtmay_any t.k t.n t.s t.a (hok t ht) Z)
  obtain ⟨R, hR⟩ : ∃ R, R = Pl.putAll T := ⟨_, rfl⟩
  rw [← hR]
  have HV := Lib.hid hv
  obtain ⟨ao, cap, rfl, hcap, hrd⟩ := hv
  obtain ⟨M, hM⟩ : ∃ M, M = T.length := ⟨_, rfl⟩
  have HM := Lib.hid hM
  have HR := Lib.hid hR
  rw [← hM] at hcap hT ⊢
  clear hrd hM hR hok
  have NIL : ∀ (y : Int) (Z : World), R = ([], y) → Fr (fun _ => False) W Z → PutOut R W (.returned (.tuple #[.slice none 0 0, .int .i64 y])) Z := fun y Z h1 h2 => by
    rw [h1]
    exact ⟨_, rfl, .inl ⟨rfl, rfl⟩, h2⟩
  have NILH := Lib.hid NIL
  have h4M : decide ((4000 : Int) < (M : Int)) = false := decide_eq_false (by omega)
  have hM8 : (M : Int) < 9223372036854775807 := by omega
  clear NIL hT
  go_enter Try.func28, Try.ntmps28
  go_wp2_with fail
  go_loopw [4] (fun s10 wr => ∃ (i : Nat), s10 = .int .i64 (i : Int) ∧ i ≤ M ∧ Hid ((T.take i).all Pl.Tok.may = true) ∧ Hid (Fr (fun _ => False) W wr)) (fun s10 _ => (M - intOf s10).toNat)
  case atStart => exact ⟨0, rfl, by omega, Lib.hid (by simp), Lib.hid (Fr.refl _ _)⟩
  case round =>
    obtain ⟨i, rfl, hi, HA, HF⟩ := hrel
    by_cases hiM : i = M
    · replace hiM := hiM.symm
      subst hiM
      have HALL : Hid (T.all Pl.Tok.may = true) := Lib.hid (by have := HA.out; rw [HM.out, List.take_length] at this; exact this)
      have HR0 : Hid (R = if 20000 < (Pl.enc T).length then (([] : List UInt8), (5 : Int)) else (Pl.enc T, 0)) := Lib.hid (by rw [HR.out]; unfold Pl.putAll; rw [if_neg (by rw [HALL.out]; decide)])
      have HAQ := Lib.hid (ownB_const wr Pl.hd (by decide) (.slice (some ⟨wr.heap.size, 0, none⟩) 4 4) rfl W.heap.size HF.out.2.2.1)
      rw [show (Pl.hd.map Pl.u8).toArray = #[.int .u8 244, .int .u8 84, .int .u8 80, .int .u8 1] from rfl, show Pl.hd.length = 4 from rfl] at HAQ
      have kc : (convert 30 30 (.slice (some ⟨wr.heap.size, 0, none⟩) 4 4)).run Try.prog (wr.alloc (.cells #[.int .u8 244, .int .u8 84, .int .u8 80, .int .u8 1] 5)) = .ok (.slice (some ⟨wr.heap.size, 0, none⟩) 4 4) (wr.alloc (.cells #[.int .u8 244, .int .u8 84, .int .u8 80, .int .u8 1] 5 (4, 4 + 1))) :=
        Lib.run_convert_bytes_const (P := Try.prog) wr 30 5 #[.int .u8 244, .int .u8 84, .int .u8 80, .int .u8 1] 4 4 Try.underlying30 Try.underlying5
      have FA := Lib.hid (HF.out.trans (Fr.alloc (fun _ => False) wr (.cells #[.int .u8 244, .int .u8 84, .int .u8 80, .int .u8 1] 5 (4, 4 + 1))))
      clear HR CM
      go_wp2_with fail
      go_loopw [5, 6] (fun s2 s24 wr => ∃ (i : Nat) (bv : Value), bv = s2 ∧ s24 = .int .i64 (i : Int) ∧ i ≤ M ∧ Hid (OwnB W.heap.size bv (Pl.enc (T.take i)) wr) ∧ Hid ((Pl.enc (T.take i)).length ≤ 20000) ∧ Hid (Fr (fun _ => False) W wr)) (fun _ s24 _ => (M - intOf s24).toNat)
      case atStart => exact ⟨0, _, rfl, rfl, by omega, Lib.hid (by exact HAQ.out), Lib.hid (by show (Pl.enc []).length ≤ 20000; decide), FA⟩
      case round =>
        clear HF HA kc HAQ FA
        obtain ⟨i, s0, rfl, rfl, hi, HO, HL, HF⟩ := hrel
        by_cases hiM : i = M
        · replace hiM := hiM.symm
          subst hiM
          have e1 : T.take M = T := by rw [HM.out, List.take_length]
          have HRR : Hid (R = (Pl.enc T, 0)) := Lib.hid (by
            rw [HR0.out, if_neg]
            have := HL.out
            rw [e1] at this
            omega)
          have OO : Hid (OwnB W.heap.size s0 (Pl.enc T) wr) := Lib.hid (by have := HO.out; rw [e1] at this; exact this)
          clear e1 HO
          go_wp2_with fail
          go_ret2
          rw [HRR.out]
          exact ⟨_, rfl, OO.out, HF.out⟩
        have hiI : (i : Int) < (M : Int) := by omega
        have HIM := Lib.hid (show i < M by omega)
        have hlt : i < T.length := by have := HM.out; omega
        obtain ⟨g, o, cap2, hvv, hg, c0, c1, c2, c3⟩ := HV.out.at i T[i] (List.getElem?_eq_getElem hlt)
        have hmay := List.all_eq_true.1 HALL.out T[i] (List.getElem_mem hlt)
        have HTI := Lib.hid (List.getElem?_eq_getElem hlt)
        obtain ⟨t, ht⟩ : ∃ t, t = T[i] := ⟨_, rfl⟩
        rw [← ht] at c0 c1 c2 c3 hmay HTI
        rw [← HM.out] at hvv
        injection hvv with q1 q2 q3
        subst q1 q3
        clear q2
        have HCZ : Hid (∀ Z, Fr (fun _ => False) W Z → Z.cell? ⟨g, o + i * 4, none⟩ = some (.int .i64 t.k) ∧ Z.cell? ⟨g, o + i * 4 + 1, none⟩ = some (.int .i64 t.n) ∧ Z.cell? ⟨g, o + i * 4 + 2, none⟩ = some (.string (Pl.tx t.s)) ∧ Z.cell? ⟨g, o + i * 4 + 3, none⟩ = some (.int .i64 t.a)) := Lib.hid (fun Z f =>
          ⟨(f.cell (a := ⟨g, o + i * 4, none⟩) hg (fun f => f)).trans c0, (f.cell (a := ⟨g, o + i * 4 + 1, none⟩) hg (fun f => f)).trans c1, (f.cell (a := ⟨g, o + i * 4 + 2, none⟩) hg (fun f => f)).trans c2, (f.cell (a := ⟨g, o + i * 4 + 3, none⟩) hg (fun f => f)).trans c3⟩)
        clear c0 c1 c2 c3
        obtain ⟨c0, c1, c2, c3⟩ := HCZ.out wr HF.out
        obtain ⟨b0, b1, b2, b3, b4, b5, b6⟩ := Pl.may_bd t hmay
        have hw8 : t.k % 256 = t.k := by omega
        obtain ⟨β, hβ⟩ : ∃ β, β = UInt8.ofNat t.k.toNat := ⟨_, rfl⟩
        have HBT := Lib.hid hβ
        have hkn : ((t.k.toNat : Nat) : Int) = t.k := by omega
        have HB := Lib.hid (one_row wr β t.k (by rw [hβ, Pl.u8_of t.k.toNat (by omega), hkn]))
        have HAO := Lib.hid (HO.out.fr (Fr.alloc (fun _ => False) wr (.cells #[.int .u8 t.k] 5)) (fun _ _ f => f))
        have HBS : Hid (W.heap.size ≤ (wr.alloc (.cells #[.int .u8 t.k] 5)).heap.size) := Lib.hid (by have := HF.out.2.2.1; simp; omega)
        have HLB : Hid ((Pl.enc (T.take i) ++ [β]).length ≤ 20001) := Lib.hid (by have := HL.out; rw [List.length_append, List.length_singleton]; omega)
        clear hlt hmay ht hβ hkn hiM hi b4 b5 b6
        have hbb := Pl.may_bd t (by have := List.all_eq_true.1 HALL.out t (List.mem_of_getElem? HTI.out); exact this)
        obtain ⟨-, -, -, -, b4, b5, b6⟩ := hbb
        have HB46 := Lib.hid b4
        clear b4 b5 b6
        go_wp2_with (at_builtin; refine wpList_appB _ W.heap.size s0 (Pl.enc (T.take i)) HAO.out _ [β] 30 (.inl rfl) (src_slice HB.out) (by have := HL.out; simp; omega) HBS.out (hgd := rfl) (.tmp 30) (.tmp 37) rfl (by simp [Act.eval]) (by simp [Act.eval]) ?_)
        intro v1 w1 o1 g1 hg1
        have FG := Fr.grown (fun k => s0.ownBlock = some k) g1 (fun k hk => hk)
        have F1 := Lib.hid ((HF.out.trans (Fr.alloc (fun _ => False) wr _)).trans' FG (fun k hk => .inr (HO.out.from k hk).1))
        obtain ⟨L1, hL1⟩ : ∃ L1, L1 = Pl.enc (T.take i) ++ [β] := ⟨_, rfl⟩
        rw [← hL1] at o1 HLB
        have HL1 := Lib.hid hL1
        have O1 := Lib.hid o1
        have HBS1 : Hid (W.heap.size ≤ w1.heap.size) := Lib.hid F1.out.2.2.1
        have HOW1 : Hid (∀ g, v1.ownBlock = some g → W.heap.size ≤ g) := Lib.hid (fun g h => (O1.out.from g h).1)
        clear FG o1 g1 hg1 HB HAO HBS hL1 c0 c1 c2 c3
        obtain ⟨c0, c1, c2, c3⟩ := HCZ.out w1 F1.out
        have cs : (t.k = 1 ∨ t.k = 2) ∨ (3 ≤ t.k ∧ t.k ≤ 6) ∨ 7 ≤ t.k := by omega
        rcases cs with hk | hk | hk
        · have HE : Hid (L1 ++ Pl.num7 (Pl.fold t.n) = Pl.enc (T.take (i + 1))) := Lib.hid (by
            rw [HL1.out, Pl.enc_take T i t HTI.out]
            unfold Pl.Tok.bytes
            rw [if_pos hk, ← HBT.out, List.append_assoc]
            rfl)
          have CN := Lib.hid (rnumber_any (Pl.fold t.n) (Pl.fold_bd t.n (by omega) (by omega)) W.heap.size v1 L1 (by have := HLB.out; omega) w1 HBS1.out O1.out)
          have CF := Lib.hid (fun Z => rfolded9 t.n (by omega) (by omega) Z)
          have SGH := Lib.hid (fun Z => by have h := rsigned9 t.k Z; rw [decide_eq_true hk] at h; exact h)
          clear hk
          go_wp2_with fail
          refine (SGH.out _).mono ?_
          rintro x w2 ⟨rfl, rfl⟩
          go_wp2_with fail
          refine (CF.out _).mono ?_
          rintro x w2 ⟨rfl, rfl⟩
          go_wp2_with fail
          refine (CN.out).mono ?_
          rintro x w3 ⟨v3, rfl, o3, f3, _⟩
          have F3 := Lib.hid (F1.out.trans' f3 (fun k hk => .inr (HOW1.out k hk)))
          have O3 := Lib.hid o3
          clear o3 f3
          obtain ⟨L9, h9⟩ : ∃ L9, L9 = L1 ++ Pl.num7 (Pl.fold t.n) := ⟨_, rfl⟩
          have o9 : OwnB W.heap.size v3 L9 w3 := by rw [h9]; exact O3.out
          have H9 := Lib.hid h9
          have O9 := Lib.hid o9
          obtain ⟨ao9, cap9, e9, hc9, _⟩ := o9.rd
          subst e9
          obtain ⟨N9, hN9⟩ : ∃ N9, N9 = L9.length := ⟨_, rfl⟩
          have HN9 := Lib.hid hN9
          have F9 := Lib.hid F3.out
          have E9 : Hid (L9 = Pl.enc (T.take (i + 1))) := Lib.hid (by rw [H9.out]; exact HE.out)
          rw [← hN9] at hc9 ⊢
          clear o9 h9 hN9
          by_cases hbig : 20000 < N9
          · have hb9 : decide ((20000 : Int) < (N9 : Int)) = true := decide_eq_true (by omega)
            have HRR : Hid (R = ([], 5)) := Lib.hid (by
              rw [HR0.out, if_pos]
              have h1 := Pl.enc_mono T (i + 1)
              rw [← E9.out, ← HN9.out] at h1
              omega)
            clear hbig
            go_wp2_with fail
            go_ret2
            exact NILH.out _ _ HRR.out F9.out
          · have hb9 : decide ((20000 : Int) < (N9 : Int)) = false := decide_eq_false (by omega)
            have HB9 := Lib.hid (show L9.length ≤ 20000 by have := HN9.out; omega)
            clear hbig
            go_wp2_with fail
            refine ⟨⟨i + 1, _, rfl, by simp, by have := HIM.out; omega, Lib.hid ?_, Lib.hid ?_, F9⟩, by have := HIM.out; simp only [intOf]; omega⟩
            · rw [← E9.out, HN9.out]
              exact O9.out
            · rw [← E9.out]
              exact HB9.out
        · have b4 := HB46.out
          have hk1 : ¬ (t.k = 1 ∨ t.k = 2) := by omega
          have HE : Hid (L1 ++ Pl.num7 t.s.length ++ t.s = Pl.enc (T.take (i + 1))) := Lib.hid (by
            rw [HL1.out, Pl.enc_take T i t HTI.out]
            unfold Pl.Tok.bytes
            rw [if_neg hk1, if_pos hk, ← HBT.out]
            simp only [List.append_assoc, List.cons_append, List.nil_append])
          have HLN : Hid ((Pl.num7 t.s.length).length + t.s.length ≤ 34359738368) := Lib.hid (by
            have h := Pl.num7_len t.s.length
            omega)
          have CN : Hid (Calls Try.prog 59 #[v1, .int .i64 ((Pl.tx t.s).size : Int)] w1.drew fun e w' => ∃ v, e = .returned v ∧ OwnB W.heap.size v (L1 ++ Pl.num7 t.s.length) w' ∧ Fr (fun k => v1.ownBlock = some k) w1.drew w' ∧ ∀ g, v.ownBlock = some g → v1.ownBlock = some g ∨ w1.drew.heap.size ≤ g) := Lib.hid (by
            rw [Pl.tx_size]
            exact rnumber_any t.s.length (by omega) W.heap.size v1 L1 (by have := HLB.out; omega) w1.drew HBS1.out (O1.out.fr (Fr.refl (fun _ => False) w1).drew (fun _ _ f => f)))
          have SGH := Lib.hid (fun Z => by have h := rsigned9 t.k Z; rw [decide_eq_false hk1] at h; exact h)
          have TXH := Lib.hid (fun Z => by have h := rtext9 t.k Z; rw [decide_eq_true hk] at h; exact h)
          clear hk hk1
          go_wp2_with fail
          refine (SGH.out _).mono ?_
          rintro x w2 ⟨rfl, rfl⟩
          go_wp2_with fail
          refine (TXH.out _).mono ?_
          rintro x w2 ⟨rfl, rfl⟩
          go_wp2_with fail
          go_region_held_law (fun Z => Z.cell? ⟨g, o + i * 4 + 2, none⟩ = some (.string (Pl.tx t.s))) (first | assumption | simp [*]) (first
            | (go_at_call 59; refine (CN.out).mono ?_; rintro x w3 ⟨v3, rfl, o3, f3, ow3⟩; have O3 := Lib.hid o3; have F3 := Lib.hid ((F1.out.drew).trans' f3 (fun k hk => .inr (HOW1.out k hk))); have HBS3 : Hid (W.heap.size ≤ w3.heap.size) := Lib.hid F3.out.2.2.1; have s3 := (HCZ.out w3 F3.out).2.2.1; clear o3 f3 ow3)
            | (refine step_appB _ W.heap.size v3 (L1 ++ Pl.num7 t.s.length) O3.out (.string (Pl.tx t.s)) t.s 9 (.inr rfl) (src_string t.s _) (by have := HLN.out; have := HLB.out; rw [List.length_append]; omega) HBS3.out rfl (.tmp 68) (.tmp 73) rfl (by simp [Act.eval]) (by simp [Act.eval]) ?_; intro v4 w4 o4 g4 hg4; have F34 := Fr.grown (fun k => v3.ownBlock = some k) g4 (fun k hk => hk); have F4 := Lib.hid (F3.out.trans' F34 (fun k hk => .inr (O3.out.from k hk).1)); have s4 := (HCZ.out w4 F4.out).2.2.1; clear g4 hg4 F34))
          obtain ⟨L9, h9⟩ : ∃ L9, L9 = L1 ++ Pl.num7 t.s.length ++ t.s := ⟨_, rfl⟩
          have o9 : OwnB W.heap.size v4 L9 w4 := by rw [h9]; exact o4
          have H9 := Lib.hid h9
          have O9 := Lib.hid o9
          obtain ⟨ao9, cap9, e9, hc9, _⟩ := o9.rd
          subst e9
          obtain ⟨N9, hN9⟩ : ∃ N9, N9 = L9.length := ⟨_, rfl⟩
          have HN9 := Lib.hid hN9
          have F9 := Lib.hid F4.out
          have E9 : Hid (L9 = Pl.enc (T.take (i + 1))) := Lib.hid (by rw [H9.out]; exact HE.out)
          rw [← hN9] at hc9 ⊢
          clear o9 h9 hN9
          by_cases hbig : 20000 < N9
          · have hb9 : decide ((20000 : Int) < (N9 : Int)) = true := decide_eq_true (by omega)
            have HRR : Hid (R = ([], 5)) := Lib.hid (by
              rw [HR0.out, if_pos]
              have h1 := Pl.enc_mono T (i + 1)
              rw [← E9.out, ← HN9.out] at h1
              omega)
            clear hbig
            go_wp2_with fail
            go_ret2
            exact NILH.out _ _ HRR.out F9.out
          · have hb9 : decide ((20000 : Int) < (N9 : Int)) = false := decide_eq_false (by omega)
            have HB9 := Lib.hid (show L9.length ≤ 20000 by have := HN9.out; omega)
            clear hbig
            go_wp2_with fail
            refine ⟨⟨i + 1, _, rfl, by simp, by have := HIM.out; omega, Lib.hid ?_, Lib.hid ?_, F9⟩, by have := HIM.out; simp only [intOf]; omega⟩
            · rw [← E9.out, HN9.out]
              exact O9.out
            · rw [← E9.out]
              exact HB9.out
        · have hk1 : ¬ (t.k = 1 ∨ t.k = 2) := by omega
          have hk2 : ¬ (3 ≤ t.k ∧ t.k ≤ 6) := by omega
          have HE : Hid (L1 = Pl.enc (T.take (i + 1))) := Lib.hid (by
            rw [HL1.out, Pl.enc_take T i t HTI.out]
            unfold Pl.Tok.bytes
            rw [if_neg hk1, if_neg hk2, ← HBT.out])
          have SGH := Lib.hid (fun Z => by have h := rsigned9 t.k Z; rw [decide_eq_false hk1] at h; exact h)
          have TXH := Lib.hid (fun Z => by have h := rtext9 t.k Z; rw [decide_eq_false hk2] at h; exact h)
          clear hk hk1 hk2
          go_wp2_with fail
          refine (SGH.out _).mono ?_
          rintro x w2 ⟨rfl, rfl⟩
          go_wp2_with fail
          refine (TXH.out _).mono ?_
          rintro x w2 ⟨rfl, rfl⟩
          obtain ⟨L9, h9⟩ : ∃ L9, L9 = L1 := ⟨_, rfl⟩
          have o9 : OwnB W.heap.size v1 L9 w1 := by rw [h9]; exact O1.out
          have H9 := Lib.hid h9
          have O9 := Lib.hid o9
          obtain ⟨ao9, cap9, e9, hc9, _⟩ := o9.rd
          subst e9
          obtain ⟨N9, hN9⟩ : ∃ N9, N9 = L9.length := ⟨_, rfl⟩
          have HN9 := Lib.hid hN9
          have F9 := Lib.hid F1.out
          have E9 : Hid (L9 = Pl.enc (T.take (i + 1))) := Lib.hid (by rw [H9.out]; exact HE.out)
          rw [← hN9] at hc9 ⊢
          clear o9 h9 hN9
          by_cases hbig : 20000 < N9
          · have hb9 : decide ((20000 : Int) < (N9 : Int)) = true := decide_eq_true (by omega)
            have HRR : Hid (R = ([], 5)) := Lib.hid (by
              rw [HR0.out, if_pos]
              have h1 := Pl.enc_mono T (i + 1)
              rw [← E9.out, ← HN9.out] at h1
              omega)
            clear hbig
            go_wp2_with fail
            go_ret2
            exact NILH.out _ _ HRR.out F9.out
          · have hb9 : decide ((20000 : Int) < (N9 : Int)) = false := decide_eq_false (by omega)
            have HB9 := Lib.hid (show L9.length ≤ 20000 by have := HN9.out; omega)
            clear hbig
            go_wp2_with fail
            refine ⟨⟨i + 1, _, rfl, by simp, by have := HIM.out; omega, Lib.hid ?_, Lib.hid ?_, F9⟩, by have := HIM.out; simp only [intOf]; omega⟩
            · rw [← E9.out, HN9.out]
              exact O9.out
            · rw [← E9.out]
              exact HB9.out
    · have hiI : (i : Int) < (M : Int) := by omega
      have HIM := Lib.hid (show i < M by omega)
      have hlt : i < T.length := by have := HM.out; omega
      obtain ⟨g, o, cap2, hvv, hg, c0, c1, c2, c3⟩ := (HV.out.fr0 HF.out).at i T[i] (List.getElem?_eq_getElem hlt)
      have CMi := CM.out T[i] (List.getElem_mem hlt)
      have HTI := Lib.hid (List.getElem?_eq_getElem hlt)
      have HTM := Lib.hid (List.getElem_mem hlt)
      obtain ⟨t, ht⟩ : ∃ t, t = T[i] := ⟨_, rfl⟩
      rw [← ht] at c0 c1 c2 c3 HTI CMi HTM
      rw [← HM.out] at hvv
      injection hvv with q1 q2 q3
      subst q1 q3
      clear q2
      obtain ⟨m, hm⟩ : ∃ m, m = t.may := ⟨_, rfl⟩
      rw [← hm] at CMi
      have HMM := Lib.hid hm
      have CMH := Lib.hid CMi
      clear hlt ht hiM hi CMi hm
      go_wp2_with fail
      refine (CMH.out _).mono ?_
      rintro x w2 ⟨rfl, f2⟩
      have F2 := Lib.hid (HF.out.trans f2)
      clear f2
      rcases m with _ | _
      · have HRR : Hid (R = ([], 1)) := Lib.hid (by
          rw [HR.out]
          unfold Pl.putAll
          rw [if_pos]
          rw [Bool.eq_false_iff]
          intro h
          have := List.all_eq_true.1 h t HTM.out
          rw [← HMM.out] at this
          cases this)
        go_wp2_with fail
        go_ret2
        exact NILH.out _ _ HRR.out F2.out
      · go_wp2_with fail
        refine ⟨⟨i + 1, by simp, by have := HIM.out; omega, Lib.hid ?_, F2⟩, by have := HIM.out; simp only [intOf]; omega⟩
        rw [List.take_add_one, HTI.out, List.all_append, HA.out]
        simp [← HMM.out]
end Go.Proofs.Ytpfkijjpophobaa

namespace Go.Proofs.Ytpfkijjpophobaa
set_option linter.unusedVariables false
open Go.RowKit

/-- append where there is room: the same block -/
theorem run_appB_room (base g cap : Nat) (L : List UInt8) (W : World) (hown : OwnB base (.slice (some ⟨g, 0, none⟩) L.length cap) L W) (x : Value) (N : List UInt8) (u ty : TypeId) (hu : u = 30 ∨ u = 9)
    (hx : ∀ w', (Builtin.lenOf x).run Try.prog w' = .ok N.length w') (hf : (Builtin.firstCells 1 N.length x).run Try.prog W = .ok (N.map Pl.u8).toArray W) (hroom : L.length + N.length ≤ cap) :
    ∃ w', (Builtin.append_ #[30, u] ty #[.slice (some ⟨g, 0, none⟩) L.length cap, x]).run Try.prog W = .ok (.slice (some ⟨g, 0, none⟩) (L.length + N.length) cap) w' ∧ OwnB base (.slice (some ⟨g, 0, none⟩) (L.length + N.length) cap) (L ++ N) w' ∧ Fr (fun q => q = g) W w' := by
  obtain ⟨i, hi, hz0, hz1, hz2⟩ := info_parts Try.byteInfo
  have hlen : (L ++ N).length = L.length + N.length := List.length_append
  rcases hown with ⟨h, _⟩ | ⟨g2, cap2, cur, fz, hv, hb, hg, hz, hc, hcm, hs, htk⟩
  · cases h
  · injection hv with q1 _ q3
    injection q1 with q1
    injection q1 with q1
    subst q1 q3
    have hst := storeCells_mark Try.prog g L.length 5 fz (N.map Pl.u8) 0 cur W hg (by rw [hs]; exact hz) (by rw [List.length_map]; omega) (Pl.u8_one N)
    simp only [Nat.add_zero, List.length_map] at hst
    have hrun : (Builtin.append_ #[30, u] ty #[.slice (some ⟨g, 0, none⟩) L.length cap, x]).run Try.prog W = .ok (.slice (some ⟨g, 0, none⟩) (L.length + N.length) cap) (W.setRow g (cur.toList.take L.length ++ N.map Pl.u8 ++ cur.toList.drop (L.length + N.length)).toArray) := by
      rcases hu with rfl | rfl
      · simp [Builtin.append_, run_underlying Try.underlying30, sizeOf, typeInfo, hi, hz1, hx, hroom, hf, Addr.add_lit, hst]
      · simp [Builtin.append_, run_underlying Try.underlying30, run_underlying Try.underlying9, sizeOf, typeInfo, hi, hz1, hx, hroom, hf, Addr.add_lit, hst]
    refine ⟨_, hrun, .inr ⟨g, cap, _, fz, by rw [hlen], hb, setRow_heap W g cur _ 5 _ hg, hz, by rw [hlen]; exact hroom, hcm, ?_, ?_⟩, ⟨rfl, rfl, by simp, fun k _ hk => setRow_other W g k _ hk⟩⟩
    · simp only [List.size_toArray, List.length_append, List.length_take, List.length_drop, Array.length_toList, List.length_map]
      omega
    · rw [htk, List.map_append, hlen]
      rw [show L.length + N.length = (L.map Pl.u8 ++ N.map Pl.u8).length by simp]
      exact List.take_left
theorem wpList_appB_room (base g cap : Nat) (L : List UInt8) (W : World) (hown : OwnB base (.slice (some ⟨g, 0, none⟩) L.length cap) L W) (xv : Value) (N : List UInt8) (u : TypeId) (hu : u = 30 ∨ u = 9)
    (hx : ∀ w', (Builtin.lenOf xv).run Try.prog w' = .ok N.length w') (hf : (Builtin.firstCells 1 N.length xv).run Try.prog W = .ok (N.map Pl.u8).toArray W) (hroom : L.length + N.length ≤ cap)
    {ops : Array Oper} {rest : List Oper} {o : Oper} {a : Act} {Q : Exit → Act → World → Prop} (hgd : o.guard = none) (s x : Operand) (ho : o.op = .call { callee := .builtin .append, args := #[s, x], argTypes := #[30, u] })
    (hs : a.eval s = .slice (some ⟨g, 0, none⟩) L.length cap) (hxx : a.eval x = xv)
    (h : ∀ w', OwnB base (.slice (some ⟨g, 0, none⟩) (L.length + N.length) cap) (L ++ N) w' → Fr (fun q => q = g) W w' → wpList Try.prog ops Q rest (a.put o.dst (.slice (some ⟨g, 0, none⟩) (L.length + N.length) cap)) w') : wpList Try.prog ops Q (o :: rest) a W :=
  wpList_plain hgd fun _ hK => by
    obtain ⟨w', hr, h2, h3⟩ := run_appB_room base g cap L W hown xv N u o.type hu hx hf hroom
    unfold Oper.wp execOp
    simp only [ho, resolve, invoke, builtin, Sem.run_bind, Sem.run_pure, Result.andThen_ok, List.map_toArray, List.map_cons, List.map_nil, hs, hxx, hr]
    exact hK _ _ (h w' h2 h3)
/-- one byte more, in the room behind -/
theorem OwnB.push {base g cap : Nat} {L : List UInt8} {W : World} (h : OwnB base (.slice (some ⟨g, 0, none⟩) L.length cap) L W) (hc : L.length < cap) :
    (∃ u, W.cell? ⟨g, L.length, none⟩ = some u) ∧ W.frozen? ⟨g, L.length, none⟩ = false ∧ ∀ c : UInt8, OwnB base (.slice (some ⟨g, 0, none⟩) (L.length + 1) cap) (L ++ [c]) (W.setCell ⟨g, L.length, none⟩ (.int .u8 (c.toNat : Int))) := by
  rcases h with ⟨h, _⟩ | ⟨g2, cap2, cur, fz, hv, hb, hg, hz, hcc, hcm, hs, htk⟩
  · cases h
  · injection hv with q1 _ q3
    injection q1 with q1
    injection q1 with q1
    subst q1 q3
    have hlt : L.length < cur.size := by omega
    refine ⟨⟨cur[L.length], ?_⟩, ?_, fun c => ?_⟩
    · rw [cell_of_row W g L.length cur 5 fz hg]
      exact Array.getElem?_eq_getElem hlt
    · have := hz L.length hc
      obtain ⟨lo, hi⟩ := fz
      simp only [World.frozen?, hg, Bool.and_eq_false_iff, decide_eq_false_iff_not]
      simp only at this
      omega
    · rw [setCell_eq_setRow W g L.length cur 5 fz _ hg]
      have hl2 : (L ++ [c]).length = L.length + 1 := by simp
      refine .inr ⟨g, cap, cur.setIfInBounds L.length (.int .u8 (c.toNat : Int)), fz, by rw [hl2], hb, setRow_heap W g cur _ 5 fz hg, hz, by rw [hl2]; omega, hcm, by simpa using hs, ?_⟩
      rw [hl2, Array.toList_setIfInBounds, List.take_set]
      have e : cur.toList.take (L.length + 1) = L.map Pl.u8 ++ [cur[L.length]] := by
        rw [List.take_add_one, htk, Array.getElem?_toList, Array.getElem?_eq_getElem hlt]
        rfl
      rw [e, List.set_append_right _ _ (by simp)]
      simp [Pl.u8]
set_option maxRecDepth 100000 in
theorem own_bytes (v : Value) (L : List UInt8) (hL : L.length < 1000000) (W : World) (hv : RdB v L W) :
    Calls Try.prog 29 #[v, .int .u8 71] W fun e w' => ∃ g, e = .returned (.slice (some ⟨g, 0, none⟩) L.length (L.length + 3)) ∧ OwnB W.heap.size (.slice (some ⟨g, 0, none⟩) (L.length + 3) (L.length + 3)) (L ++ [71, 71, 71]) w' ∧ Fr (fun _ => False) W w' := by
  have HV := Lib.hid hv
  obtain ⟨ao, cap, rfl, hcap, hrd⟩ := hv
  obtain ⟨M, hM⟩ : ∃ M, M = L.length := ⟨_, rfl⟩
  have HM := Lib.hid hM
  rw [← hM] at hL hcap ⊢
  clear hrd hM
  obtain ⟨i, hi, hz0, hz1, hz2⟩ := info_parts Try.byteInfo
  have km : ∀ Z, (Instr.makeSlice 30 (.int .i64 0) (.int .i64 ((M : Int) + 3))).run Try.prog Z = .ok (.slice (some ⟨Z.heap.size, 0, none⟩) 0 (M + 3)) (Z.alloc (.cells (madeCells #[.int .u8 0] (M + 3)) 5)) := fun Z => by
    have h := run_make (P := Try.prog) Z 30 5 i (.int .u8 0) Try.underlying30 hi hz0 .i64 .i64 0 ((M : Int) + 3) (by omega) (by omega) (by rw [hz2]; omega) (by omega)
    rw [h, hz1, show ((M : Int) + 3).toNat = M + 3 by omega, Nat.mul_one]
    rfl
  have kM := km W
  have HO0 : Hid (OwnB W.heap.size (.slice (some ⟨W.heap.size, 0, none⟩) ([] : List UInt8).length (M + 3)) [] (W.alloc (.cells (madeCells #[.int .u8 0] (M + 3)) 5))) := Lib.hid (.inr ⟨W.heap.size, M + 3, _, (0, 0), rfl, Nat.le_refl _, heap_alloc_new W _, fun j _ q => by simp at q, by simp, by simp only [maxLen]; omega, size_madeCells _ _, by simp⟩)
  have HB := Lib.hid (HV.out.fr0 (Fr.alloc (fun _ => False) W (.cells (madeCells #[.int .u8 0] (M + 3)) 5)))
  have hS := Lib.hid (src_slice HB.out)
  rw [← HM.out] at HB hS
  clear km hi hz0 hz1 hz2
  go_enter Try.func29, Try.ntmps29
  go_wp2_with (at_builtin; refine wpList_appB_room W.heap.size W.heap.size (M + 3) [] _ HO0.out (.slice ao M cap) L 30 (.inl rfl) (fun w' => by have := hS.out.1 w'; rw [← HM.out]; exact this) (by have := hS.out.2 _ (.inl rfl); rw [← HM.out]; exact this) (by have := HM.out; simp; omega) (hgd := rfl) (.tmp 12) (.tmp 13) rfl (by simp [Act.eval]) (by simp [Act.eval]) ?_)
  intro w2 o2 f2
  rw [← HM.out] at o2 ⊢
  have O2 := Lib.hid o2
  have F2 := Lib.hid f2
  clear o2 f2
  go_wp2_with fail
  go_loopw [7] (fun s7 wr => ∃ (p : Nat), s7 = .int .i64 (p : Int) ∧ M ≤ p ∧ p ≤ M + 3 ∧ Hid (OwnB W.heap.size (.slice (some ⟨W.heap.size, 0, none⟩) p (M + 3)) (L ++ List.replicate (p - M) 71) wr) ∧ Hid (Fr (fun q => q = W.heap.size) w2 wr)) (fun s7 _ => (M + 3 - intOf s7).toNat)
  case atStart => exact ⟨M, rfl, by omega, by omega, Lib.hid (by rw [Nat.sub_self]; simpa using O2.out), Lib.hid (Fr.refl _ _)⟩
  case round =>
    obtain ⟨p, rfl, hp0, hp1, HO, HF⟩ := hrel
    by_cases hp : p = M + 3
    · subst hp
      have hb : decide ((M : Int) + 3 < (M : Int) + 3) = false := decide_eq_false (by omega)
      have OE : Hid (OwnB W.heap.size (.slice (some ⟨W.heap.size, 0, none⟩) (M + 3) (M + 3)) (L ++ [71, 71, 71]) wr) := Lib.hid (by have := HO.out; rw [show M + 3 - M = 3 by omega] at this; exact this)
      have FE := Lib.hid (fr_born ((Fr.alloc (fun _ => False) W (.cells (madeCells #[.int .u8 0] (M + 3)) 5))) (F2.out.trans HF.out) (Nat.le_refl _))
      clear HO HF kM hp0 hp1
      go_wp2_with fail
      go_ret
      exact ⟨W.heap.size, rfl, OE.out, FE.out⟩
    · have hlen : (L ++ List.replicate (p - M) 71).length = p := by rw [List.length_append, List.length_replicate, ← HM.out]; omega
      have ho : OwnB W.heap.size (.slice (some ⟨W.heap.size, 0, none⟩) (L ++ List.replicate (p - M) 71).length (M + 3)) (L ++ List.replicate (p - M) 71) wr := by rw [hlen]; exact HO.out
      obtain ⟨⟨u, c0⟩, c1, hset⟩ := OwnB.push (cap := M + 3) ho (by rw [hlen]; omega)
      rw [hlen] at c0 c1 hset
      have hb : decide ((p : Int) < (M : Int) + 3) = true := decide_eq_true (by omega)
      have hpI : (p : Int) < (M : Int) + 3 := by omega
      have hpl : p < M + 3 := by omega
      have OS : Hid (OwnB W.heap.size (.slice (some ⟨W.heap.size, 0, none⟩) (p + 1) (M + 3)) (L ++ List.replicate (p + 1 - M) 71) (wr.setCell ⟨W.heap.size, p, none⟩ (.int .u8 71))) := Lib.hid (by
        have h := hset 71
        rw [List.append_assoc, ← List.replicate_succ', show p - M + 1 = p + 1 - M by omega] at h
        exact h)
      have FS := Lib.hid (HF.out.trans (Fr.setCell (fun q => q = W.heap.size) wr ⟨W.heap.size, p, none⟩ (.int .u8 71) rfl))
      have HPL := Lib.hid hpl
      clear ho hset hlen hp HO kM
      go_wp2_with fail
      exact ⟨⟨p + 1, by simp, by omega, by have := HPL.out; omega, OS, FS⟩, by simp only [intOf]; omega⟩
set_option maxHeartbeats 2000000 in
set_option maxRecDepth 100000 in
theorem same_bytes (v1 v2 : Value) (L : List UInt8) (hL : L.length < 1000000) (W : World) (h1 : RdB v1 L W) (h2 : RdB v2 L W) :
    Calls Try.prog 63 #[v1, v2] W fun e w' => e = .returned (.bool true) ∧ Fr (fun _ => False) W w' := by
  obtain ⟨M, hM⟩ : ∃ M, M = L.length := ⟨_, rfl⟩
  have H1 := Lib.hid h1
  have H2 := Lib.hid h2
  obtain ⟨ao1, cap1, rfl, hc1, r1⟩ := h1
  obtain ⟨ao2, cap2, rfl, hc2, r2⟩ := h2
  have HM := Lib.hid hM
  have R1 := Lib.hid r1
  have R2 := Lib.hid r2
  rw [← hM] at hc1 hc2 hL ⊢
  clear hM r1 r2
  go_enter Try.func63, Try.ntmps63
  go_wp2_with fail
  go_loopw [5] (fun i wr => ∃ k : Nat, i = .int .i64 (k : Int) ∧ k ≤ M ∧ Hid (Fr (fun _ => False) W wr)) (fun i _ => ((M : Int) - intOf i).toNat)
  case atStart => exact ⟨0, rfl, by omega, Lib.hid (Fr.refl _ W)⟩
  case round =>
    obtain ⟨k, rfl, hk, HF⟩ := hrel
    by_cases hkM : k = M
    · have hb : ((k : Int) < (M : Int)) = False := by simp; omega
      go_wp2_with fail
      go_ret
      exact ⟨rfl, HF.out⟩
    · have hkI : (k : Int) < (M : Int) := by omega
      have hlt : k < L.length := by have := HM.out; omega
      obtain ⟨g1, o1, rfl, hg1, hcell1⟩ := R1.out.resolve_left (fun q => by rw [q] at hlt; simp at hlt)
      obtain ⟨g2, o2, rfl, hg2, hcell2⟩ := R2.out.resolve_left (fun q => by rw [q] at hlt; simp at hlt)
      have c1 := byte_cell ((HF.out.cell (a := ⟨g1, o1 + k, none⟩) hg1 (fun f => f)).trans (hcell1 k L[k] (List.getElem?_eq_getElem hlt)))
      have c2 := byte_cell ((HF.out.cell (a := ⟨g2, o2 + k, none⟩) hg2 (fun f => f)).trans (hcell2 k L[k] (List.getElem?_eq_getElem hlt)))
      generalize L[k].toNat = x at c1 c2
      have HKM := Lib.hid (show k < M by omega)
      clear hcell1 hcell2 R1 R2 hlt hkM hk
      go_wp2_with fail
      go_quiet (fail)
      go_wp2_with fail
      exact ⟨⟨k + 1, by simp, by have := HKM.out; omega, Lib.hid HF.out.drew⟩, by simp [intOf]; omega⟩
set_option maxHeartbeats 2000000 in
set_option maxRecDepth 100000 in
theorem kept_bytes (ao : Option Addr) (cap : Nat) (v2 : Value) (L : List UInt8) (hL : L.length < 1000000) (hcap : L.length + 3 ≤ cap) (W : World) (h1 : RdB (.slice ao (L.length + 3) cap) (L ++ [71, 71, 71]) W) (h2 : RdB v2 L W) :
    Calls Try.prog 32 #[.slice ao L.length cap, v2, .int .u8 71] W fun e w' => e = .returned (.bool true) ∧ Fr (fun _ => False) W w' := by
  have CS := Lib.hid (fun Z (f : Fr (fun _ => False) W Z) => same_bytes (.slice ao L.length cap) v2 L hL Z (by have := (h1.fr0 f).take L.length (by simp); rw [List.take_left] at this; exact this) (h2.fr0 f))
  obtain ⟨M, hM⟩ : ∃ M, M = L.length := ⟨_, rfl⟩
  obtain ⟨ao1, cap1, e1, hc1, r1⟩ := h1
  injection e1 with q1 q2 q3
  subst q1 q3
  obtain ⟨ao2, cap2, rfl, hc2, r2⟩ := h2
  have HM := Lib.hid hM
  have R1 := Lib.hid (r1.resolve_left (by simp))
  rw [← hM] at hc2 hL hcap CS ⊢
  clear hM r1 r2 hc1 q2
  have hcI : (M : Int) + 3 ≤ (cap : Int) := by omega
  have hcJ : decide ((cap : Int) < (M : Int) + 3) = false := decide_eq_false (by omega)
  go_enter Try.func32, Try.ntmps32
  go_wp2_with fail
  refine (CS.out _ (Fr.refl _ _)).mono ?_
  rintro e w1 ⟨rfl, f1⟩
  have F1 := Lib.hid f1
  clear f1
  go_wp2_with fail
  go_loopw [8] (fun i wr => ∃ p : Nat, i = .int .i64 (p : Int) ∧ M ≤ p ∧ p ≤ M + 3 ∧ wr = w1) (fun i _ => ((M : Int) + 3 - intOf i).toNat)
  case atStart => exact ⟨M, rfl, by omega, by omega, rfl⟩
  case round =>
    obtain ⟨p, rfl, hp0, hp1, rfl⟩ := hrel
    by_cases hp : p = M + 3
    · subst hp
      have hb : decide ((M : Int) + 3 < (M : Int) + 3) = false := decide_eq_false (by omega)
      go_wp2_with fail
      go_ret
      exact ⟨rfl, F1.out⟩
    · obtain ⟨g1, o1, rfl, hg1, hcell1⟩ := R1.out
      have hget : (L ++ [71, 71, 71])[p]? = some 71 := by
        have h9 := HM.out
        rw [List.getElem?_append_right (by omega)]
        have : p - L.length = 0 ∨ p - L.length = 1 ∨ p - L.length = 2 := by omega
        rcases this with h | h | h <;> rw [h] <;> rfl
      have c1 := byte_cell ((F1.out.cell (a := ⟨g1, o1 + p, none⟩) hg1 (fun f => f)).trans (hcell1 p 71 hget))
      rw [show (((71 : UInt8).toNat : Nat) : Int) = 71 from rfl] at c1
      have hb : decide ((p : Int) < (M : Int) + 3) = true := decide_eq_true (by omega)
      have hpI : (p : Int) < (M : Int) + 3 := by omega
      have HPL := Lib.hid (show p < M + 3 by omega)
      clear hcell1 R1 hget hp
      go_wp2_with fail
      exact ⟨⟨p + 1, by simp, by omega, by have := HPL.out; omega, by trivial⟩, by simp only [intOf]; omega⟩
end Go.Proofs.Ytpfkijjpophobaa

namespace Go.Proofs.Ytpfkijjpophobaa
set_option linter.unusedVariables false
open Go.RowKit

set_option maxHeartbeats 8000000 in
set_option maxRecDepth 100000 in
theorem walk_PackTells (lv : Value) (T : List Pl.Tok) (bv : Value) (B : List UInt8) (w : World) (hT : RdT lv T w ∧ (∀ t ∈ T, t.ok) ∧ T.length ≤ maxLen) (hB : RdB bv B w ∧ B.length ≤ maxLen) :
    Calls Try.prog 11 #[lv, bv] w fun e w' => e = .returned (.bool true) ∧ Kept w w' := by
  obtain ⟨hT, hok, hTm⟩ := hT
  obtain ⟨hB, hBm⟩ := hB
  have KN := Lib.hid (known9 w)
  have HT := Lib.hid hT
  have HB := Lib.hid hB
  have HOK := Lib.hid hok
  obtain ⟨ao1, cap1, rfl, hc1, -⟩ := hT
  obtain ⟨ao2, cap2, rfl, hc2, -⟩ := hB
  obtain ⟨M, hM⟩ : ∃ M, M = T.length := ⟨_, rfl⟩
  obtain ⟨N, hN⟩ : ∃ N, N = B.length := ⟨_, rfl⟩
  have HM := Lib.hid hM
  have HN := Lib.hid hN
  rw [← hM] at hc1 ⊢
  rw [← hN] at hc2 ⊢
  clear hok hM hN hTm hBm
  by_cases h40 : 40 < M
  · have g1 : decide ((40 : Int) < (M : Int)) = true := decide_eq_true (by omega)
    clear h40
    go_enter Try.func11, Try.ntmps11
    go_wp2_with fail
    refine (KN.out).mono ?_
    rintro e w1 ⟨rfl, f1⟩
    have F1 := Lib.hid f1
    clear f1
    go_wp2_with fail
    go_ret
    exact ⟨rfl, Kept.of_fr F1.out⟩
  have g1 : decide ((40 : Int) < (M : Int)) = false := decide_eq_false (by omega)
  by_cases h500 : 800 < N
  · have g2 : decide ((800 : Int) < (N : Int)) = true := decide_eq_true (by omega)
    clear h40 h500
    go_enter Try.func11, Try.ntmps11
    go_wp2_with fail
    refine (KN.out).mono ?_
    rintro e w1 ⟨rfl, f1⟩
    have F1 := Lib.hid f1
    clear f1
    go_wp2_with fail
    go_ret
    exact ⟨rfl, Kept.of_fr F1.out⟩
  have g2 : decide ((800 : Int) < (N : Int)) = false := decide_eq_false (by omega)
  have H40 := Lib.hid (show T.length ≤ 40 by have := HM.out; omega)
  have H500 := Lib.hid (show B.length ≤ 800 by have := HN.out; omega)
  have hM8 : (M : Int) ≤ 40 := by omega
  have CP := Lib.hid (fun Z (hz : Fr (fun _ => False) w Z) => put_all (.slice ao1 M cap1) T (by have := H40.out; omega) HOK.out Z (by have := HT.out.fr0 hz; rw [← HM.out] at this; exact this))
  have CR := Lib.hid (fun (hs : ∀ t ∈ T, t.s.length < 4611686018427387904) Z (hz : Fr (fun _ => False) w Z) => rput_all (.slice ao1 M cap1) T (by have := H40.out; omega) hs Z (by have := HT.out.fr0 hz; rw [← HM.out] at this; exact this))
  clear h40 h500
  obtain ⟨R, hR⟩ : ∃ R, R = Pl.putAll T := ⟨_, rfl⟩
  rw [← hR] at CP CR
  clear hR
  obtain ⟨X, e0⟩ := R
  have ge0 : (e0 != e0) = false := by simp
  go_enter Try.func11, Try.ntmps11
  go_wp2_with fail
  refine (KN.out).mono ?_
  rintro e w1 ⟨rfl, f1⟩
  have F1 := Lib.hid f1
  clear f1 KN
  go_wp2_with fail
  go_loopw [5] (fun i wr => ∃ k : Nat, i = .int .i64 (k : Int) ∧ k ≤ M ∧ Hid (∀ t ∈ T.take k, t.s.length ≤ 5000) ∧ Hid (Fr (fun _ => False) w wr)) (fun i _ => ((M : Int) - intOf i).toNat)
  case atStart => exact ⟨0, rfl, by omega, Lib.hid (fun t ht => by simp at ht), F1⟩
  case round =>
    obtain ⟨k, rfl, hk, HS, HF⟩ := hrel
    by_cases hkM : k = M
    rotate_left
    · have hkI : (k : Int) < (M : Int) := by omega
      have HKM := Lib.hid (show k < M by omega)
      obtain ⟨t, ht⟩ : ∃ q, T[k]? = some q := ⟨_, List.getElem?_eq_getElem (by have := HM.out; omega)⟩
      obtain ⟨ga, oa, ca, hva, hga, a0, a1, a2, a3⟩ := (HT.out.fr0 HF.out).at k _ ht
      injection hva with q1 q2 q3
      subst q1
      clear q2 q3 a0 a1 a3
      have HTK := Lib.hid ht
      have hsz : (Pl.tx t.s).size = t.s.length := Pl.tx_size _
      obtain ⟨S, hS⟩ : ∃ S, S = Pl.tx t.s := ⟨_, rfl⟩
      rw [← hS] at a2 hsz
      obtain ⟨z, hz⟩ : ∃ z : Int, z = (S.size : Int) := ⟨_, rfl⟩
      have HZ : Hid (z = (t.s.length : Int)) := Lib.hid (by omega)
      have hzz : (S.size : Int) = z := hz.symm
      clear hkM hk hS ht hsz hz
      by_cases hgt : 5000 < z
      · go_wp2_with fail
        go_ret
        exact ⟨rfl, Kept.of_fr HF.out⟩
      · go_wp2_with fail
        refine ⟨⟨k + 1, by simp, by have := HKM.out; omega, Lib.hid (fun u hu => ?_), HF⟩, by simp [intOf]; omega⟩
        rw [List.take_add_one, HTK.out] at hu
        rcases List.mem_append.1 hu with h | h
        · exact HS.out u h
        · simp at h
          subst h
          have := HZ.out
          omega
    · subst hkM
      have CR2 := Lib.hid (CR.out (fun t ht => by
        have := HS.out t (by rw [HM.out, List.take_length]; exact ht)
        omega))
      have hb : ((k : Int) < (k : Int)) = False := by simp
      clear HS CR hk
      have CP1 := Lib.hid (CP.out wr HF.out)
      go_wp2_with fail
      refine (CP1.out).mono ?_
      rintro e w2 ⟨vx, rfl, ox, f2⟩
      have F2 := Lib.hid (HF.out.trans f2)
      have OX := Lib.hid ox.rd
      have CR3 := Lib.hid (CR2.out w2 F2.out)
      clear f2 ox
      go_wp2_with fail
      refine (CR3.out).mono ?_
      rintro e w3 ⟨vy, rfl, oy, f3⟩
      have F3 := Lib.hid (F2.out.trans f3)
      have CB := Lib.hid (bytes_any vx vy X X w3 (OX.out.fr0 f3) oy.rd)
      rw [decide_eq_true rfl] at CB
      clear f3 oy
      go_wp2_with fail
      refine (CB.out).mono ?_
      rintro e w5 ⟨rfl, rfl⟩
      clear CB CR3 CP1 CR2 CP OX F2
      have HAQ := Lib.hid (ownB_const w3 Pl.hd (by decide) (.slice (some ⟨w3.heap.size, 0, none⟩) 4 4) rfl w.heap.size F3.out.2.2.1)
      rw [show (Pl.hd.map Pl.u8).toArray = #[.int .u8 244, .int .u8 84, .int .u8 80, .int .u8 1] from rfl, show Pl.hd.length = 4 from rfl] at HAQ
      have kc : (convert 30 30 (.slice (some ⟨w3.heap.size, 0, none⟩) 4 4)).run Try.prog (w3.alloc (.cells #[.int .u8 244, .int .u8 84, .int .u8 80, .int .u8 1] 5)) = .ok (.slice (some ⟨w3.heap.size, 0, none⟩) 4 4) (w3.alloc (.cells #[.int .u8 244, .int .u8 84, .int .u8 80, .int .u8 1] 5 (4, 4 + 1))) :=
        Lib.run_convert_bytes_const (P := Try.prog) w3 30 5 #[.int .u8 244, .int .u8 84, .int .u8 80, .int .u8 1] 4 4 Try.underlying30 Try.underlying5
      have FA := Lib.hid (F3.out.trans (Fr.alloc (fun _ => False) w3 (.cells #[.int .u8 244, .int .u8 84, .int .u8 80, .int .u8 1] 5 (4, 4 + 1))))
      have HBQ : Hid (RdB (.slice ao2 N cap2) B _) := Lib.hid (by have := HB.out.fr0 FA.out; rw [← HN.out] at this; exact this)
      go_wp2_with (at_builtin; refine wpList_appB _ w.heap.size (.slice (some ⟨w3.heap.size, 0, none⟩) 4 4) Pl.hd HAQ.out (.slice ao2 N cap2) B 30 (.inl rfl) (src_slice HBQ.out) (by have := H500.out; show 4 + _ ≤ _; omega) FA.out.2.2.1 (hgd := rfl) (.tmp 63) (.tmp 64) rfl (by simp [Act.eval]) (by simp [Act.eval]) ?_)
      intro vc wc oc gc hgc
      have OC : Hid (RdB vc (Pl.hd ++ B) wc) := Lib.hid (by exact oc.rd)
      have FC := Lib.hid (FA.out.trans' (Fr.grown (fun k => (Value.slice (some ⟨w3.heap.size, 0, none⟩) 4 4).ownBlock = some k) gc (fun k hk => hk)) (fun k hk => .inr (HAQ.out.from k hk).1))
      have BC : Hid (RdB (.slice ao2 N cap2) B wc) := Lib.hid (by have := HB.out.fr0 FC.out; rw [← HN.out] at this; exact this)
      obtain ⟨ac, cc, hvc, _⟩ := OC.out
      obtain ⟨Nn, hNn⟩ : ∃ Nn, Nn = (Pl.hd ++ B).length := ⟨_, rfl⟩
      rw [← hNn] at hvc
      subst hvc
      clear oc gc hgc HAQ HBQ FA kc F3 hNn
      go_wp2_with fail
      go_loopw [67] (fun s wr => ∃ j : Nat, s = .int .i64 (j : Int) ∧ j ≤ 2 ∧ Hid (Fr (fun _ => False) wc wr)) (fun s _ => (2 - intOf s).toNat)
      case atStart => exact ⟨0, rfl, by omega, Lib.hid (Fr.refl _ _)⟩
      case round =>
        obtain ⟨j, rfl, hj, HF2⟩ := hrel
        by_cases hj2 : j = 2
        · subst hj2
          go_wp2_with fail
          go_ret
          exact ⟨rfl, Kept.of_fr (FC.out.trans HF2.out)⟩
        obtain ⟨cv, L, hix, RL, HL⟩ : ∃ cv L, (∀ W, (Instr.index 50 (.agg #[.slice ao2 N cap2, .slice ac Nn cc]) (.int .i64 (j : Int))).run Try.prog W = .ok cv W) ∧ Hid (RdB cv L wr) ∧ Hid (L.length < 1000000) := by
          rcases (show j = 0 ∨ j = 1 by omega) with rfl | rfl
          · exact ⟨.slice ao2 N cap2, B, fun W => rfl, Lib.hid (BC.out.fr0 HF2.out), Lib.hid (by have := H500.out; omega)⟩
          · exact ⟨.slice ac Nn cc, _, fun W => rfl, Lib.hid (OC.out.fr0 HF2.out), Lib.hid (by rw [List.length_append]; have := H500.out; show 4 + _ < _; omega)⟩
        have hjI : (j : Int) < 2 := by omega
        have HJ := Lib.hid (show j < 2 by omega)
        obtain ⟨K, hK⟩ : ∃ K, K = Pl.takeAll L := ⟨_, rfl⟩
        obtain ⟨m, hm⟩ : ∃ m, m = Pl.isHd L := ⟨_, rfl⟩
        have HK := Lib.hid hK
        have Hm := Lib.hid hm
        have n1 : (K.2.1 != K.2.1) = false := by simp
        have n2 : (K.2.2 != K.2.2) = false := by simp
        have n3 : (m != m) = false := by simp
        have HLEN := Lib.hid (show K.1.length ≤ 100000 by rw [hK]; have := Pl.takeAll_len L; omega)
        have CO := Lib.hid (own_bytes cv L HL.out wr RL.out)
        clear hK hm hj hj2
        go_wp2_with fail
        refine (CO.out).mono ?_
        rintro e w6 ⟨g, rfl, o6, f6⟩
        have O6 := Lib.hid o6.rd
        have R6 := Lib.hid (RL.out.fr0 f6)
        have F6 := Lib.hid (HF2.out.trans f6)
        have I6 : Hid (RdB (.slice (some ⟨g, 0, none⟩) L.length (L.length + 3)) L w6) := Lib.hid (by have := o6.rd.take L.length (by simp); rw [List.take_left] at this; exact this)
        have CT := Lib.hid (take_all _ L HL.out w6 I6.out)
        rw [← HK.out] at CT
        clear o6 f6 CO
        go_wp2_with fail
        refine (CT.out).mono ?_
        rintro e w7 ⟨mv, rfl, r7, f7⟩
        have R7 := Lib.hid r7
        have C7 := Lib.hid (R6.out.fr0 f7)
        have F7 := Lib.hid f7
        have CT2 := Lib.hid (rtake_all cv L HL.out w7 C7.out)
        rw [← HK.out] at CT2
        clear r7 f7 CT
        go_wp2_with fail
        refine (CT2.out).mono ?_
        rintro e w8 ⟨nv, rfl, r8, f8⟩
        have F8 := Lib.hid (F7.out.trans f8)
        have CK := Lib.hid (tokens_any mv nv K.1 K.1 true rfl HLEN.out (fun j t u h1 h2 => by
          rw [h1] at h2
          injection h2 with h2
          subst h2
          exact ⟨rfl, rfl, rfl, fun _ => rfl⟩) w8 ((own_rdT R7.out).fr0 f8) (own_rdT r8))
        clear r8 f8 CT2
        go_wp2_with fail
        refine (CK.out).mono ?_
        rintro e w9 ⟨rfl, f9⟩
        have F9 := Lib.hid (F8.out.trans f9)
        have CI := Lib.hid (is_any _ L HL.out w9 (I6.out.fr0 F9.out))
        rw [← Hm.out] at CI
        clear f9 CK
        go_wp2_with fail
        refine (CI.out).mono ?_
        rintro e w10 ⟨rfl, f10⟩
        have F10 := Lib.hid (F9.out.trans f10)
        have CI2 := Lib.hid (ris_any cv L HL.out w10 (R6.out.fr0 F10.out))
        rw [← Hm.out] at CI2
        clear f10 CI
        go_wp2_with fail
        refine (CI2.out).mono ?_
        rintro e w11 ⟨rfl, f11⟩
        have F11 := Lib.hid (F10.out.trans f11)
        have CKP := Lib.hid (kept_bytes (some ⟨g, 0, none⟩) (L.length + 3) cv L HL.out (Nat.le_refl _) w11 (O6.out.fr0 F11.out) (R6.out.fr0 F11.out))
        clear f11 CI2
        go_wp2_with fail
        refine (CKP.out).mono ?_
        rintro e w12 ⟨rfl, f12⟩
        have F12 := Lib.hid (F6.out.trans (F11.out.trans f12))
        clear f12 CKP
        go_wp2_with fail
        exact ⟨⟨j + 1, by simp, by have := HJ.out; omega, F12⟩, by simp only [intOf]; omega⟩
end Go.Proofs.Ytpfkijjpophobaa
