/- pack.Put: the walk. -/
import Derived.Test.YtpfkijjpophobaaG10
import Derived.Deep.RegionHeldLaw
namespace Go.Proofs.Ytpfkijjpophobaa
set_option linter.unusedVariables false
open Go.RowKit

def PutOut (R : List UInt8 × Int) (W : World) : Ending → World → Prop := fun e w' =>
  ∃ v, e = .returned (.tuple #[v, .int .i64 R.2]) ∧ OwnB W.heap.size v R.1 w' ∧ Fr (fun _ => False) W w'
set_option maxHeartbeats 4000000 in
set_option maxRecDepth 100000 in
theorem put_all (v : Value) (T : List Pl.Tok) (hT : T.length ≤ 4000) (hok : ∀ t ∈ T, t.ok) (W : World) (hv : RdT v T W) :
    Calls Try.prog 23 #[v] W (PutOut (Pl.putAll T) W) := by
  have CH := Lib.hid (fun Z => head_any Z)
  have CM : Hid (∀ t, t ∈ T → ∀ Z, Calls Try.prog 51 #[.agg #[.int .i64 t.k, .int .i64 t.n, .string (Pl.tx t.s), .int .i64 t.a]] Z fun e w' => e = .returned (.bool t.may) ∧ Fr (fun _ => False) Z w') :=
    Lib.hid (fun t ht Z => tmay_any t.k t.n t.s t.a (hok t ht).1 (hok t ht).2.1 (by rw [Pl.tx_size]; exact (hok t ht).2.2) Z)
  obtain ⟨R, hR⟩ : ∃ R, R = Pl.putAll T := ⟨_, rfl⟩
  rw [← hR]
  have HV := Lib.hid hv
  obtain ⟨ao, cap, rfl, hcap, hrd⟩ := hv
  obtain ⟨M, hM⟩ : ∃ M, M = T.length := ⟨_, rfl⟩
  have HM := Lib.hid hM
  have HR := Lib.hid hR
  rw [← hM] at hcap hT ⊢
  clear hrd hM hR hok
  have NIL : ∀ (y : Int) (Z : World), R = ([], y) → Fr (fun _ => False) W Z → PutOut R W (.returned (.tuple #[.slice none 0 0, .int .i64 y])) Z := fun y Z h1 h2 => by
    rw [h1]
    exact ⟨_, rfl, .inl ⟨rfl, rfl⟩, h2⟩
  have NILH := Lib.hid NIL
  have h4M : decide ((4000 : Int) < (M : Int)) = false := decide_eq_false (by omega)
  have hM8 : (M : Int) < 9223372036854775807 := by omega
  clear NIL hT
  go_enter Try.func23, Try.ntmps23
  go_wp2_with fail
  go_loopw [10] (fun s10 wr => ∃ (i : Nat), s10 = .int .i64 (i : Int) ∧ i ≤ M ∧ Hid ((T.take i).all Pl.Tok.may = true) ∧ Hid (Fr (fun _ => False) W wr)) (fun s10 _ => (M - intOf s10).toNat)
  case atStart => exact ⟨0, rfl, by omega, Lib.hid (by simp), Lib.hid (Fr.refl _ _)⟩
  case round =>
    obtain ⟨i, rfl, hi, HA, HF⟩ := hrel
    by_cases hiM : i = M
    · replace hiM := hiM.symm
      subst hiM
      have HALL : Hid (T.all Pl.Tok.may = true) := Lib.hid (by have := HA.out; rw [HM.out, List.take_length] at this; exact this)
      have HR0 : Hid (R = if 20000 < (Pl.enc T).length then (([] : List UInt8), (5 : Int)) else (Pl.enc T, 0)) := Lib.hid (by rw [HR.out]; unfold Pl.putAll; rw [if_neg (by rw [HALL.out]; decide)])
      clear HR CM
      go_wp2_with fail
      refine (CH.out _).mono ?_
      rintro e w1 ⟨v1, rfl, o1, f1⟩
      have O1 := Lib.hid o1
      have F1 := Lib.hid (HF.out.trans f1)
      have B1 : Hid (W.heap.size ≤ wr.heap.size) := Lib.hid HF.out.2.2.1
      clear o1 f1 CH
      go_wp2_with fail
      go_loopw [2, 24] (fun s2 s24 wr => ∃ (i : Nat) (bv : Value), bv = s2 ∧ s24 = .int .i64 (i : Int) ∧ i ≤ M ∧ Hid (OwnB W.heap.size bv (Pl.enc (T.take i)) wr) ∧ Hid ((Pl.enc (T.take i)).length ≤ 20000) ∧ Hid (Fr (fun _ => False) W wr)) (fun _ s24 _ => (M - intOf s24).toNat)
      case atStart => exact ⟨0, _, rfl, rfl, by omega, Lib.hid (by exact O1.out.weaken B1.out), Lib.hid (by show (Pl.enc []).length ≤ 20000; decide), F1⟩
      case round =>
        clear HF B1 F1 O1 HA
        obtain ⟨i, s0, rfl, rfl, hi, HO, HL, HF⟩ := hrel
        by_cases hiM : i = M
        · replace hiM := hiM.symm
          subst hiM
          have e1 : T.take M = T := by rw [HM.out, List.take_length]
          have HRR : Hid (R = (Pl.enc T, 0)) := Lib.hid (by
            rw [HR0.out, if_neg]
            have := HL.out
            rw [e1] at this
            omega)
          have OO : Hid (OwnB W.heap.size s0 (Pl.enc T) wr) := Lib.hid (by have := HO.out; rw [e1] at this; exact this)
          clear e1 HO
          go_wp2_with fail
          go_ret2
          rw [HRR.out]
          exact ⟨_, rfl, OO.out, HF.out⟩
        have hiI : (i : Int) < (M : Int) := by omega
        have HIM := Lib.hid (show i < M by omega)
        have hlt : i < T.length := by have := HM.out; omega
        obtain ⟨g, o, cap2, hvv, hg, c0, c1, c2, c3⟩ := (HV.out.fr0 HF.out).at i T[i] (List.getElem?_eq_getElem hlt)
        have hmay := List.all_eq_true.1 HALL.out T[i] (List.getElem_mem hlt)
        have HTI := Lib.hid (List.getElem?_eq_getElem hlt)
        obtain ⟨t, ht⟩ : ∃ t, t = T[i] := ⟨_, rfl⟩
        rw [← ht] at c0 c1 c2 c3 hmay HTI
        rw [← HM.out] at hvv
        injection hvv with q1 q2 q3
        subst q1 q3
        clear q2
        obtain ⟨b0, b1, b2, b3, b4, b5, b6⟩ := Pl.may_bd t hmay
        have hw8 : t.k % 256 = t.k := by omega
        obtain ⟨β, hβ⟩ : ∃ β, β = UInt8.ofNat t.k.toNat := ⟨_, rfl⟩
        have HBT := Lib.hid hβ
        have hkn : ((t.k.toNat : Nat) : Int) = t.k := by omega
        obtain ⟨A, hA⟩ : ∃ A : Obj, A = .cells #[.int .i64 t.k, .int .i64 t.n, .string (Pl.tx t.s), .int .i64 t.a] 48 := ⟨_, rfl⟩
        have HB := Lib.hid (one_row (wr.alloc A) β t.k (by rw [hβ, Pl.u8_of t.k.toNat (by omega), hkn]))
        have HAO := Lib.hid (HO.out.fr ((Fr.alloc (fun _ => False) wr A).trans (Fr.alloc (fun _ => False) (wr.alloc A) (.cells #[.int .u8 t.k] 5))) (fun _ _ f => f))
        have HBS : Hid (W.heap.size ≤ ((wr.alloc A).alloc (.cells #[.int .u8 t.k] 5)).heap.size) := Lib.hid (by have := HF.out.2.2.1; simp; omega)
        rw [show (wr.alloc A).heap.size = wr.heap.size + 1 by simp] at HB
        have HLB : Hid ((Pl.enc (T.take i) ++ [β]).length ≤ 20001) := Lib.hid (by have := HL.out; rw [List.length_append, List.length_singleton]; omega)
        rw [hA] at HB HAO HBS
        have HBD := Lib.hid (And.intro b4 (And.intro b5 b6))
        clear hA hlt hmay ht hβ hkn hiM hi b4 b5 b6
        go_wp2_with (at_builtin; refine wpList_appB _ W.heap.size s0 (Pl.enc (T.take i)) HAO.out (.slice (some ⟨wr.heap.size + 1, 0, none⟩) 1 1) [β] 30 (.inl rfl) (src_slice HB.out) (by have := HL.out; simp; omega) HBS.out (hgd := rfl) (.tmp 28) (.tmp 32) rfl (by simp [Act.eval]) (by simp [Act.eval]) ?_)
        intro v1 w1 o1 g1 hg1
        have FG := Fr.grown (fun k => s0.ownBlock = some k) g1 (fun k hk => hk)
        have TB := Lib.hid (((TokB.new wr t.k t.n (Pl.tx t.s) t.a).fr (Fr.alloc (fun _ => False) _ (.cells #[.int .u8 t.k] 5)) (fun f => f)).fr FG (fun q => by have := (HO.out.from _ q).2; omega))
        have F1 := Lib.hid ((HF.out.trans ((Fr.alloc (fun _ => False) wr _).trans (Fr.alloc (fun _ => False) _ _))).trans' FG (fun k hk => .inr (HO.out.from k hk).1))
        obtain ⟨L1, hL1⟩ : ∃ L1, L1 = Pl.enc (T.take i) ++ [β] := ⟨_, rfl⟩
        rw [← hL1] at o1 HLB
        have HL1 := Lib.hid hL1
        have O1 := Lib.hid o1
        have HOW1 : Hid (∀ g, v1.ownBlock = some g → W.heap.size ≤ g) := Lib.hid (fun g h => (O1.out.from g h).1)
        have HOWP : Hid (∀ g, v1.ownBlock = some g → ¬ g = wr.heap.size) := Lib.hid (fun g h e => by
          rcases hg1 g h with q | q
          · have := (HO.out.from _ q).2; omega
          · have : wr.heap.size + 2 ≤ g := by simpa using q
            omega)
        obtain ⟨t0, t1, t2, t3, t4⟩ := TB.out
        clear FG o1 g1 hg1 t4 HB HAO HBS hL1
        have cs : ((t.k = 1 ∨ t.k = 2) ∧ 0 ≤ t.n) ∨ ((t.k = 1 ∨ t.k = 2) ∧ ¬ 0 ≤ t.n) ∨ (3 ≤ t.k ∧ t.k ≤ 6) ∨ 7 ≤ t.k := by omega
        rcases cs with ⟨hk, hn⟩ | ⟨hk, hn⟩ | hk | hk
        · have hfold : Pl.fold t.n = (2 * t.n).toNat := by unfold Pl.fold; rw [if_pos hn]
          have CN : Hid (∀ Z, Calls Try.prog 54 #[.slice none 0 0, .int .i64 (2 * t.n)] Z fun e w' => ∃ v, e = .returned v ∧ OwnB Z.heap.size v (Pl.num7 (Pl.fold t.n)) w' ∧ Fr (fun _ => False) Z w') := Lib.hid (fun Z => by
            have h := number_any (2 * t.n).toNat (by omega) Z
            rw [show (((2 * t.n).toNat : Nat) : Int) = (2 * t.n) by omega] at h
            rw [hfold]
            exact h)
          have HE : Hid (L1 ++ Pl.num7 (Pl.fold t.n) = Pl.enc (T.take (i + 1))) := Lib.hid (by
            rw [HL1.out, Pl.enc_take T i t HTI.out]
            unfold Pl.Tok.bytes
            rw [if_pos hk, ← HBT.out, List.append_assoc]
            rfl)
          have HLN : Hid ((Pl.num7 (Pl.fold t.n)).length ≤ 34359738368) := Lib.hid (by
            have h := Pl.num7_len (Pl.fold t.n)
            rw [hfold] at h
            rw [hfold]
            omega)
          have NBH := Lib.hid (fun Z => by have h := numbered_any t.k Z; rw [decide_eq_true hk] at h; exact h)
          have hnb : decide ((0 : Int) ≤ t.n) = true := decide_eq_true hn
          clear hk hfold
          go_wp2_with fail
          refine (NBH.out _).mono ?_
          rintro x w2 ⟨rfl, rfl⟩
          go_wp2_with fail
          refine (CN.out _).mono ?_
          rintro x w2 ⟨v2, rfl, o2, f2⟩
          have HA2 := Lib.hid (O1.out.fr f2 (fun _ _ f => f))
          have HB2 := Lib.hid o2.rd
          have F2 := Lib.hid (F1.out.trans f2)
          have HBS2 : Hid (W.heap.size ≤ w2.heap.size) := Lib.hid F2.out.2.2.1
          clear o2 f2
          go_wp2_with (at_builtin; refine wpList_appB _ W.heap.size v1 L1 HA2.out v2 (Pl.num7 (Pl.fold t.n)) 30 (.inl rfl) (src_slice HB2.out) (by have := HLN.out; have := HLB.out; omega) HBS2.out (hgd := rfl) (.tmp 43) (.tmp 47) rfl (by simp [Act.eval]) (by simp [Act.eval]) ?_)
          intro v3 w3 o3 g3 hg3
          have F3 := Lib.hid (F2.out.trans' (Fr.grown (fun k => v1.ownBlock = some k) g3 (fun k hk => hk)) (fun k hk => .inr (HOW1.out k hk)))
          clear g3 hg3
          obtain ⟨L9, h9⟩ : ∃ L9, L9 = (L1 ++ Pl.num7 (Pl.fold t.n)) := ⟨_, rfl⟩
          rw [← h9] at o3
          have H9 := Lib.hid h9
          have O9 := Lib.hid o3
          obtain ⟨ao9, cap9, e9, hc9, _⟩ := o3.rd
          subst e9
          obtain ⟨N9, hN9⟩ : ∃ N9, N9 = L9.length := ⟨_, rfl⟩
          have HN9 := Lib.hid hN9
          have F9 := Lib.hid F3.out
          have E9 : Hid (L9 = Pl.enc (T.take (i + 1))) := Lib.hid (by rw [H9.out]; exact HE.out)
          rw [← hN9] at hc9 ⊢
          clear o3 h9 hN9
          by_cases hbig : 20000 < N9
          · have hb9 : decide ((20000 : Int) < (N9 : Int)) = true := decide_eq_true (by omega)
            have HRR : Hid (R = ([], 5)) := Lib.hid (by
              rw [HR0.out, if_pos]
              have h1 := Pl.enc_mono T (i + 1)
              rw [← E9.out, ← HN9.out] at h1
              omega)
            clear hbig
            go_wp2_with fail
            go_ret2
            exact NILH.out _ _ HRR.out F9.out
          · have hb9 : decide ((20000 : Int) < (N9 : Int)) = false := decide_eq_false (by omega)
            have HB9 := Lib.hid (show L9.length ≤ 20000 by have := HN9.out; omega)
            clear hbig
            go_wp2_with fail
            refine ⟨⟨i + 1, _, rfl, by simp, by have := HIM.out; omega, Lib.hid ?_, Lib.hid ?_, F9⟩, by have := HIM.out; simp only [intOf]; omega⟩
            · rw [← E9.out, HN9.out]
              exact O9.out
            · rw [← E9.out]
              exact HB9.out
        · have hfold : Pl.fold t.n = (-2 * t.n - 1).toNat := by unfold Pl.fold; rw [if_neg (by omega)]
          have CN : Hid (∀ Z, Calls Try.prog 54 #[.slice none 0 0, .int .i64 (-2 * t.n - 1)] Z fun e w' => ∃ v, e = .returned v ∧ OwnB Z.heap.size v (Pl.num7 (Pl.fold t.n)) w' ∧ Fr (fun _ => False) Z w') := Lib.hid (fun Z => by
            have h := number_any (-2 * t.n - 1).toNat (by omega) Z
            rw [show (((-2 * t.n - 1).toNat : Nat) : Int) = (-2 * t.n - 1) by omega] at h
            rw [hfold]
            exact h)
          have HE : Hid (L1 ++ Pl.num7 (Pl.fold t.n) = Pl.enc (T.take (i + 1))) := Lib.hid (by
            rw [HL1.out, Pl.enc_take T i t HTI.out]
            unfold Pl.Tok.bytes
            rw [if_pos hk, ← HBT.out, List.append_assoc]
            rfl)
          have HLN : Hid ((Pl.num7 (Pl.fold t.n)).length ≤ 34359738368) := Lib.hid (by
            have h := Pl.num7_len (Pl.fold t.n)
            rw [hfold] at h
            rw [hfold]
            omega)
          have NBH := Lib.hid (fun Z => by have h := numbered_any t.k Z; rw [decide_eq_true hk] at h; exact h)
          have hnb : decide ((0 : Int) ≤ t.n) = false := decide_eq_false (by omega)
          clear hk hfold
          go_wp2_with fail
          refine (NBH.out _).mono ?_
          rintro x w2 ⟨rfl, rfl⟩
          go_wp2_with fail
          refine (NBH.out _).mono ?_
          rintro x w2 ⟨rfl, rfl⟩
          go_wp2_with fail
          refine (CN.out _).mono ?_
          rintro x w2 ⟨v2, rfl, o2, f2⟩
          have HA2 := Lib.hid (O1.out.fr f2 (fun _ _ f => f))
          have HB2 := Lib.hid o2.rd
          have F2 := Lib.hid (F1.out.trans f2)
          have HBS2 : Hid (W.heap.size ≤ w2.heap.size) := Lib.hid F2.out.2.2.1
          clear o2 f2
          go_wp2_with (at_builtin; refine wpList_appB _ W.heap.size v1 L1 HA2.out v2 (Pl.num7 (Pl.fold t.n)) 30 (.inl rfl) (src_slice HB2.out) (by have := HLN.out; have := HLB.out; omega) HBS2.out (hgd := rfl) (.tmp 53) (.tmp 58) rfl (by simp [Act.eval]) (by simp [Act.eval]) ?_)
          intro v3 w3 o3 g3 hg3
          have F3 := Lib.hid (F2.out.trans' (Fr.grown (fun k => v1.ownBlock = some k) g3 (fun k hk => hk)) (fun k hk => .inr (HOW1.out k hk)))
          clear g3 hg3
          obtain ⟨L9, h9⟩ : ∃ L9, L9 = (L1 ++ Pl.num7 (Pl.fold t.n)) := ⟨_, rfl⟩
          rw [← h9] at o3
          have H9 := Lib.hid h9
          have O9 := Lib.hid o3
          obtain ⟨ao9, cap9, e9, hc9, _⟩ := o3.rd
          subst e9
          obtain ⟨N9, hN9⟩ : ∃ N9, N9 = L9.length := ⟨_, rfl⟩
          have HN9 := Lib.hid hN9
          have F9 := Lib.hid F3.out
          have E9 : Hid (L9 = Pl.enc (T.take (i + 1))) := Lib.hid (by rw [H9.out]; exact HE.out)
          rw [← hN9] at hc9 ⊢
          clear o3 h9 hN9
          by_cases hbig : 20000 < N9
          · have hb9 : decide ((20000 : Int) < (N9 : Int)) = true := decide_eq_true (by omega)
            have HRR : Hid (R = ([], 5)) := Lib.hid (by
              rw [HR0.out, if_pos]
              have h1 := Pl.enc_mono T (i + 1)
              rw [← E9.out, ← HN9.out] at h1
              omega)
            clear hbig
            go_wp2_with fail
            go_ret2
            exact NILH.out _ _ HRR.out F9.out
          · have hb9 : decide ((20000 : Int) < (N9 : Int)) = false := decide_eq_false (by omega)
            have HB9 := Lib.hid (show L9.length ≤ 20000 by have := HN9.out; omega)
            clear hbig
            go_wp2_with fail
            refine ⟨⟨i + 1, _, rfl, by simp, by have := HIM.out; omega, Lib.hid ?_, Lib.hid ?_, F9⟩, by have := HIM.out; simp only [intOf]; omega⟩
            · rw [← E9.out, HN9.out]
              exact O9.out
            · rw [← E9.out]
              exact HB9.out
        · have b4 := HBD.out.1
          have hk1 : ¬ (t.k = 1 ∨ t.k = 2) := by omega
          obtain ⟨q, hq⟩ : ∃ q, q = t.s.length := ⟨_, rfl⟩
          have CN : Hid (∀ Z, Calls Try.prog 54 #[.slice none 0 0, .int .i64 ((Pl.tx t.s).size : Int)] Z fun e w' => ∃ v, e = .returned v ∧ OwnB Z.heap.size v (Pl.num7 t.s.length) w' ∧ Fr (fun _ => False) Z w') := Lib.hid (fun Z => by
            rw [Pl.tx_size]
            exact number_any t.s.length (by omega) Z)
          have HE : Hid (L1 ++ Pl.num7 t.s.length ++ t.s = Pl.enc (T.take (i + 1))) := Lib.hid (by
            rw [HL1.out, Pl.enc_take T i t HTI.out]
            unfold Pl.Tok.bytes
            rw [if_neg hk1, if_pos hk, ← HBT.out]
            simp only [List.append_assoc, List.cons_append, List.nil_append])
          have HLN : Hid ((Pl.num7 t.s.length).length + t.s.length ≤ 34359738368) := Lib.hid (by
            have h := Pl.num7_len t.s.length
            omega)
          have NBH := Lib.hid (fun Z => by have h := numbered_any t.k Z; rw [decide_eq_false hk1] at h; exact h)
          have LBH := Lib.hid (fun Z => by have h := lettered_any t.k Z; rw [decide_eq_true hk] at h; exact h)
          clear hk hk1 hq
          go_wp2_with fail
          refine (NBH.out _).mono ?_
          rintro x w2 ⟨rfl, rfl⟩
          go_wp2_with fail
          refine (NBH.out _).mono ?_
          rintro x w2 ⟨rfl, rfl⟩
          go_wp2_with fail
          refine (LBH.out _).mono ?_
          rintro x w2 ⟨rfl, rfl⟩
          go_wp2_with fail
          go_region_held_law (fun Z => Z.cell? ⟨wr.heap.size, 2, none⟩ = some (.string (Pl.tx t.s))) (first | assumption | simp [*]) (first
            | (go_at_call 54; refine (CN.out _).mono ?_; rintro x w2 ⟨v2, rfl, o2, f2⟩; have HA2 := Lib.hid (O1.out.fr ((Fr.refl (fun _ => False) w1).drew.trans f2) (fun _ _ f => f)); have HB2 := Lib.hid o2.rd; have F2 := Lib.hid (F1.out.trans ((Fr.refl (fun _ => False) w1).drew.trans f2)); have HBS2 : Hid (W.heap.size ≤ w2.heap.size) := Lib.hid F2.out.2.2.1; have T2 := Lib.hid (TB.out.fr ((Fr.refl (fun _ => False) w1).drew.trans f2) (fun f => f)); have s2 := T2.out.2.2.1; clear o2 f2)
            | (refine step_appB _ W.heap.size v1 L1 HA2.out v2 (Pl.num7 t.s.length) 30 (.inl rfl) (src_slice HB2.out) (by have := HLN.out; have := HLB.out; omega) HBS2.out rfl (.tmp 64) (.tmp 68) rfl (by simp [Act.eval]) (by simp [Act.eval]) ?_; intro v3 w3 o3 g3 hg3; have O3 := Lib.hid o3; have F23 := Fr.grown (fun k => v1.ownBlock = some k) g3 (fun k hk => hk); have F3 := Lib.hid (F2.out.trans' F23 (fun k hk => .inr (HOW1.out k hk))); have T3 := Lib.hid (T2.out.fr F23 (fun f => HOWP.out _ f rfl)); have s3 := T3.out.2.2.1; have HG3 := Lib.hid hg3; have HBS3 : Hid (W.heap.size ≤ w3.heap.size) := Lib.hid F3.out.2.2.1; clear o3 g3 hg3 F23)
            | (refine step_appB _ W.heap.size v3 (L1 ++ Pl.num7 t.s.length) O3.out (.string (Pl.tx t.s)) t.s 9 (.inr rfl) (src_string t.s _) (by have := HLN.out; have := HLB.out; rw [List.length_append]; omega) HBS3.out rfl (.tmp 69) (.tmp 71) rfl (by simp [Act.eval, Act.put]) (by simp [Act.eval, Act.put]) ?_; intro v4 w4 o4 g4 hg4; have F34 := Fr.grown (fun k => v3.ownBlock = some k) g4 (fun k hk => hk); have F4 := Lib.hid (F3.out.trans' F34 (fun k hk => .inr (O3.out.from k hk).1)); have T4 := Lib.hid (T3.out.fr F34 (fun f => (HG3.out _ f).elim (fun q => HOWP.out _ q rfl) (fun q => absurd (block_lt_of_cell T2.out.1) (by show ¬ wr.heap.size < w2.heap.size; omega)))); have s4 := T4.out.2.2.1; clear g4 hg4 F34))
          obtain ⟨L9, h9⟩ : ∃ L9, L9 = (L1 ++ Pl.num7 t.s.length ++ t.s) := ⟨_, rfl⟩
          rw [← h9] at o4
          have H9 := Lib.hid h9
          have O9 := Lib.hid o4
          obtain ⟨ao9, cap9, e9, hc9, _⟩ := o4.rd
          subst e9
          obtain ⟨N9, hN9⟩ : ∃ N9, N9 = L9.length := ⟨_, rfl⟩
          have HN9 := Lib.hid hN9
          have F9 := Lib.hid F4.out
          have E9 : Hid (L9 = Pl.enc (T.take (i + 1))) := Lib.hid (by rw [H9.out]; exact HE.out)
          rw [← hN9] at hc9 ⊢
          clear o4 h9 hN9
          by_cases hbig : 20000 < N9
          · have hb9 : decide ((20000 : Int) < (N9 : Int)) = true := decide_eq_true (by omega)
            have HRR : Hid (R = ([], 5)) := Lib.hid (by
              rw [HR0.out, if_pos]
              have h1 := Pl.enc_mono T (i + 1)
              rw [← E9.out, ← HN9.out] at h1
              omega)
            clear hbig
            go_wp2_with fail
            go_ret2
            exact NILH.out _ _ HRR.out F9.out
          · have hb9 : decide ((20000 : Int) < (N9 : Int)) = false := decide_eq_false (by omega)
            have HB9 := Lib.hid (show L9.length ≤ 20000 by have := HN9.out; omega)
            clear hbig
            go_wp2_with fail
            refine ⟨⟨i + 1, _, rfl, by simp, by have := HIM.out; omega, Lib.hid ?_, Lib.hid ?_, F9⟩, by have := HIM.out; simp only [intOf]; omega⟩
            · rw [← E9.out, HN9.out]
              exact O9.out
            · rw [← E9.out]
              exact HB9.out
        · have hk1 : ¬ (t.k = 1 ∨ t.k = 2) := by omega
          have hk2 : ¬ (3 ≤ t.k ∧ t.k ≤ 6) := by omega
          have HE : Hid (L1 = Pl.enc (T.take (i + 1))) := Lib.hid (by
            rw [HL1.out, Pl.enc_take T i t HTI.out]
            unfold Pl.Tok.bytes
            rw [if_neg hk1, if_neg hk2, ← HBT.out])
          have NBH := Lib.hid (fun Z => by have h := numbered_any t.k Z; rw [decide_eq_false hk1] at h; exact h)
          have LBH := Lib.hid (fun Z => by have h := lettered_any t.k Z; rw [decide_eq_false hk2] at h; exact h)
          have o3 := O1.out
          clear hk hk1 hk2
          go_wp2_with fail
          refine (NBH.out _).mono ?_
          rintro x w2 ⟨rfl, rfl⟩
          go_wp2_with fail
          refine (NBH.out _).mono ?_
          rintro x w2 ⟨rfl, rfl⟩
          go_wp2_with fail
          refine (LBH.out _).mono ?_
          rintro x w2 ⟨rfl, rfl⟩
          obtain ⟨L9, h9⟩ : ∃ L9, L9 = L1 := ⟨_, rfl⟩
          rw [← h9] at o3
          have H9 := Lib.hid h9
          have O9 := Lib.hid o3
          obtain ⟨ao9, cap9, e9, hc9, _⟩ := o3.rd
          subst e9
          obtain ⟨N9, hN9⟩ : ∃ N9, N9 = L9.length := ⟨_, rfl⟩
          have HN9 := Lib.hid hN9
          have F9 := Lib.hid F1.out
          have E9 : Hid (L9 = Pl.enc (T.take (i + 1))) := Lib.hid (by rw [H9.out]; exact HE.out)
          rw [← hN9] at hc9 ⊢
          clear o3 h9 hN9
          by_cases hbig : 20000 < N9
          · have hb9 : decide ((20000 : Int) < (N9 : Int)) = true := decide_eq_true (by omega)
            have HRR : Hid (R = ([], 5)) := Lib.hid (by
              rw [HR0.out, if_pos]
              have h1 := Pl.enc_mono T (i + 1)
              rw [← E9.out, ← HN9.out] at h1
              omega)
            clear hbig
            go_wp2_with fail
            go_ret2
            exact NILH.out _ _ HRR.out F9.out
          · have hb9 : decide ((20000 : Int) < (N9 : Int)) = false := decide_eq_false (by omega)
            have HB9 := Lib.hid (show L9.length ≤ 20000 by have := HN9.out; omega)
            clear hbig
            go_wp2_with fail
            refine ⟨⟨i + 1, _, rfl, by simp, by have := HIM.out; omega, Lib.hid ?_, Lib.hid ?_, F9⟩, by have := HIM.out; simp only [intOf]; omega⟩
            · rw [← E9.out, HN9.out]
              exact O9.out
            · rw [← E9.out]
              exact HB9.out
    · have hiI : (i : Int) < (M : Int) := by omega
      have HIM := Lib.hid (show i < M by omega)
      have hlt : i < T.length := by have := HM.out; omega
      obtain ⟨g, o, cap2, hvv, hg, c0, c1, c2, c3⟩ := (HV.out.fr0 HF.out).at i T[i] (List.getElem?_eq_getElem hlt)
      have CMi := CM.out T[i] (List.getElem_mem hlt)
      have HTI := Lib.hid (List.getElem?_eq_getElem hlt)
      have HTM := Lib.hid (List.getElem_mem hlt)
      obtain ⟨t, ht⟩ : ∃ t, t = T[i] := ⟨_, rfl⟩
      rw [← ht] at c0 c1 c2 c3 HTI CMi HTM
      rw [← HM.out] at hvv
      injection hvv with q1 q2 q3
      subst q1 q3
      clear q2
      obtain ⟨m, hm⟩ : ∃ m, m = t.may := ⟨_, rfl⟩
      rw [← hm] at CMi
      have HMM := Lib.hid hm
      have CMH := Lib.hid CMi
      clear hlt ht hiM hi CMi hm
      go_wp2_with fail
      refine (CMH.out _).mono ?_
      rintro x w2 ⟨rfl, f2⟩
      have F2 := Lib.hid (HF.out.trans ((Fr.alloc (fun _ => False) wr _).trans f2))
      clear f2
      rcases m with _ | _
      · have HRR : Hid (R = ([], 1)) := Lib.hid (by
          rw [HR.out]
          unfold Pl.putAll
          rw [if_pos]
          rw [Bool.eq_false_iff]
          intro h
          have := List.all_eq_true.1 h t HTM.out
          rw [← HMM.out] at this
          cases this)
        go_wp2_with fail
        go_ret2
        exact NILH.out _ _ HRR.out F2.out
      · go_wp2_with fail
        refine ⟨⟨i + 1, by simp, by have := HIM.out; omega, Lib.hid ?_, F2⟩, by have := HIM.out; simp only [intOf]; omega⟩
        rw [List.take_add_one, HTI.out, List.all_append, HA.out]
        simp [← HMM.out]
end Go.Proofs.Ytpfkijjpophobaa
