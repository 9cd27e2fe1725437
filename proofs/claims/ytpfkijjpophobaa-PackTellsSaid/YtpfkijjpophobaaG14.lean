/- tympanhelp.Tokens, tympanhelp.Bytes: the walks. -/
import Derived.Test.YtpfkijjpophobaaG13
namespace Go.Proofs.Ytpfkijjpophobaa
set_option linter.unusedVariables false
open Go.RowKit

theorem bytes_any (v1 v2 : Value) (L1 L2 : List UInt8) (W : World) (h1 : RdB v1 L1 W) (h2 : RdB v2 L2 W) :
    Calls Try.prog 27 #[v1, v2] W fun e w' => e = .returned (.bool (decide (L1 = L2))) ∧ W = w' := by
  have k1 := conv30 h1
  have k2 := conv30 h2
  obtain ⟨S1, hS1⟩ : ∃ S1, S1 = Pl.tx L1 := ⟨_, rfl⟩
  obtain ⟨S2, hS2⟩ : ∃ S2, S2 = Pl.tx L2 := ⟨_, rfl⟩
  rw [← hS1] at k1
  rw [← hS2] at k2
  have HS := Lib.hid (And.intro hS1 hS2)
  clear hS1 hS2 h1 h2
  go_enter Try.func27, Try.ntmps27
  go_wp2_with fail
  go_ret
  refine ⟨ret_bool ?_, rfl⟩
  rw [HS.out.1, HS.out.2, Pl.tx_toList, Pl.tx_toList]
  by_cases q : L1 = L2
  · rw [decide_eq_true q]; exact beq_iff_eq.2 q
  · rw [decide_eq_false q]; exact beq_eq_false_iff_ne.2 q
set_option maxHeartbeats 4000000 in
set_option maxRecDepth 100000 in
theorem tokens_any (v1 v2 : Value) (T1 T2 : List Pl.Tok) (b : Bool) (hl : T1.length = T2.length) (hlen : T1.length ≤ 100000)
    (hk : ∀ (j : Nat) (t u : Pl.Tok), T1[j]? = some t → T2[j]? = some u → t.k = u.k ∧ t.n = u.n ∧ t.s = u.s ∧ (b = true → t.a = u.a))
    (W : World) (h1 : RdT v1 T1 W) (h2 : RdT v2 T2 W) :
    Calls Try.prog 25 #[v1, v2, .bool b] W fun e w' => e = .returned (.bool true) ∧ Fr (fun _ => False) W w' := by
  obtain ⟨M, hM⟩ : ∃ M, M = T1.length := ⟨_, rfl⟩
  obtain ⟨ao1, cap1, hv1, -⟩ := id h1
  obtain ⟨ao2, cap2, hv2, -⟩ := id h2
  rw [← hl] at hv2
  rw [← hM] at hv1 hv2
  subst hv1
  subst hv2
  have H1 := Lib.hid h1
  have H2 := Lib.hid h2
  have HM := Lib.hid hM
  have HL := Lib.hid hl
  have HK := Lib.hid hk
  rw [← hM] at hlen
  clear h1 h2 hM hl hk
  go_enter Try.func25, Try.ntmps25
  go_wp2_with fail
  go_loopw [7] (fun i wr => ∃ k : Nat, i = .int .i64 (k : Int) ∧ k ≤ M ∧ Hid (Fr (fun _ => False) W wr)) (fun i _ => ((M : Int) - intOf i).toNat)
  case atStart => exact ⟨0, rfl, by omega, Lib.hid (Fr.refl _ W)⟩
  case round =>
    obtain ⟨k, rfl, hk, HF⟩ := hrel
    by_cases hkM : k = M
    · have hb : ((k : Int) < (M : Int)) = False := by simp; omega
      go_wp2_with fail
      go_ret
      exact ⟨rfl, HF.out⟩
    · have hkI : (k : Int) < (M : Int) := by omega
      obtain ⟨t, ht⟩ : ∃ q, T1[k]? = some q := ⟨_, List.getElem?_eq_getElem (by have := HM.out; omega)⟩
      obtain ⟨u, hu⟩ : ∃ q, T2[k]? = some q := ⟨_, List.getElem?_eq_getElem (by have := HM.out; have := HL.out; omega)⟩
      obtain ⟨ga, oa, ca, hva, hga, a0, a1, a2, a3⟩ := (H1.out.fr0 HF.out).at k _ ht
      obtain ⟨gb, ob, cb, hvb, hgb, b0, b1, b2, b3⟩ := (H2.out.fr0 HF.out).at k _ hu
      obtain ⟨e0, e1, e2, e3⟩ := HK.out k t u ht hu
      rw [← e0] at b0
      rw [← e1] at b1
      rw [← e2] at b2
      injection hva with q1 q2 q3
      injection hvb with q4 q5 q6
      subst q1
      subst q4
      clear q2 q3 q5 q6 ht hu e0 e1 e2
      generalize Pl.tx t.s = S at a2 b2
      generalize t.k = tk at a0 b0
      generalize t.n = tn at a1 b1
      generalize t.a = ta at a3 e3
      generalize u.a = ua at b3 e3
      rcases b with _ | _
      · clear e3
        go_wp2_with fail
        go_quiet (fail)
        go_wp2_with fail
        exact ⟨⟨k + 1, by simp, by omega, Lib.hid HF.out.drew⟩, by simp [intOf]; omega⟩
      · obtain rfl := e3 rfl
        clear e3
        go_wp2_with fail
        go_quiet (fail)
        go_wp2_with fail
        exact ⟨⟨k + 1, by simp, by omega, Lib.hid HF.out.drew⟩, by simp [intOf]; omega⟩
end Go.Proofs.Ytpfkijjpophobaa
