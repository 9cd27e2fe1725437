/- The reference's Take and Put: the walks. -/
import Derived.Test.YtpfkijjpophobaaU4
namespace Go.Proofs.Ytpfkijjpophobaa
set_option linter.unusedVariables false
open Go.RowKit

set_option maxHeartbeats 4000000 in
set_option maxRecDepth 100000 in
theorem rtake_all (v : Value) (L : List UInt8) (hL : L.length < 1000000) (W : World) (hv : RdB v L W) :
    Calls Try.prog 30 #[v] W (TakeOut (Pl.takeAll L) W) := by
  have CI := Lib.hid (ris_any v L hL W hv)
  have CW := Lib.hid (fun a ha Z (hz : Fr (fun _ => False) W Z) => one_any v L a ha hL Z (hv.fr0 hz))
  obtain ⟨R, hR⟩ : ∃ R, R = Pl.takeAll L := ⟨_, rfl⟩
  rw [← hR]
  obtain ⟨ao, cap, rfl, hcap, hrd⟩ := hv
  obtain ⟨M, hM⟩ : ∃ M, M = L.length := ⟨_, rfl⟩
  have HM := Lib.hid hM
  have HR := Lib.hid hR
  rw [← hM] at CI CW hcap hL ⊢
  have hL8 : (M : Int) < 9223372036854775808 := by omega
  clear hrd hM hR
  have NIL : ∀ (x y : Int) (Z : World), R = ([], x, y) → Fr (fun _ => False) W Z → TakeOut R W (.returned (.tuple #[.slice none 0 0, .int .i64 x, .int .i64 y])) Z := fun x y Z h1 h2 => by
    rw [h1]
    exact ⟨_, rfl, World.ownsRow_nil _ _ _ _, h2⟩
  have NILH := Lib.hid NIL
  clear NIL
  obtain ⟨b, hb⟩ : ∃ b, b = Pl.isHd L := ⟨_, rfl⟩
  rw [← hb] at CI
  have HB := Lib.hid hb
  clear hb
  rcases b with _ | _
  · have hR0 : R = ([], 0, 3) := by rw [HR.out]; unfold Pl.takeAll; rw [if_pos HB.out.symm]
    have HR0 := Lib.hid hR0
    clear hR0
    go_enter Try.func30, Try.ntmps30
    go_wp2_with fail
    refine (CI.out).mono ?_
    rintro e w1 ⟨rfl, f1⟩
    have F1 := Lib.hid f1
    clear f1
    go_wp2_with fail
    go_ret3
    exact NILH.out _ _ _ HR0.out F1.out
  · have HB2 : Hid (¬ Pl.isHd L = false) := Lib.hid (by rw [← HB.out]; decide)
    by_cases hM2 : 20000 < M
    · have hI : (20000 : Int) < (M : Int) := by omega
      have hR0 : R = ([], 0, 5) := by rw [HR.out]; unfold Pl.takeAll; rw [if_neg HB2.out, if_pos (by have := HM.out; omega)]
      have HR0 := Lib.hid hR0
      have hI2 : decide ((20000 : Int) < (M : Int)) = true := decide_eq_true hI
      clear hR0 hM2
      go_enter Try.func30, Try.ntmps30
      go_wp2_with fail
      refine (CI.out).mono ?_
      rintro e w1 ⟨rfl, f1⟩
      have F1 := Lib.hid f1
      clear f1
      go_wp2_with fail
      go_ret3
      exact NILH.out _ _ _ HR0.out F1.out
    · have hI : decide ((20000 : Int) < (M : Int)) = false := decide_eq_false (by omega)
      have h4M : 4 ≤ M := by
        have h1 := HB.out
        unfold Pl.isHd at h1
        have h2 := congrArg List.length (of_decide_eq_true h1.symm)
        rw [List.length_take, show Pl.hd.length = 4 from rfl] at h2
        have := HM.out
        omega
      have hR0 : R = if (Pl.toks L 4000 4).2.2 = 0 then ((Pl.toks L 4000 4).1, (0 : Int), (0 : Int)) else ([], (Pl.toks L 4000 4).2.1, (Pl.toks L 4000 4).2.2) := by rw [HR.out]; unfold Pl.takeAll; rw [if_neg HB2.out, if_neg (by have := HM.out; omega)]
      have HR0 := Lib.hid hR0
      clear hR0 HB2 HR HB hM2
      go_enter Try.func30, Try.ntmps30
      go_wp2_with fail
      refine (CI.out).mono ?_
      rintro e w1 ⟨rfl, f1⟩
      have F1 := Lib.hid f1
      clear f1
      go_wp2_with fail
      go_loopw [5, 6] (fun s2 s3 wr => ∃ (n a : Nat) (bv : Value) (ts : List Pl.Tok), bv = s2 ∧ s3 = .int .i64 (a : Int) ∧ n ≤ 4000 ∧ a ≤ M ∧ Hid (ts.length = n) ∧ Hid (wr.ownsRow W.heap.size 48 4 bv n (ts.flatMap Pl.Tok.cs)) ∧ Hid (Pl.toks L 4000 4 = (ts ++ (Pl.toks L (4000 - n) a).1, (Pl.toks L (4000 - n) a).2)) ∧ Hid (Fr (fun _ => False) W wr)) (fun _ s3 _ => (M - intOf s3).toNat)
      case atStart => exact ⟨0, 4, _, [], rfl, rfl, by omega, h4M, Lib.hid rfl, Lib.hid (World.ownsRow_nil _ _ _ _), Lib.hid (by simp), F1⟩
      case round =>
        obtain ⟨n, a, s2, ts, rfl, rfl, hn, ha, HT, HO, HQ, HF⟩ := hrel
        have hHO := HO.out
        obtain ⟨ao2, cap2, hs2⟩ := own_shape HO.out
        by_cases haM : a = M
        · subst haM
          subst hs2
          have HRR : Hid (R = (ts, 0, 0)) := Lib.hid (by
            rw [HR0.out, HQ.out, Pl.toks_end L _ a (by have := HM.out; omega)]
            simp)
          clear hHO HR0
          go_wp2_with fail
          go_ret3
          rw [HRR.out]
          exact ⟨_, rfl, by rw [HT.out]; exact HO.out, HF.out⟩
        have haI : (a : Int) < (M : Int) := by omega
        by_cases hn4 : n = 4000
        · subst hn4
          subst hs2
          have HRR : Hid (R = ([], (a : Int), 5)) := Lib.hid (by
            rw [HR0.out, HQ.out, Pl.toks_room L a (by have := HM.out; omega), if_neg (by show ¬ (5 : Int) = 0; omega)])
          clear hHO HR0 ha
          go_wp2_with fail
          go_ret3
          exact NILH.out _ _ _ HRR.out HF.out
        have hnb : ((n : Int) == 4000) = false := beq_eq_false_iff_ne.2 (by omega)
        have CWa := Lib.hid (CW.out a (by have := HM.out; omega) wr HF.out)
        obtain ⟨T, hT⟩ : ∃ T, T = Pl.word7 L a := ⟨_, rfl⟩
        rw [← hT] at CWa
        have HTT := Lib.hid hT
        have HW : Hid (W.heap.size ≤ wr.heap.size) := Lib.hid HF.out.2.2.1
        subst hs2
        have HAM := Lib.hid (show a < M by omega)
        have HNN := Lib.hid (show n < 4000 by omega)
        clear hT hHO hn4 haM ha hn
        obtain ⟨E, t, nxt⟩ := T
        by_cases hE : E = 0
        · subst hE
          go_wp2_with fail
          refine (CWa.out).mono ?_
          rintro e w5 ⟨k, m, S, a9, nx, rfl, hok, f5⟩
          obtain ⟨h1, h2⟩ := hok rfl
          unfold Pl.tokv at h1
          have h3 : k = t.1 ∧ m = t.2.1 ∧ Pl.tx S = Pl.tx t.2.2 ∧ a9 = (a : Int) := by simpa using h1
          obtain ⟨rfl, rfl, h3, rfl⟩ := h3
          obtain rfl := Pl.tx_inj h3
          change nx = (nxt : Int) at h2
          subst h2
          have hbd := Pl.word7_bd L a (by have := HM.out; have := HAM.out; omega) (by rw [← HTT.out])
          rw [← HTT.out, ← HM.out] at hbd
          change a < nxt ∧ nxt ≤ M at hbd
          have HBD := Lib.hid hbd
          have HST : Hid (Pl.toks L (4000 - n) a = (⟨t.1, t.2.1, t.2.2, a⟩ :: (Pl.toks L (4000 - (n + 1)) nxt).1, (Pl.toks L (4000 - (n + 1)) nxt).2)) := Lib.hid (by
            rw [show 4000 - n = (4000 - (n + 1)) + 1 by have := HNN.out; omega, Pl.toks_ok L _ a (by have := HM.out; have := HAM.out; omega) (by rw [← HTT.out]), ← HTT.out])
          obtain ⟨i0, hi, hz0, hz1, hz2⟩ := info_parts Try.tokInfo
          have HI := Lib.hid hi
          obtain ⟨A, hA⟩ : ∃ A : Obj, A = .cells #[.int .i64 t.1, .int .i64 t.2.1, .string (Pl.tx t.2.2), .int .i64 (a : Int)] 48 := ⟨_, rfl⟩
          have FZ0 := Lib.hid (f5.trans ((Fr.alloc _ w5 A).trans (Fr.alloc _ _ A)))
          have HAO := Lib.hid (own_fr HO.out FZ0.out (fun _ _ f => f))
          have HBS : Hid (W.heap.size ≤ ((w5.alloc A).alloc A).heap.size) := Lib.hid (Nat.le_trans HW.out FZ0.out.2.2.1)
          have HCC : Hid (∀ ad, some (⟨(w5.alloc A).heap.size, 0, none⟩ : Addr) = some ad → ∀ j u, (Pl.Tok.cs ⟨t.1, t.2.1, t.2.2, a⟩)[j]? = some u → ((w5.alloc A).alloc A).cell? (ad.add j) = some u) := Lib.hid (fun ad q j u hu => by
            injection q with q
            subst q
            rw [hA]
            exact alloc_cell _ _ _ j u hu)
          rw [hA] at HAO HBS HCC FZ0
          rw [show (w5.alloc (Obj.cells #[.int .i64 t.1, .int .i64 t.2.1, .string (Pl.tx t.2.2), .int .i64 (a : Int)] 48)).heap.size = w5.heap.size + 1 by simp] at HCC
          clear hA f5 hok h1 hbd hi HR0 h3
          unfold Pl.tokv
          go_wp2_with (at_builtin; refine wpList_append_all _ W.heap.size 37 48 i0 _ 4 40 Try.underlying37 HI.out hz0 hz1 hz2 rfl (by decide) (.slice ao2 n cap2) n (ts.flatMap Pl.Tok.cs) HAO.out (some ⟨w5.heap.size + 1, 0, none⟩) 1 1 (Pl.Tok.cs ⟨t.1, t.2.1, t.2.2, a⟩) (by intro q; cases q) rfl HCC.out (Pl.Tok.one _) (by have := HNN.out; unfold maxLen; omega) (by have := HNN.out; omega) HBS.out (hgd := rfl) (.tmp 35) (.tmp 37) rfl (by simp [Act.eval]) (by simp [Act.eval]) ?_)
          intro v' w' r2 g2 hg2
          go_wp2_with fail
          refine ⟨⟨n + 1, nxt, _, ts ++ [⟨t.1, t.2.1, t.2.2, a⟩], rfl, rfl, HNN.out, HBD.out.2, Lib.hid (by rw [List.length_append, HT.out]; rfl), Lib.hid ?_, Lib.hid ?_, Lib.hid ?_⟩, ?_⟩
          · rw [List.flatMap_append]
            have e : [(⟨t.1, t.2.1, t.2.2, a⟩ : Pl.Tok)].flatMap Pl.Tok.cs = Pl.Tok.cs ⟨t.1, t.2.1, t.2.2, a⟩ := by simp
            rw [e]
            exact r2
          · rw [HQ.out, HST.out, List.append_assoc]
            rfl
          · exact (HF.out.trans FZ0.out).trans' (Fr.grown (fun k => (Value.slice ao2 n cap2).ownBlock = some k) g2 (fun k hk => hk)) (fun k hk => .inr (own_base HO.out k hk))
          · have := HBD.out
            simp only [intOf]
            omega
        · have HRR : Hid (R = ([], (a : Int), E)) := Lib.hid (by
            rw [HR0.out, HQ.out, show 4000 - n = (4000 - n - 1) + 1 by have := HNN.out; omega, Pl.toks_bad L _ a (by have := HM.out; have := HAM.out; omega) (by rw [← HTT.out]; exact hE), ← HTT.out, if_neg hE])
          have hEb : (E != 0) = true := bne_iff_ne.2 hE
          clear hE HR0
          go_wp2_with fail
          refine (CWa.out).mono ?_
          rintro e w5 ⟨k, m, S, a9, nx, rfl, hok, f5⟩
          have FZ := Lib.hid ((HF.out.trans f5).trans (Fr.alloc _ w5 (.cells #[.int .i64 k, .int .i64 m, .string (Pl.tx S), .int .i64 a9] 48)))
          unfold Pl.tokv
          clear f5 hok
          go_wp2_with fail
          go_ret3
          exact NILH.out _ _ _ HRR.out FZ.out
end Go.Proofs.Ytpfkijjpophobaa
