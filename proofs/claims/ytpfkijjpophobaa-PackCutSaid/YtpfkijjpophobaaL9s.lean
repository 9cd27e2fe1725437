/- PackShort: the walk. -/
import Derived.Test.YtpfkijjpophobaaL9
namespace Go.Proofs.Ytpfkijjpophobaa
set_option linter.unusedVariables false
open Go.RowKit

theorem Pl.num7_last : ∀ (n : Nat), ∃ Q b, Pl.num7 n = Q ++ [b] ∧ (∀ c ∈ Q, 128 ≤ c.toNat) ∧ b.toNat < 128 := fun n => by
  induction n using Nat.strongRecOn with
  | _ n ih =>
    by_cases h : n < 128
    · exact ⟨[], UInt8.ofNat n, by rw [Pl.num7_lo n h]; rfl, fun c hc => by simp at hc, by rw [ofNat_toNat n (by omega)]; exact h⟩
    · obtain ⟨Q, b, e, hQ, hb⟩ := ih (n / 128) (by omega)
      refine ⟨UInt8.ofNat (n % 128 + 128) :: Q, b, by rw [Pl.num7_hi n h, e]; rfl, fun c hc => ?_, hb⟩
      rcases List.mem_cons.1 hc with rfl | hc
      · rw [ofNat_toNat _ (by omega)]; omega
      · exact hQ c hc
theorem Pl.num7_len5 : ∀ (k n : Nat), n < 128 ^ k → 0 < k → (Pl.num7 n).length ≤ k
  | 0, _, _, h => by omega
  | k + 1, n, hn, _ => by
    by_cases h : n < 128
    · rw [Pl.num7_lo n h]; simp
    · have hk : 0 < k := by
        rcases Nat.eq_zero_or_pos k with rfl | h
        · simp at hn; omega
        · exact h
      have := Pl.num7_len5 k (n / 128) (by rw [Nat.pow_succ] at hn; omega) hk
      rw [Pl.num7_hi n h, List.length_cons]
      omega
/-- the last byte of a row that is ours -/
theorem OwnB.last {base : Nat} {v : Value} {X : List UInt8} {b : UInt8} {W : World} (h : OwnB base v (X ++ [b]) W) : ∃ g cap, v = .slice (some ⟨g, 0, none⟩) (X.length + 1) cap ∧ base ≤ g ∧ g < W.heap.size ∧ X.length + 1 ≤ cap ∧
    W.cell? ⟨g, X.length, none⟩ = some (.int .u8 (b.toNat : Int)) ∧ W.frozen? ⟨g, X.length, none⟩ = false ∧ ∀ c : UInt8, OwnB base v (X ++ [c]) (W.setCell ⟨g, X.length, none⟩ (.int .u8 (c.toNat : Int))) := by
  rcases h with ⟨_, h⟩ | ⟨g, cap, cur, fz, rfl, hb, hg, hz, hc, hm, hs, ht⟩
  · exact absurd (List.append_eq_nil_iff.1 h).2 (by simp)
  · have hl : (X ++ [b]).length = X.length + 1 := by simp
    rw [hl] at hc ht
    have hx : X.length < cap := by omega
    have e : (cur.toList.take (X.length + 1))[X.length]? = some (Pl.u8 b) := by rw [ht, List.getElem?_map]; simp
    rw [List.getElem?_take, if_pos (by omega)] at e
    refine ⟨g, cap, by rw [hl], hb, (Array.getElem?_eq_some_iff.1 hg).1, hc, ?_, ?_, fun c => ?_⟩
    · rw [cell_of_row W g X.length cur 5 fz hg]
      simpa [Pl.u8] using e
    · have := hz X.length hx
      obtain ⟨lo, hi⟩ := fz
      simp only [World.frozen?, hg, Bool.and_eq_false_iff, decide_eq_false_iff_not]
      simp only at this
      omega
    · rw [setCell_eq_setRow W g X.length cur 5 fz _ hg]
      refine .inr ⟨g, cap, cur.setIfInBounds X.length (.int .u8 (c.toNat : Int)), fz, by rw [hl]; simp, hb, setRow_heap W g cur _ 5 fz hg, hz, by simp; omega, hm, by simpa using hs, ?_⟩
      have hl2 : (X ++ [c]).length = X.length + 1 := by simp
      rw [hl2, Array.toList_setIfInBounds, List.take_set, ht]
      simp [Pl.u8]
theorem Pl.short_take (Q : List UInt8) (hQ : ∀ c ∈ Q, 128 ≤ c.toNat) (hQ1 : 0 < Q.length) (hQ2 : Q.length ≤ 1000) : Pl.takeAll (Pl.hd ++ 1 :: (Q ++ [0, 7])) = ([], 4, 3) := by
  have hd : (Pl.hd ++ 1 :: (Q ++ [0, 7])).drop 4 = 1 :: (Q ++ [0, 7]) := rfl
  obtain ⟨q1, q2, q3⟩ := drop_step hd
  have hw : (Pl.word7 (Pl.hd ++ 1 :: (Q ++ [0, 7])) 4).1 = 3 := by
    have ht : (Pl.take7 (Pl.hd ++ 1 :: (Q ++ [0, 7])) 5).2.2 = 3 := Pl.tk_long _ 5 0 5 0 Q [7] hQ (.inr hQ1) q2
    unfold Pl.word7 Pl.wordB
    rw [q1, Option.getD_some, if_neg (by decide), if_pos (by decide), if_pos (by rw [ht]; decide), ht]
  unfold Pl.takeAll
  rw [if_neg (by rw [Pl.isHd_enc]; decide), if_neg (by simp [Pl.hd]; omega), Pl.toks_bad _ 3999 4 q3 (by rw [hw]; decide), hw, if_neg (by decide)]
  rfl
set_option maxHeartbeats 4000000 in
set_option maxRecDepth 100000 in
theorem walk_PackShort (v m : Int) (hv : (Lit.int .i32 v).wf = true) (hm : (Lit.int .u8 m).wf = true) (w : World) :
    Calls Try.prog 10 #[.int .i32 v, .int .u8 m] w fun e w' => e = .returned (.bool true) ∧ Kept w w' := by
  have hv : -2147483648 ≤ v ∧ v ≤ 2147483647 := by simp [Lit.wf, IntKind.min, IntKind.max, IntKind.signed, IntKind.bits] at hv; omega
  have hm : 0 ≤ m ∧ m ≤ 255 := by simp [Lit.wf, IntKind.min, IntKind.max, IntKind.signed, IntKind.bits] at hm; omega
  obtain ⟨v0, v1⟩ := hv
  obtain ⟨m0, m1⟩ := hm
  have KN := Lib.hid (known9 w)
  obtain ⟨n, hn⟩ : ∃ n, n = if v < -2147483647 then 0 else v := ⟨_, rfl⟩
  have n0 : -2147483647 ≤ n := by rw [hn]; split <;> omega
  have n1 : n ≤ 2147483647 := by rw [hn]; split <;> omega
  obtain ⟨T, hT⟩ : ∃ T : List Pl.Tok, T = [⟨1, n, [], 0⟩, ⟨7, 0, [], 0⟩] := ⟨_, rfl⟩
  obtain ⟨Q, β, hQ, hQ1, hβ⟩ := Pl.num7_last (Pl.fold n)
  have hQl : Q.length ≤ 5 := by
    have := Pl.num7_len5 5 (Pl.fold n) (Pl.fold_bd n n0 n1) (by omega)
    rw [hQ, List.length_append] at this
    omega
  have hE : Pl.enc T = (Pl.hd ++ 1 :: (Q ++ [β])) ++ [7] := by
    rw [hT]
    simp only [Pl.enc, List.flatMap_cons, List.flatMap_nil, List.append_nil, Pl.Tok.bytes]
    rw [if_pos (by decide), if_neg (by decide), if_neg (by decide), hQ]
    simp
  have hmay : ∀ t ∈ T, t.may = true := fun t ht => by
    rw [hT] at ht
    rcases List.mem_cons.1 ht with rfl | ht
    · unfold Pl.Tok.may Pl.tokMay
      rw [if_pos rfl]
      exact decide_eq_true ⟨rfl, n0, n1⟩
    · obtain rfl := List.mem_singleton.1 ht
      rfl
  have hP : Pl.putAll T = (Pl.enc T, 0) := Pl.putAll_of T hmay (by rw [hE]; simp [Pl.hd]; omega)
  have CP := fun v Z hz => put_all v T (by rw [hT]; simp) (fun t ht => Pl.may_ok t (hmay t ht)) Z hz
  rw [hP, hE] at CP
  have HCP := Lib.hid CP
  have HA := Lib.hid (fun (Z : World) => rdT_lit Z T #[.int .i64 1, .int .i64 n, .string ⟨#[]⟩, .int .i64 0, .int .i64 7, .int .i64 0, .string ⟨#[]⟩, .int .i64 0] (by rw [hT]; rfl))
  rw [show T.length = 2 by rw [hT]; rfl] at HA
  obtain ⟨X, hX⟩ : ∃ X, X = Pl.hd ++ 1 :: Q := ⟨_, rfl⟩
  have hXX : Pl.hd ++ 1 :: (Q ++ [β]) = X ++ [β] := by rw [hX]; simp
  rw [hXX] at HCP
  have HX := Lib.hid hX
  have hXl : 5 ≤ X.length ∧ X.length ≤ 10 := by rw [hX]; simp [Pl.hd]; omega
  obtain ⟨x5, x10⟩ := hXl
  obtain ⟨x, hx⟩ : ∃ x, x = X.length := ⟨_, rfl⟩
  have Hx := Lib.hid hx
  rw [← hx] at x5 x10
  obtain ⟨z, hz⟩ : ∃ z : Int, z = (β.toNat : Int) := ⟨_, rfl⟩
  have z0 : 0 ≤ z := by omega
  have z1 : z < 128 := by omega
  have hzw : (z + 128) % 256 = z + 128 := by omega
  obtain ⟨γ, hγ⟩ : ∃ γ, γ = UInt8.ofNat (β.toNat + 128) := ⟨_, rfl⟩
  have hγz : (γ.toNat : Int) = z + 128 := by rw [hγ, ofNat_toNat _ (by omega), hz]; omega
  have HQ := Lib.hid (show ∀ r, ∀ c ∈ Q ++ γ :: List.replicate r 128, 128 ≤ c.toNat from fun r c hc => by
    rcases List.mem_append.1 hc with h | h
    · exact hQ1 c h
    · rcases List.mem_cons.1 h with rfl | h
      · omega
      · rw [(List.mem_replicate.1 h).2]; decide)
  have HQL := Lib.hid hQl
  obtain ⟨r, hr⟩ : ∃ r : Nat, r = (m % 3).toNat := ⟨_, rfl⟩
  have hr2 : r ≤ 2 := by omega
  have hrm : m % 3 = (r : Int) := by omega
  have HG := Lib.hid hγz
  have HZ := Lib.hid hz
  have cases : (decide (v < -2147483647) = true ∧ n = 0) ∨ (decide (v < -2147483647) = false ∧ n = v) := by
    by_cases h : v < -2147483647
    · exact .inl ⟨decide_eq_true h, by rw [hn, if_pos h]⟩
    · exact .inr ⟨decide_eq_false h, by rw [hn, if_neg h]⟩
  clear CP hP hmay hE hQl hβ hQ1 hQ hT hn hX hXX hx hz hγ hγz hr
  rcases cases with ⟨g1, rfl⟩ | ⟨g1, rfl⟩
  all_goals
    go_enter Try.func10, Try.ntmps10
    go_wp2_with fail
    refine (KN.out).mono ?_
    rintro e w1 ⟨rfl, f1⟩
    have F1 := Lib.hid f1
    have HA1 := Lib.hid (HA.out w1)
    clear f1
    go_wp2_with fail
    refine (HCP.out _ _ HA1.out).mono ?_
    rintro e w2 ⟨vb, rfl, ob, f2⟩
    have F2 := Lib.hid ((F1.out.trans (Fr.alloc _ _ _)).trans f2)
    obtain ⟨gb, capb, rfl, hb1, hb2, hb3, _⟩ := OwnB.last ob
    have RB := Lib.hid (ob.rd.take (x + 1) (by rw [Hx.out]; simp))
    rw [show List.take (x + 1) (X ++ [β] ++ [7]) = X ++ [β] by rw [show x + 1 = (X ++ [β]).length by rw [Hx.out]; simp, List.take_left]] at RB
    rw [show (X ++ [β]).length + 1 = x + 2 by rw [Hx.out]; simp] at hb3 ⊢
    clear ob f2 hb1 hb2
    go_wp2_with (at_builtin; refine wpList_appB _ w.heap.size (.slice none 0 0) [] (.inl ⟨rfl, rfl⟩) (.slice (some ⟨gb, 0, none⟩) (x + 1) capb) (X ++ [β]) 30 (.inl rfl) (src_slice RB.out) (by rw [List.length_append, ← Hx.out]; simp; omega) F2.out.2.2.1 (hgd := rfl) (.const (.slice none 0 0)) (.tmp 38) rfl (by simp [Act.eval]) (by simp [Act.eval]) ?_)
    intro vc wc oc gc hgc
    have oc2 : OwnB w.heap.size vc (X ++ [β]) wc := by simpa using oc
    have FC0 := Lib.hid (F2.out.trans' (Fr.grown (fun k => (Value.slice none 0 0).ownBlock = some k) gc (fun k hk => hk)) (fun k hk => by cases hk))
    obtain ⟨gq, capq, rfl, hq1, hq2, hq3, c0, c1, hset⟩ := OwnB.last oc2
    rw [← HZ.out] at c0
    rw [← Hx.out] at c0 c1 hq3 hset ⊢
    have OS0 := Lib.hid (hset γ)
    rw [HG.out] at OS0
    have FS := Lib.hid (FC0.out.trans' (Fr.setCell (fun k => k = gq) wc ⟨gq, x, none⟩ (.int .u8 (z + 128)) rfl) (fun k hk => .inr (by omega)))
    clear oc oc2 gc hgc hset hq1 RB HA1
    go_wp2_with fail
    go_loopw [8, 9] (fun s8 s9 wr => ∃ (j : Nat) (bv : Value), bv = s8 ∧ s9 = .int .i64 (j : Int) ∧ j ≤ r ∧ Hid (OwnB w.heap.size bv (X ++ γ :: List.replicate j 128) wr) ∧ Hid (Fr (fun _ => False) w wr)) (fun _ s9 _ => (r - intOf s9).toNat)
    case atStart => exact ⟨0, _, rfl, rfl, by omega, OS0, FS⟩
    case round =>
      clear OS0 FS FC0 c0 c1 hq2 hq3
      obtain ⟨j, s8, rfl, rfl, hj, HO, HF⟩ := hrel
      have HFS : Hid (w.heap.size ≤ wr.heap.size) := Lib.hid HF.out.2.2.1
      have HJL : Hid ((X ++ γ :: List.replicate j 128).length ≤ 100) := Lib.hid (by rw [List.length_append, ← Hx.out]; simp; omega)
      by_cases hjr : j < r
      · have hjI : decide ((j : Int) < (r : Int)) = true := decide_eq_true (by omega)
        have HJR := Lib.hid hjr
        have HB := Lib.hid (one_row wr 128 128 rfl)
        have HAQ : Hid (OwnB w.heap.size s8 (X ++ γ :: List.replicate j 128) (wr.alloc (.cells #[.int .u8 128] 5))) := Lib.hid (HO.out.fr (Fr.alloc (fun _ => False) wr _) (fun _ _ f => f))
        have FA := Lib.hid (HF.out.trans (Fr.alloc (fun _ => False) wr (.cells #[.int .u8 128] 5)))
        clear hjr hj
        go_wp2_with (at_builtin; refine wpList_appB _ w.heap.size s8 (X ++ γ :: List.replicate j 128) HAQ.out _ [128] 30 (.inl rfl) (src_slice HB.out) (by have := HJL.out; simp only [List.length_singleton]; omega) FA.out.2.2.1 (hgd := rfl) (.tmp 59) (.tmp 60) rfl (by simp [Act.eval]) (by simp [Act.eval]) ?_)
        intro v3 w3 o3 g3 hg3
        have O3 : Hid (OwnB w.heap.size v3 (X ++ γ :: List.replicate (j + 1) 128) w3) := Lib.hid (by rw [List.replicate_succ']; simpa using o3)
        have F3 := Lib.hid (FA.out.trans' (Fr.grown (fun k => s8.ownBlock = some k) g3 (fun k hk => hk)) (fun k hk => .inr (HO.out.from k hk).1))
        clear o3 g3 hg3
        go_wp2_with fail
        exact ⟨⟨j + 1, _, rfl, by simp, by have := HJR.out; omega, O3, F3⟩, by have := HJR.out; simp only [intOf]; omega⟩
      · obtain rfl : j = r := by omega
        have hjI : decide ((j : Int) < (j : Int)) = false := decide_eq_false (by omega)
        have HB := Lib.hid (one_row wr 0 0 rfl)
        have HAQ : Hid (OwnB w.heap.size s8 (X ++ γ :: List.replicate j 128) (wr.alloc (.cells #[.int .u8 0] 5))) := Lib.hid (HO.out.fr (Fr.alloc (fun _ => False) wr _) (fun _ _ f => f))
        have FA := Lib.hid (HF.out.trans (Fr.alloc (fun _ => False) wr (.cells #[.int .u8 0] 5)))
        clear hjr hj
        go_wp2_with (at_builtin; refine wpList_appB _ w.heap.size s8 (X ++ γ :: List.replicate j 128) HAQ.out _ [0] 30 (.inl rfl) (src_slice HB.out) (by have := HJL.out; simp only [List.length_singleton]; omega) FA.out.2.2.1 (hgd := rfl) (.tmp 63) (.tmp 64) rfl (by simp [Act.eval]) (by simp [Act.eval]) ?_)
        intro v3 w3 o3 g3 hg3
        obtain ⟨L3, hL3⟩ : ∃ L3, L3 = X ++ γ :: (List.replicate j 128 ++ [0]) := ⟨_, rfl⟩
        have O3 : Hid (OwnB w.heap.size v3 L3 w3) := Lib.hid (by rw [hL3]; simpa using o3)
        have HL3 := Lib.hid hL3
        have HL3l : Hid (L3.length ≤ 101) := Lib.hid (by have := HJL.out; rw [hL3]; simp at this ⊢; omega)
        have F3 := Lib.hid (FA.out.trans' (Fr.grown (fun k => s8.ownBlock = some k) g3 (fun k hk => hk)) (fun k hk => .inr (HO.out.from k hk).1))
        have HB3 := Lib.hid (one_row w3 7 7 rfl)
        have HA3 : Hid (OwnB w.heap.size v3 L3 (w3.alloc (.cells #[.int .u8 7] 5))) := Lib.hid (O3.out.fr (Fr.alloc (fun _ => False) w3 _) (fun _ _ f => f))
        have FA3 := Lib.hid (F3.out.trans (Fr.alloc (fun _ => False) w3 (.cells #[.int .u8 7] 5)))
        clear o3 g3 hg3 hL3 HAQ FA HB
        go_wp2_with (at_builtin; refine wpList_appB _ w.heap.size v3 L3 HA3.out _ [7] 30 (.inl rfl) (src_slice HB3.out) (by have := HL3l.out; simp only [List.length_singleton]; omega) FA3.out.2.2.1 (hgd := rfl) (.tmp 65) (.tmp 66) rfl (by simp [Act.eval]) (by simp [Act.eval]) ?_)
        intro v4 w4 o4 g4 hg4
        have F4 := Lib.hid (FA3.out.trans' (Fr.grown (fun k => v3.ownBlock = some k) g4 (fun k hk => hk)) (fun k hk => .inr (O3.out.from k hk).1))
        have e4 : L3 ++ [7] = Pl.hd ++ 1 :: ((Q ++ γ :: List.replicate j 128) ++ [0, 7]) := by rw [HL3.out, HX.out]; simp
        have CT := Lib.hid (take_all v4 (L3 ++ [7]) (by have := HL3l.out; rw [List.length_append]; simp; omega) w4 o4.rd)
        rw [e4, Pl.short_take _ (HQ.out j) (by simp only [List.length_append, List.length_cons]; omega) (by have := HQL.out; simp; omega)] at CT
        clear o4 g4 hg4 e4
        go_wp2_with fail
        refine (CT.out).mono ?_
        rintro e w5 ⟨lv, rfl, r5, f5⟩
        have F5 := Lib.hid (F4.out.trans f5)
        obtain ⟨ao5, cap5, rfl⟩ := own_shape r5
        clear f5 r5
        go_wp2_with fail
        go_ret
        exact ⟨rfl, Kept.of_fr F5.out⟩
end Go.Proofs.Ytpfkijjpophobaa
